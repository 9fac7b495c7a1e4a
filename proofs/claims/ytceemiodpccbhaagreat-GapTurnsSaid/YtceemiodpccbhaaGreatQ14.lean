import Derived.Test.YtceemiodpccbhaaGreatQ13
import Derived.Laws.BitsAllLaws
set_option linter.unusedVariables false
set_option linter.unusedSimpArgs false

namespace Go.Proofs.YtceemiodpccbhaaGreat
open Go.RowKit
theorem guess_dec{U V P u0 u2 high v0 v1 v2 q r:Nat}(hu0:u0<P)(hU:U=u0+P*(u2+4294967296*high))(hV:V=v0+P*(v2+4294967296*v1))(hlt:U<4294967296*V)
  (hq:q*v1+r=high) (hle:U/V<=q) (h:4294967296<=q\/r*4294967296+u2<q*v2):1<=q/\U/V<=q-1:=by
 have hV0:0<V:=by
  rcases Nat.eq_zero_or_pos V with e|e
  ·rw[e] at hlt;omega
  ·exact e
 rcases h with h|h
 ·have : U / V < 4294967296 := (Nat.div_lt_iff_lt_mul hV0).2 hlt
  omega
 ·have h1:1<=q:=by
   rcases Nat.eq_zero_or_pos q with e|e
   ·subst e;simp at h
   ·exact e
  refine⟨h1,?_⟩
  have:¬q<=U/V:=by
   intro hc
   rw[Nat.le_div_iff_mul_le hV0] at hc
   have e1:q*V=q*v0+P*(q*v2)+P*(4294967296*(q*v1)):=by rw[hV];grind
   have e2:U=u0+P*u2+P*(4294967296*(q*v1))+P*(r*4294967296):=by rw[hU,<- hq];grind
   have h2:=Nat.mul_le_mul_left P (Nat.succ_le_of_lt h)
   have e3:P*Nat.succ (r*4294967296+u2)=P*(r*4294967296)+P*u2+P:=by rw[Nat.succ_eq_add_one];grind
   rw[e3] at h2
   rw[e1,e2] at hc
   generalize P*(4294967296*(q*v1))=x1 at *
   generalize P*(q*v2)=x2 at *
   generalize P*(r*4294967296)=x3 at *
   generalize P*u2=x4 at *
   generalize q*v0=x5 at *
   omega
  omega
theorem guess_start{U V P w high v1 vr:Nat}(hw:w<P)(hU:U=w+P*high)(hV:V=vr+P*v1)(hv1:0<v1):U/V<=high/v1:=by
 have hP:0<P:=by omega
 have hV0:0<V:=by
  have:=Nat.mul_pos hP hv1
  omega
 rw[Nat.le_div_iff_mul_le hv1]
 have h:=Nat.div_mul_le_self U V
 generalize U/V=q at *
 have e1:q*V=q*vr+P*(q*v1):=by rw[hV];grind
 have:P*(q*v1)<P*(high+1):=by
  have e2:P*(high+1)=P*high+P:=by grind
  rw[e1] at h
  rw[e2]
  generalize P*(q*v1)=x1 at *
  generalize P*high=x2 at *
  generalize q*vr=x3 at *
  omega
 have:=Nat.lt_of_mul_lt_mul_left this
 omega
theorem guess_end{U V P u0 u1 u2 ut v0 v1 v2 q r:Nat}(hv0:v0<P)(hv1:0<v1)(hv2:v2<4294967296)(hu0:u0<P)(hu1:u1<4294967296)(hU:U=u0+P*(u2+4294967296*(u1+4294967296*ut)))(hV:V=v0+P*(v2+4294967296*v1))(hlt:U<4294967296*V)
  (hq:q*v1+r=u1+4294967296*ut) (h:4294967296<=r\/(q<4294967296/\q*v2<=r*4294967296+u2)):q<4294967296/\q<=U/V+1:=by
 have hP:0<P:=by omega
 have hV0:0<V:=by
  rcases Nat.eq_zero_or_pos V with e|e
  ·rw[e] at hlt;omega
  ·exact e
 have hut:ut<=v1:=by
  have:¬v1+1<=ut:=by
   intro hc
   have h1:=Nat.mul_le_mul_left (P*(4294967296*4294967296)) hc
   have e1:P*(4294967296*4294967296)*(v1+1)=4294967296*(P*(4294967296*v1))+4294967296*(P*4294967296):=by grind
   have e2:U=u0+P*u2+P*(4294967296*u1)+P*(4294967296*4294967296)*ut:=by rw[hU];grind
   have e3:4294967296*V=4294967296*v0+4294967296*(P*v2)+4294967296*(P*(4294967296*v1)):=by rw[hV];grind
   have h2:P*v2+P<=P*4294967296:=by
    have h9:P*(v2+1)<=P*4294967296:=Nat.mul_le_mul_left P hv2
    have e9:P*(v2+1)=P*v2+P:=by grind
    omega
   rw[e1] at h1
   rw[e3,e2] at hlt
   omega
  omega
 have hqb:q<4294967296:=by
  rcases h with h|h
  ·have:¬4294967296<=q:=by
    intro hc
    have h1:=Nat.mul_le_mul_right v1 hc
    have h2:=Nat.mul_le_mul_left 4294967296 hut
    omega
   omega
  ·exact h.1
 have h2:q*v2<=r*4294967296+u2:=by
  rcases h with h|h
  ·have h1 : q * v2 <= 4294967296 * 4294967296 := Nat.mul_le_mul (by omega) (by omega)
   omega
  ·exact h.2
 refine⟨hqb,?_⟩
 rcases Nat.eq_zero_or_pos q with e|e
 ·rw[e];exact Nat.zero_le _
 ·obtain ⟨p, rfl⟩ : ∃ p, q = p + 1 := ⟨q - 1, by omega⟩
  have:p<=U/V:=by
   rw[Nat.le_div_iff_mul_le hV0]
   have e1:(p+1)*V=(p+1)*v0+P*((p+1)*v2)+P*(4294967296*((p+1)*v1)):=by rw[hV];grind
   have e2:U=u0+P*u2+P*(4294967296*((p+1)*v1))+P*(r*4294967296):=by rw[hU,<- hq];grind
   have e3:(p+1)*V=p*V+V:=by grind
   have h3:=Nat.mul_le_mul_left P h2
   have e4:P*(r*4294967296+u2)=P*(r*4294967296)+P*u2:=by grind
   have h5:(p+1)*v0<=V:=by
    have h6:(p+1)*v0<=4294967296*P:=Nat.mul_le_mul (by omega) (by omega)
    have h7:P*(4294967296*1)<=P*(4294967296*v1):=Nat.mul_le_mul_left _ (Nat.mul_le_mul_left _ hv1)
    have e5:V=v0+P*v2+P*(4294967296*v1):=by rw[hV];grind
    have e6:P*(4294967296*1)=4294967296*P:=by grind
    rw[e5]
    omega
   rw[e4] at h3
   rw[e3] at e1
   omega
  omega
def RedInv(q:Nat)(u v:List Nat)(o:List Nat)(c b:Nat):Prop :=
 Dig o/\c<=q/\b<=1/\val (u.take o.length)+4294967296 ^ o.length*(c+b)=val o+q*val (v.take o.length)
theorem val_snocK(o:List Nat)(x:Nat):val (o++[x])=val o+4294967296 ^ o.length*x:=by rw[val_append];simp[val]
theorem val_take_K(d:List Nat)(k:Nat):val (d.take (k+1))=val (d.take k)+4294967296 ^ k*(d[k]?.getD 0):=by
 by_cases h:k<d.length
 ·rw[List.take_succ_eq_append_getElem h,val_append,List.length_take,Nat.min_eq_left (by omega),List.getElem?_eq_getElem h];simp[val]
 ·rw[List.take_of_length_le (by omega),List.take_of_length_le (by omega),List.getElem?_eq_none (by omega)];simp
theorem red_step{q:Nat}{u v o:List Nat}{c b x d:Nat}(hq:q<4294967296)(h:RedInv q u v o c b)(hx:u[o.length]?.getD 0=x)(hd:v[o.length]?.getD 0=d)(hdb:d<4294967296)(hxb:x<4294967296) :
  RedInv q u v (o++[(x+8589934592-(c+q*d)%4294967296-b)%4294967296]) ((c+q*d)/4294967296) (if x<(c+q*d)%4294967296+b then 1 else 0)/\c+q*d<18446744073709551616:=by
 obtain⟨h1,h2,h3,h4⟩:=h
 have hqd:q*d<=q*4294967295:=Nat.mul_le_mul_left _ (by omega)
 have hc:c+q*d<18446744073709551616:=by omega
 refine⟨⟨?_,by omega,by split<;>omega,?_⟩,hc⟩
 ·intro y hy
  rcases List.mem_append.1 hy with g|g
  ·exact h1 y g
  ·rw[List.mem_singleton] at g;subst g;exact Nat.mod_lt _ (by omega)
 ·rw [List.length_append, List.length_singleton, val_take_K, val_take_K, val_snocK, hx, hd, Nat.pow_succ]
  have e1:q*(val (v.take o.length)+4294967296 ^ o.length*d)=q*val (v.take o.length)+4294967296 ^ o.length*(q*d):=by grind
  rw[e1]
  generalize q*val (v.take o.length)=a1 at *
  generalize val (u.take o.length)=a2 at *
  generalize val o=a3 at *
  generalize 4294967296 ^ o.length=P at *
  generalize q*d=t at *
  have key:∀(b' y:Nat),x+4294967296*((c+t)/4294967296+b')+(c+b)=y+t+(c+b)+0+(c+b)->a2+P*x+P*4294967296*((c+t)/4294967296+b')=a3+P*y+(a1+P*t):=by
   intro b' y hy
   have e2:P*x+P*4294967296*((c+t)/4294967296+b')=P*(y+t+(c+b)):=by
    have:x+4294967296*((c+t)/4294967296+b')=y+t+(c+b):=by omega
    rw[<- this];grind
   have e3:P*(y+t+(c+b))=P*y+P*t+P*(c+b):=by grind
   rw[Nat.add_assoc,e2,e3]
   omega
  apply key
  split<;>omega
theorem val_pos_of{b:List Nat}{n x:Nat}(hl:b.length=n+1)(hx:b[n]?.getD 0=x):val b=val (b.take n)+4294967296 ^ n*x:=by
 have h:=val_take_K b n
 rw[hx,List.take_of_length_le (by omega)] at h
 exact h
theorem red_keep{q:Nat}{u v o:List Nat}{c b x:Nat}(h:RedInv q u v o c b)(ho:o.length=v.length)(hu:u.length=v.length+1)(hx:u[v.length]?.getD 0=x)(hle:c+b<=x) :
  val u=val (o++[x-c-b])+q*val v:=by
 obtain⟨_,_,_,h4⟩:=h
 rw[ho,List.take_of_length_le (Nat.le_refl v.length)] at h4
 rw[val_pos_of hu hx,val_snocK,ho]
 generalize 4294967296 ^ v.length=P at *
 obtain⟨t,rfl⟩:∃t,x=t+(c+b):=⟨x-(c+b),by omega⟩
 rw[show t+(c+b)-c-b=t by omega]
 have e:P*(t+(c+b))=P*t+P*(c+b):=by grind
 omega
theorem red_borrow{q:Nat}{u v o:List Nat}{c b x:Nat}(h:RedInv q u v o c b)(hq:q<4294967296)(ho:o.length=v.length)(hu:u.length=v.length+1)(hx:u[v.length]?.getD 0=x)(hlt:x<c+b) :
  val u+4294967296 ^ (v.length+1)=val (o++[x+4294967296-c-b])+q*val v:=by
 obtain⟨_,h2,h3,h4⟩:=h
 rw[ho,List.take_of_length_le (Nat.le_refl v.length)] at h4
 rw[val_pos_of hu hx,val_snocK,ho,Nat.pow_succ]
 generalize 4294967296 ^ v.length=P at *
 obtain⟨t,ht⟩:∃t,x+4294967296=t+(c+b):=⟨x+4294967296-(c+b),by omega⟩
 rw[show x+4294967296-c-b=t by omega]
 have e:P*(x+4294967296)=P*t+P*(c+b):=by rw[ht];grind
 have e2:P*(x+4294967296)=P*x+P*4294967296:=by grind
 omega
theorem quot_of{U V W q:Nat}(hV:0<V)(h:U=W+q*V)(hq:U/V<=q):q=U/V/\W=U%V:=by
 have h1:q<=U/V:=by rw[Nat.le_div_iff_mul_le hV];omega
 obtain rfl:q=U/V:=by omega
 refine⟨rfl,?_⟩
 have:=Nat.div_add_mod U V
 rw[Nat.mul_comm V] at this
 omega
theorem red_back{q:Nat}{u v o o2:List Nat}{y c2:Nat}(h:val u+4294967296 ^ (v.length+1)=val (o++[y])+q*val v)(ho:o.length=v.length)(ho2:o2.length=v.length)(hs:sumInv (o++[y]) v o2 c2)
  (hy:y<4294967296) (dd:Dig o) (du:Dig u) (hu:u.length=v.length+1) (hV:0<val v) (hq:q<=val u/val v+1):y+c2=4294967296/\q-1=val u/val v/\1<=q/\val o2=val u%val v:=by
 obtain⟨d2,hc2,hs2⟩:=hs
 have hlu:=val_lt du
 rw[hu] at hlu
 have hlo2:=val_lt d2
 have hlo:val (o++[y])<4294967296 ^ (v.length+1):=by
  have:=val_lt (dd.append (Dig.cons hy Dig.nil))
  rwa [List.length_append,List.length_singleton,ho] at this
 have hqV:val u<q*val v:=by omega
 have hq1:val u/val v<q:=(Nat.div_lt_iff_lt_mul hV).2 hqV
 obtain rfl:q=val u/val v+1:=by omega
 have hm:=Nat.div_add_mod (val u) (val v)
 rw[Nat.mul_comm] at hm
 have hmlt:=Nat.mod_lt (val u) hV
 rw[Nat.add_mul,Nat.one_mul] at h
 rw[ho2,List.take_of_length_le (Nat.le_refl v.length),<- ho,List.take_left,ho] at hs2
 rw[val_snocK,ho,Nat.pow_succ] at h
 rw[ho2] at hlo2
 have key:val o2+4294967296 ^ v.length*(c2+y)=val u%val v+4294967296 ^ v.length*4294967296:=by
  have e:4294967296 ^ v.length*(c2+y)=4294967296 ^ v.length*c2+4294967296 ^ v.length*y:=by grind
  omega
 have hvl:val u%val v<4294967296 ^ v.length*(c2+y+1):=by
  have e:4294967296 ^ v.length*(c2+y+1)=4294967296 ^ v.length*(c2+y)+4294967296 ^ v.length:=by grind
  rw[e]
  omega
 have hb:¬c2+y<4294967296:=by
  intro hc
  have h9:4294967296 ^ v.length*(c2+y+1)<=4294967296 ^ v.length*4294967296:=Nat.mul_le_mul_left _ hc
  have e:4294967296 ^ v.length*(c2+y+1)=4294967296 ^ v.length*(c2+y)+4294967296 ^ v.length:=by grind
  omega
 have hb2:y+c2=4294967296:=by omega
 refine⟨hb2,Nat.add_sub_cancel _ _,Nat.le_add_left _ _,?_⟩
 rw[show c2+y=4294967296 by omega] at key
 omega
def ShInv(s:Nat)(a o:List Nat)(c:Nat):Prop:=Dig o/\c<s/\val o+4294967296 ^ o.length*c=s*val (a.take o.length)
theorem sh_step{s e:Nat}(hse:s*e=4294967296){a o:List Nat}{c d:Nat}(h:ShInv s a o c)(hd:a[o.length]?.getD 0=d)(hdb:d<4294967296) :
  ShInv s a (o++[d%e*s+c]) (d/e)/\d%e*s+c<4294967296:=by
 obtain⟨h1,h2,h3⟩:=h
 have he:0<e:=by
  rcases Nat.eq_zero_or_pos e with g|g
  ·subst g;simp at hse
  ·exact g
 have hm:=Nat.mod_lt d he
 have hlt:d%e*s+c<4294967296:=by
  have h4:(d%e+1)*s<=e*s:=Nat.mul_le_mul_right _ hm
  rw[Nat.mul_comm e,hse,Nat.add_mul,Nat.one_mul] at h4
  omega
 refine⟨⟨h1.append (Dig.cons hlt Dig.nil),?_,?_⟩,hlt⟩
 ·rw[Nat.div_lt_iff_lt_mul he,hse];exact hdb
 ·rw [List.length_append, List.length_singleton, val_snocK, val_take_K, hd, Nat.pow_succ]
  have e1:s*(val (a.take o.length)+4294967296 ^ o.length*d)=s*val (a.take o.length)+4294967296 ^ o.length*(s*d):=by grind
  have e2:s*d=d%e*s+4294967296*(d/e):=by
   have:=Nat.div_add_mod d e
   rw[<- hse]
   conv=>lhs;rw[<- this]
   grind
  rw[e1,e2,<- h3]
  generalize 4294967296 ^ o.length=P
  grind
theorem sh_end{s:Nat}{a o:List Nat}{c:Nat}(h:ShInv s a o c)(hl:o.length=a.length):val (o++[c])=s*val a:=by
 obtain⟨_,_,h3⟩:=h
 rw[hl,List.take_of_length_le (Nat.le_refl a.length)] at h3
 rw[val_snocK,hl]
 exact h3
theorem shr_digit{s e:Nat}(hse:s*e=4294967296){u1 u0:Nat}(h0:u0<4294967296) :
  s*((u1*4294967296+u0)/s%4294967296)=u1%s*4294967296+s*(u0/s):=by
 have hs:0<s:=by
  rcases Nat.eq_zero_or_pos s with g|g
  ·subst g;simp at hse
  ·exact g
 have he:0<e:=by
  rcases Nat.eq_zero_or_pos e with g|g
  ·subst g;simp at hse
  ·exact g
 have e1:(u1*4294967296+u0)/s=u1*e+u0/s:=by
  rw[<- hse,show u1*(s*e)+u0=s*(u1*e)+u0 by grind,Nat.mul_add_div hs]
 have e2:u1*e=u1%s*e+4294967296*(u1/s):=by
  have:=Nat.div_add_mod u1 s
  rw[<- hse]
  conv=>lhs;rw[<- this]
  grind
 have h3:u0/s<e:=by rw[Nat.div_lt_iff_lt_mul hs,Nat.mul_comm,hse];exact h0
 have h4:(u1%s+1)*e<=s*e:=Nat.mul_le_mul_right _ (Nat.mod_lt u1 hs)
 rw[hse,Nat.add_mul,Nat.one_mul] at h4
 have e3:(u1*4294967296+u0)/s%4294967296=u1%s*e+u0/s:=by
  rw[e1,e2]
  rw[show u1%s*e+4294967296*(u1/s)+u0/s=(u1%s*e+u0/s)+4294967296*(u1/s) by omega,Nat.add_mul_mod_self_left,Nat.mod_eq_of_lt]
  generalize u0/s=g at *
  omega
 rw[e3,<- hse]
 grind
def ShrInv(s:Nat)(u o:List Nat):Prop:=Dig o/\s*val o+val u%s=val (u.take o.length)+4294967296 ^ o.length*(u[o.length]?.getD 0%s)
theorem shr_start{s e:Nat}(hse:s*e=4294967296)(u:List Nat)(h0:0<u.length):ShrInv s u []:=by
 refine⟨Dig.nil,?_⟩
 cases u with
 | nil=>simp at h0
 | cons x r =>
  simp only[val_nil,List.length_nil,List.take_zero,List.getElem?_cons_zero,Option.getD_some,val_cons]
  rw[<- hse,Nat.mul_assoc,Nat.add_mul_mod_self_left]
  simp
theorem shr_step{s e:Nat}(hse:s*e=4294967296){u o:List Nat}(h:ShrInv s u o){u0 u1:Nat}(h0:u[o.length]?.getD 0=u0)(h1:u[o.length+1]?.getD 0=u1)(hb:u0<4294967296) :
  ShrInv s u (o++[(u1*4294967296+u0)/s%4294967296]):=by
 obtain⟨d,h2⟩:=h
 refine⟨d.append (Dig.cons (Nat.mod_lt _ (by omega)) Dig.nil),?_⟩
 rw[List.length_append,List.length_singleton,val_snocK,val_take_K,h0,h1,Nat.pow_succ]
 rw[h0] at h2
 have k:=shr_digit hse (u1:=u1) hb
 generalize (u1*4294967296+u0)/s%4294967296=r at *
 have e1:s*(val o+4294967296 ^ o.length*r)=s*val o+4294967296 ^ o.length*(s*r):=by grind
 rw[e1,k]
 have e2:u0=s*(u0/s)+u0%s:=(Nat.div_add_mod u0 s).symm
 generalize 4294967296 ^ o.length=P at *
 generalize u0/s=g at *
 generalize u0%s=g2 at *
 rw[e2]
 grind
theorem shr_end{s:Nat}{u o:List Nat}(h:ShrInv s u o){n R:Nat}(hs:0<s)(hl:o.length=n)(hu:val u<4294967296 ^ n)(hd:Dig u)(hul:n<u.length)(hR:val u=s*R):val o=R:=by
 obtain⟨_,h2⟩:=h
 rw[hl] at h2
 have h3:=val_take_drop u n (by omega)
 have h4:val (u.drop n)=0:=by
  rcases Nat.eq_zero_or_pos (val (u.drop n)) with g|g
  ·exact g
  ·have := Nat.mul_le_mul_left (4294967296 ^ n) g
   omega
 have h5:u[n]?.getD 0=0:=by
  rw[List.drop_eq_getElem_cons hul,val_cons] at h4
  rw[List.getElem?_eq_getElem hul,Option.getD_some]
  omega
 rw[h5,Nat.zero_mod,Nat.mul_zero,Nat.add_zero] at h2
 rw[h4,Nat.mul_zero,Nat.add_zero] at h3
 rw[<- h3,hR,Nat.mul_mod_right,Nat.add_zero] at h2
 exact Nat.eq_of_mul_eq_mul_left hs h2
structure LongInv (A V k:Nat) (u qs:List Nat):Prop where
 du:Dig u
 dq:Dig qs
 eq:val u+4294967296 ^ k*(val qs*V)=A
 lt:val u<4294967296 ^ k*V
theorem long_part{A V k n:Nat}{pre part post qs:List Nat}(hl:pre.length=k)(hp:part.length=n+1)(hV:V<4294967296 ^ n)(h:LongInv A V (k+1) (pre++(part++post)) qs) :
  val post=0/\val part<4294967296*V:=by
 have h1:=h.lt
 have ek:(4294967296:Nat) ^ (k+1)=4294967296 ^ k*4294967296:=Nat.pow_succ _ _
 rw[val_append,val_append,hl,hp,ek] at h1
 have h2:val part+4294967296 ^ (n+1)*val post<4294967296*V:=by
  have:4294967296 ^ k*(val part+4294967296 ^ (n+1)*val post)<4294967296 ^ k*(4294967296*V):=by
   rw[<- Nat.mul_assoc];omega
  exact Nat.lt_of_mul_lt_mul_left this
 refine⟨?_,by omega⟩
 rcases Nat.eq_zero_or_pos (val post) with g|g
 ·exact g
 ·have h3 : 4294967296 ^ (n + 1) * 1 <= 4294967296 ^ (n + 1) * val post := Nat.mul_le_mul_left _ g
  rw[Nat.mul_one,Nat.pow_succ] at h3
  rw[Nat.pow_succ] at h2
  omega
theorem long_step{A V k n:Nat}{pre part post qs part':List Nat}(hl:pre.length=k)(hp:part.length=n+1)(hp':part'.length=n+1)(hV:V<4294967296 ^ n)(hV0:0<V)(h:LongInv A V (k+1) (pre++(part++post)) qs)
  (d':Dig part') (he:val part'=val part%V):LongInv A V k (pre++(part'++post)) (val part/V::qs):=by
 obtain⟨h1,h2⟩:=long_part hl hp hV h
 have dpre:Dig pre:=fun x hx=>h.du x (List.mem_append_left _ hx)
 have dpost:Dig post:=fun x hx=>h.du x (List.mem_append_right _ (List.mem_append_right _ hx))
 refine⟨dpre.append (d'.append dpost),Dig.cons ((Nat.div_lt_iff_lt_mul hV0).2 h2) h.dq,?_,?_⟩
 ·have h3 := h.eq
  rw[val_append,val_append,h1,hl,Nat.mul_zero,Nat.add_zero,Nat.pow_succ] at h3
  rw[val_append,val_append,h1,hl,Nat.mul_zero,Nat.add_zero,he,val_cons,<- h3]
  have h4:=Nat.div_add_mod (val part) V
  conv=>rhs;rw[<- h4]
  generalize val part%V=m
  generalize val part/V=g
  generalize 4294967296 ^ k=P
  grind
 ·rw [val_append, val_append, h1, hl, Nat.mul_zero, Nat.add_zero, he]
  have h3:=val_lt dpre
  rw[hl] at h3
  have h4:=Nat.mul_le_mul_left (4294967296 ^ k) (Nat.succ_le_of_lt (Nat.mod_lt (val part) hV0))
  have e:4294967296 ^ k*(val part%V).succ=4294967296 ^ k*(val part%V)+4294967296 ^ k:=by rw[Nat.succ_eq_add_one];grind
  omega
theorem long_end{A V:Nat}{u qs:List Nat}(hV0:0<V)(h:LongInv A V 0 u qs):val qs=A/V/\val u=A%V:=by
 have h1:=h.eq
 have h2:=h.lt
 rw[Nat.pow_zero,Nat.one_mul] at h1 h2
 refine quot_of hV0 h1.symm ?_
 rw[<- Nat.lt_succ_iff,Nat.div_lt_iff_lt_mul hV0,<- h1,Nat.succ_eq_add_one]
 have:(val qs+1)*V=val qs*V+V:=by grind
 omega

set_option maxHeartbeats 2000000
set_option maxRecDepth 100000
section
theorem ret_u64{a b:Int}(h:a=b):Value.int .u64 a=Value.int .u64 b:=by rw[h]
end

set_option maxHeartbeats 1000000
set_option maxRecDepth 100000
section
theorem tight_len{a b:List Nat}(da:Dig a)(tb:Tight b)(h:val b<=val a):b.length<=a.length:=by
 rcases Nat.lt_or_ge a.length b.length with g|g
 ·have := val_lt_of_length da tb g
  omega
 ·exact g
end

set_option maxHeartbeats 2000000
set_option maxRecDepth 100000
section
theorem num_trim(d:List Nat)(p:Option Addr)(l c:Nat)(w:World)(h:Row w p c d)(hl:l=d.length) :
  Calls Tryz.prog 203 #[.slice p l c] w (RetCut w p c (trim d)):=by
 subst hl
 have hle:=h.le
 have hm:=h.max
 go_enter Tryz.func203,Tryz.ntmps203
 go_wp2
 go_loop [0] (fun n=>∃k:Nat,k<=d.length/\n=.slice p k c/\val (d.take k)=val d) (fun n=>match n with | .slice _ k _=>k|_=>0)
 case atStart=>exact⟨d.length,Nat.le_refl _,rfl,by rw[List.take_of_length_le (Nat.le_refl _)]⟩
 case round =>
  obtain⟨k,hk,rfl,hv⟩:=hrel
  have V:=Lib.hid hv
  clear hv
  cases k with
  | zero =>
   have T:=Lib.hid (trim_eq_take h.dig hk V.out (by omega))
   go_wp2
   go_ret
   rw[T.out]
   exact⟨by simp,h.take 0 (by omega),bxx⟩
  | succ j =>
   obtain⟨b,o,rfl,hb,hc⟩:=h.at (by omega)
   have hc1:=hc j (by omega)
   obtain⟨x,X⟩:∃x,Hid (d[j]?.getD 0=x):=⟨_,rfl⟩
   rw[X.out] at hc1
   by_cases hx:x=0
   ·have hx1 : ((x : Int) == 0) = true := by simp [hx]
    have V2:=Lib.hid (val_take_succ (by omega) (X.out.trans hx))
    clear hx hc
    go_wp2
    exact⟨⟨j,by omega,rfl,V2.out.symm.trans V.out⟩,by simp⟩
   ·have hx1 : ((x : Int) == 0) = false := by rw [beq_eq_false_iff_ne]; omega
    have T:=Lib.hid (trim_eq_take h.dig hk V.out (by rw[Nat.add_sub_cancel,X.out];omega))
    clear hx hc
    go_wp2
    go_ret
    rw[T.out]
    exact⟨by simp;omega,h.take _ (by omega),bxx⟩
theorem or_add(s x:Nat)(hx:x<4294967296):s*4294967296 ||| x=s*4294967296+x:=by
 have:=Nat.two_pow_add_eq_or_of_lt (i:=32) (b:=x) hx s
 rw[show (2:Nat) ^ 32=4294967296 from rfl] at this
 rw[Nat.mul_comm,<- this]
theorem or_u64(s x:Nat)(hs:s<4294967296)(hx:x<4294967296):bits .or .u64 ((s:Int)*4294967296) (x:Int)=((s*4294967296+x:Nat):Int):=by
 have:=u64_or_nat (s*4294967296) x (by omega) (by omega)
 rw[or_add s x hx] at this
 rw[<- this]
 simp
theorem tdiv_nat(a b:Nat):((a:Nat):Int).tdiv (b:Int)=((a/b:Nat):Int):=by rw[Int.tdiv_eq_ediv_of_nonneg (by omega)];rfl
theorem tmod_nat(a b:Nat):((a:Nat):Int).tmod (b:Int)=((a%b:Nat):Int):=by rw[Int.tmod_eq_emod_of_nonneg (by omega)];rfl
theorem enc_put(k:Nat)(o:List Nat)(x:Nat):(enc (List.replicate (k+1) 0++o)).set k (.int .u32 (x:Int))=enc (List.replicate k 0++x::o):=by
 have h:=enc_set (List.replicate k 0) o x
 rw[List.length_replicate] at h
 rw[List.replicate_succ',List.append_assoc,List.singleton_append,h,List.append_assoc,List.singleton_append]
theorem enc_zero(k:Nat)(o:List Nat):(enc (List.replicate (k+1) 0++o))[k]? = some (.int .u32 0):=by
 rw[enc_get _ _ (by simp;omega)]
 rw[List.getElem?_append_left (by simp),List.getElem?_replicate]
 simp
def ShortInv(a:List Nat)(b:Nat)(k:Nat)(o:List Nat)(s:Nat):Prop:=Dig o/\o.length+k=a.length/\s<b/\val (a.drop k)=val o*b+s
theorem short_step{a:List Nat}{b k:Nat}{o:List Nat}{s:Nat}(ha:Dig a)(hb:b<4294967296)(hk:k<a.length)(h:ShortInv a b (k+1) o s) :
  ShortInv a b k ((s*4294967296+a[k]?.getD 0)/b::o) ((s*4294967296+a[k]?.getD 0)%b)/\(s*4294967296+a[k]?.getD 0)/b<4294967296:=by
 obtain⟨h1,h2,h3,h4⟩:=h
 have hx:=ha.getD k
 rw[List.getD_eq_getElem?_getD] at hx
 rw[getD_eq hk] at hx ⊢
 obtain⟨x,X⟩:∃x,a[k]=x:=⟨_,rfl⟩
 rw[X] at hx ⊢
 have hq:(s*4294967296+x)/b<4294967296:=by
  rw[Nat.div_lt_iff_lt_mul (by omega)]
  have:(s+1)*4294967296<=b*4294967296:=Nat.mul_le_mul_right _ h3
  rw[Nat.mul_comm b] at this
  omega
 refine⟨⟨Dig.cons hq h1,by simp;omega,Nat.mod_lt _ (by omega),?_⟩,hq⟩
 rw[List.drop_eq_getElem_cons hk,val_cons,val_cons,h4,X]
 have e:=Nat.div_add_mod (s*4294967296+x) b
 generalize (s*4294967296+x)/b=q at *
 generalize (s*4294967296+x)%b=r at *
 rw[Nat.add_mul,Nat.mul_add,Nat.mul_assoc]
 rw[Nat.mul_comm b q] at e
 omega
def RetShort(w:World)(q:List Nat)(r:Nat)(e:Ending)(w':World):Prop :=
 ∃p c,e=.returned (.tuple #[.slice p q.length c,.int .u32 (r:Int)])/\Row w' p c q/\New w p/\Ext w w'
theorem num_short(a:List Nat)(pa:Option Addr)(la ca b:Nat)(w:World)(ha:Row w pa ca a)(hla:la=a.length)(hb0:0<b)(hb:b<4294967296)(h64:a.length<=1000) :
  Calls Tryz.prog 202 #[.slice pa la ca,.int .u32 (b:Int)] w (RetShort w (digs (val a/b)) (val a%b)):=by
 subst hla
 obtain⟨i,hi,hz0,hz1,hz2⟩:=info_parts info32
 have hla:=ha.le
 have hma:=ha.max
 have hb1:((b:Int)==0)=false:=by rw[beq_eq_false_iff_ne];omega
 go_enter Tryz.func202,Tryz.ntmps202
 go_wp2_with (at_make;refine wpList_make_full _ rfl _ _ 34 rfl w.heap.size 140 i (.int .u32 0) 1 Tryz.underlying34 hi hz0 hz1 _ _ _ _ a.length rfl rfl (by omega) (by omega) (by rw[hz2];omega) (by unfold maxLen;omega) (Nat.le_refl _) ?_)
 all_goals
  intro w1 hown hgr
  rw[show (madeCells #[Value.int IntKind.u32 0] a.length).toList=enc (List.replicate a.length 0++[]) from by rw[enc,List.append_nil,List.map_replicate];exact toList_madeCells_one _ _] at hown
  have hx0:Ext w w1:=⟨hgr.os,hgr.tape,hgr.output,hgr.size,fun k hk=>hgr.block k hk (by simp)⟩
  clear hgr
  go_wp2_with fail
  go_loopw [7,8] (fun rs i wr=>∃(k s:Nat) (o:List Nat),ShortInv a b k o s/\i=.int .i64 ((k:Int)-1)/\rs=.int .u64 (s:Int)/\wr.ownsRow w.heap.size 140 1 (.slice (some ⟨w.heap.size,0,none⟩) a.length a.length) a.length (enc (List.replicate k 0++o))/\Ext w wr) (fun _ i _=>(intOf i+1).toNat)
  case atStart=>exact⟨a.length,0,[],⟨Dig.nil,by simp,hb0,by rw[List.drop_eq_nil_of_le (Nat.le_refl _)];simp[val]⟩,rfl,rfl,hown,hx0⟩
  case round =>
   clear hown hx0
   obtain⟨k,s,o,hinv,rfl,rfl,hown,hx⟩:=hrel
   have INV:=Lib.hid hinv
   have hk:=hinv.2.1
   have hs:=hinv.2.2.1
   clear hinv
   cases k with
   | zero =>
    have e:(((0:Nat):Int)-1) = -1:=by omega
    rw[e]
    clear e
    have hv:val o*b+s=val a:=by
     have:=INV.out.2.2.2
     rw[List.drop_zero] at this
     exact this.symm
    have hq:val o=val a/b:=by
     rw[<- hv,Nat.mul_comm,Nat.mul_add_div hb0,Nat.div_eq_of_lt hs,Nat.add_zero]
    have hr:s=val a%b:=by
     rw[<- hv,Nat.mul_comm,Nat.mul_add_mod,Nat.mod_eq_of_lt hs]
    rw[List.replicate_zero,List.nil_append] at hown
    have hol:o.length=a.length:=by have:=INV.out.2.1;omega
    obtain⟨p,c,hv2,hrow,_⟩:=row_of_owns hown INV.out.1
    injection hv2 with e1 e2 e3
    subst e1
    rw[<- e3] at hrow
    have WS:(s:Int)%4294967296=(s:Int):=Int.emod_eq_of_lt (by omega) (by omega)
    have HOL:=Lib.hid hol.symm
    have HQ:=Lib.hid hq
    have HR:=Lib.hid hr
    clear INV hown e2 e3 hol hv hq hr
    go_wp2_with fail
    refine (num_trim o _ _ _ _ hrow HOL.out).mono ?_
    rintro e w2 ⟨rfl,hr2,hx2⟩
    have hx3:Ext w w2:=Ext.step hx hx2
    go_wp2
    go_ret2
    refine⟨some ⟨w.heap.size,0,none⟩,a.length,?_,?_,by intro x hx;cases hx;exact Nat.le_refl _,hx3⟩
    ·rw [<- HQ.out, HR.out.symm]
     rfl
    ·rw [<- HQ.out]
     exact hr2
   | succ j =>
    have e:(((j+1:Nat):Int)-1)=(j:Int):=by omega
    rw[e]
    clear e
    obtain⟨STEP,hq⟩:=short_step ha.dig hb (by omega) INV.out
    obtain⟨ba,oa,rfl,hba,hca⟩:=ha.at (by omega)
    have ca1:wr.cell? ⟨ba,oa+j,none⟩=some (.int .u32 ((a[j]?.getD 0:Nat):Int)):=(hx.cell (p:=⟨ba,oa+j,none⟩) hba).trans (hca j (by omega))
    have hxd:=ha.dig.getD j
    rw[List.getD_eq_getElem?_getD] at hxd
    obtain⟨x,X⟩:∃x,Hid (a[j]?.getD 0=x):=⟨_,rfl⟩
    rw[X.out] at ca1 STEP hq hxd
    clear hca INV
    have OR:=or_u64 s x (by omega) hxd
    obtain⟨m,M⟩:∃m,Hid (s*4294967296+x=m):=⟨_,rfl⟩
    rw[M.out] at OR STEP hq
    have DV:=tdiv_nat m b
    have MD:=tmod_nat m b
    obtain⟨q,Q⟩:∃q,Hid (m/b=q):=⟨_,rfl⟩
    obtain⟨r,R⟩:∃r,Hid (m%b=r):=⟨_,rfl⟩
    rw[Q.out,R.out] at STEP
    rw[Q.out] at DV hq
    rw[R.out] at MD
    have WQ:(q:Int)%4294967296=(q:Int):=Int.emod_eq_of_lt (by omega) (by omega)
    have hjn:j<a.length:=by omega
    have hcw:wr.cell? ⟨w.heap.size,j,none⟩=some (.int .u32 0):=by
     rw[hown.cellAt j (by omega)]
     exact enc_zero j o
    have hfw:=hown.frozenAt j
    obtain⟨hown3,hg3⟩:=hown.stored j (.int .u32 (q:Int))
    rw[enc_put] at hown3
    have OWN:=Lib.hid hown3
    have hx3:Ext w (wr.setCell ⟨w.heap.size,j,none⟩ (.int .u32 (q:Int))):=Below.setCell hx (Nat.le_refl _) _
    have X3:=Lib.hid hx3
    have SS:=Lib.hid STEP
    clear hown hown3 hg3 hx3 STEP
    go_wp2
    exact⟨⟨j,r,q::o,SS.out,rfl,rfl,OWN.out,X3.out⟩,by simp[intOf]⟩
end
theorem val_set(o:List Nat)(j d q:Nat)(hj:j<o.length)(hq:o[j]?.getD 0=q):val (o.set j d)+4294967296 ^ j*q=val o+4294967296 ^ j*d:=by
 induction o generalizing j with
 | nil=>simp at hj
 | cons x o ih =>
  cases j with
  | zero =>
   simp only[List.getElem?_cons_zero,Option.getD_some] at hq
   subst hq
   simp only[List.set_cons_zero,val_cons,Nat.pow_zero,Nat.one_mul]
   omega
  | succ j =>
   simp only[List.getElem?_cons_succ] at hq
   have h:=ih j (by simpa using hj) hq
   simp only[List.set_cons_succ,val_cons,Nat.pow_succ]
   generalize 4294967296 ^ j=p at *
   have e1:p*4294967296*q=4294967296*(p*q):=by rw[Nat.mul_comm p,Nat.mul_assoc]
   have e2:p*4294967296*d=4294967296*(p*d):=by rw[Nat.mul_comm p,Nat.mul_assoc]
   rw[e1,e2]
   generalize p*q=u at *
   generalize p*d=v at *
   omega
theorem Dig.set{o:List Nat}(h:Dig o)(j d:Nat)(hd:d<4294967296):Dig (o.set j d):=by
 intro x hx
 rcases List.mem_or_eq_of_mem_set hx with hx|rfl
 ·exact h x hx
 ·exact hd
theorem getD_set_ne{o:List Nat}{i j d:Nat}(h:i≠j):(o.set i d)[j]?.getD 0=o[j]?.getD 0:=by rw[List.getElem?_set_ne h]
def Zeros(o:List Nat)(m:Nat):Prop:=∀j,m<=j->o[j]?.getD 0=0
theorem Zeros.replicate(n m:Nat):Zeros (List.replicate n 0) m:=by
 intro j _
 rw[List.getElem?_replicate]
 split<;>rfl
theorem Zeros.set{o:List Nat}{m j d:Nat}(h:Zeros o m)(hj:j<m):Zeros (o.set j d) m:=by
 intro i hi
 rw[getD_set_ne (by omega)]
 exact h i hi
theorem Zeros.mono{o:List Nat}{m n:Nat}(h:Zeros o m)(hm:m<=n):Zeros o n:=fun j hj=>h j (by omega)
theorem val_take_next(d:List Nat)(k x:Nat)(hx:d[k]?.getD 0=x):val (d.take (k+1))=val (d.take k)+4294967296 ^ k*x:=by
 subst hx
 by_cases h:k<d.length
 ·rw [List.take_succ_eq_append_getElem h, val_append]
  have:d[k]?.getD 0=d[k]:=by rw[List.getElem?_eq_getElem h];rfl
  rw[this]
  simp only[List.length_take,Nat.min_eq_left (Nat.le_of_lt h),val_cons,val_nil]
  simp
 ·rw [List.take_of_length_le (by omega), List.take_of_length_le (by omega), List.getElem?_eq_none (by omega)]
  simp
def MulInv(a b o:List Nat)(i k x c:Nat):Prop :=
 Dig o/\c<4294967296/\val o+4294967296 ^ (i+k)*c=val (a.take i)*val b+x*(4294967296 ^ i*val (b.take k))
theorem MulInv.step{a b o:List Nat}{i k x c y q m:Nat}(h:MulInv a b o i k x c)(hj:i+k<o.length)(hx:x<4294967296)(hy:b[k]?.getD 0=y)(hyd:y<4294967296)(hq:o[i+k]?.getD 0=q)(hqd:q<4294967296)(hm:x*y=m) :
  MulInv a b (o.set (i+k) ((c+(q+m))%4294967296)) i (k+1) x ((c+(q+m))/4294967296):=by
 obtain⟨h1,h2,h3⟩:=h
 have hb:m<=4294967295*4294967295:=by rw[<- hm];exact Nat.mul_le_mul (by omega) (by omega)
 refine⟨h1.set _ _ (Nat.mod_lt _ (by decide)),by omega,?_⟩
 have hv:=val_set o (i+k) ((c+(q+m))%4294967296) q hj hq
 have hd:=Nat.mod_add_div (c+(q+m)) 4294967296
 rw[val_take_next b k y hy]
 generalize (c+(q+m))%4294967296=d at *
 generalize (c+(q+m))/4294967296=e at *
 have hp:(4294967296:Nat) ^ (i+(k+1))=4294967296 ^ (i+k)*4294967296:=by rw[<- Nat.add_assoc,Nat.pow_succ]
 have hp2:x*(4294967296 ^ i*(val (b.take k)+4294967296 ^ k*y))=x*(4294967296 ^ i*val (b.take k))+4294967296 ^ (i+k)*m:=by
  rw[Nat.mul_add,Nat.mul_add,<- hm,Nat.pow_add]
  congr 1
  generalize 4294967296 ^ i=u
  generalize 4294967296 ^ k=v
  rw[Nat.mul_left_comm x u,Nat.mul_assoc u v,Nat.mul_left_comm x v]
 rw[hp,hp2]
 generalize val (o.set (i+k) d)=v' at *
 generalize 4294967296 ^ (i+k)=p at *
 generalize x*(4294967296 ^ i*val (b.take k))=r at *
 generalize val (a.take i)*val b=s at *
 have h4:p*d+p*4294967296*e=p*c+(p*q+p*m):=by
  rw[Nat.mul_assoc,<- Nat.mul_add,hd,Nat.mul_add,Nat.mul_add]
 generalize p*4294967296*e=w1 at *
 generalize p*d=w2 at *
 generalize p*c=w3 at *
 generalize p*q=w4 at *
 generalize p*m=w5 at *
 omega
theorem MulInv.start{a b o:List Nat}{i x:Nat}(hd:Dig o)(h:val o=val (a.take i)*val b):MulInv a b o i 0 x 0 :=
 ⟨hd,by decide,by simp[val,h]⟩
theorem MulInv.finish{a b o:List Nat}{i k x c:Nat}(h:MulInv a b o i k x c)(hk:b.length<=k)(hx:a[i]?.getD 0=x)(hz:o[i+k]?.getD 0=0)(hj:i+k<o.length) :
  Dig (o.set (i+k) c)/\val (o.set (i+k) c)=val (a.take (i+1))*val b:=by
 obtain⟨h1,h2,h3⟩:=h
 refine⟨h1.set _ _ h2,?_⟩
 have hv:=val_set o (i+k) c 0 hj hz
 rw[List.take_of_length_le hk] at h3
 rw[val_take_next a i x hx,Nat.add_mul,Nat.mul_comm (4294967296 ^ i) x,Nat.mul_assoc]
 omega
theorem MulInv.done{a b o:List Nat}{i k x:Nat}(h:MulInv a b o i k x 0)(hk:b.length<=k)(hx:a[i]?.getD 0=x):val o=val (a.take (i+1))*val b:=by
 obtain⟨h1,h2,h3⟩:=h
 rw[List.take_of_length_le hk] at h3
 rw[val_take_next a i x hx,Nat.add_mul,Nat.mul_comm (4294967296 ^ i) x,Nat.mul_assoc]
 omega

set_option maxHeartbeats 4000000
set_option maxRecDepth 100000
section
theorem own_len{w:World}{B e:Nat}{v:Value}{n:Nat}{o:List Nat}(h:w.ownsRow B e 1 v n (enc o)):o.length=n:=by
 have:=h.1
 rwa [enc_length,Nat.mul_one] at this
theorem own_cell{w:World}{B e g n c:Nat}{o:List Nat}(h:w.ownsRow B e 1 (.slice (some ⟨g,0,none⟩) n c) n (enc o))(j q:Nat)(hj:j<n)(hq:o[j]?.getD 0=q):w.cell? ⟨g,j,none⟩=some (.int .u32 (q:Int)):=by
 rw[h.cellAt j (by omega),enc_get o j (by rw[own_len h];exact hj),hq]
theorem own_set{w:World}{B e g n c:Nat}{o:List Nat}(h:w.ownsRow B e 1 (.slice (some ⟨g,0,none⟩) n c) n (enc o))(j d:Nat) :
  (w.setCell ⟨g,j,none⟩ (.int .u32 (d:Int))).ownsRow B e 1 (.slice (some ⟨g,0,none⟩) n c) n (enc (o.set j d))/\w.grownBy (w.setCell ⟨g,j,none⟩ (.int .u32 (d:Int))) (some g):=by
 have:=h.stored j (.int .u32 (d:Int))
 have e:(enc o).set j (.int .u32 (d:Int))=enc (o.set j d):=by simp[enc,List.map_set]
 rw[e] at this
 exact this
theorem mulP_left{a b:Nm}(ha:a.right=false):mulP a b=(zero,false):=by simp[mulP,ha]
theorem mulP_right{a b:Nm}(hb:b.right=false):mulP a b=(zero,false):=by simp[mulP,hb]
theorem mulP_made{a b:Nm}{o:List Nat}(ra:a.right=true)(rb:b.right=true)(hv:val o=val a.d*val b.d):madeP (a.neg != b.neg) o=mulP a b:=by
 rw[madeP_fit,mulP,ra,rb,hv,Nm.z,Nm.z]
 have e:(((val a.d*val b.d:Nat)):Int)=(val a.d:Int)*(val b.d:Int):=by simp
 rw[e]
 cases a.neg<;>cases b.neg<;>simp[Int.neg_mul,Int.mul_neg]
theorem num_mul_main(a b:Nm)(na nb:Bool)(pa pb:Option Addr)(la ca lb cb:Nat)(w:World)(ha:NR w na pa la ca a)(hb:NR w nb pb lb cb b)(ra:a.right=true)(rb:b.right=true) :
  Calls Tryz.prog 107 #[.agg #[.bool na,.slice pa la ca],.agg #[.bool nb,.slice pb lb cb]] w (RetNum w (mulP a b)):=by
 have la64:=ha.len ra
 have lb64:=hb.len rb
 have hla:=ha.2.1
 have hlb:=hb.2.1
 have rowa:=ha.2.2
 have rowb:=hb.2.2
 have hnn:(na != nb)=(a.neg != b.neg):=by rw[ha.1,hb.1]
 have HNN:=Lib.hid hnn
 have la64':la<=64:=by omega
 have lb64':lb<=64:=by omega
 have HLA:=Lib.hid hla
 have HLB:=Lib.hid hlb
 clear hla hlb hnn
 obtain⟨i,hi,hz0,hz1,hz2⟩:=info_parts info32
 go_enter Tryz.func107,Tryz.ntmps107
 go_wp2_with fail
 refine (num_Right a _ _ _ _ _ (ha.ext bxx)).mono ?_
 rintro e w1 ⟨rfl,hx⟩
 rw[ra]
 have hx0:Ext w w1:=Ext.step bxx hx
 obtain⟨_,⟨_,hk_w1_0,hf_w1_0⟩,⟨_,hk_w1_1,hf_w1_1⟩,_,hk_w1_2,hf_w1_2⟩:=keepK3 hx w.heap.size
 go_wp2_with fail
 refine (num_Right b _ _ _ _ _ (hb.ext bxx)).mono ?_
 rintro e w2 ⟨rfl,hx2⟩
 rw[rb]
 have hx1:Ext w w2:=Ext.step hx0 hx2
 obtain⟨hz_w2,⟨_,hk_w2_0,hf_w2_0⟩,⟨_,hk_w2_1,hf_w2_1⟩,_,hk_w2_2,hf_w2_2⟩:=keepK3 hx2 w.heap.size
 obtain⟨N,hN⟩:∃N,N=la+lb:=⟨_,rfl⟩
 have hN1:N<=la+lb:=Nat.le_of_eq hN
 have hN2:la+lb<=N:=Nat.le_of_eq hN.symm
 clear hN
 go_wp2_with (at_make;refine wpList_make_full _ rfl _ _ 34 rfl w2.heap.size 140 i (.int .u32 0) 1 Tryz.underlying34 hi hz0 hz1 _ _ _ _ N rfl rfl (by omega) (by omega) (by rw[hz2];omega) (by unfold maxLen;omega) (Nat.le_refl _) ?_)
 intro w3 hown hgr
 rw[show (madeCells #[Value.int IntKind.u32 0] N).toList=enc (List.replicate N 0) from by rw[enc,List.map_replicate];exact toList_madeCells_one _ _] at hown
 obtain⟨g,G⟩:∃g,Hid (w2.heap.size=g):=⟨_,rfl⟩
 have hx3:Ext w2 w3:=⟨hgr.os,hgr.tape,hgr.output,hgr.size,fun k hk=>hgr.block k hk (by simp)⟩
 have hx4:Ext w w3:=Ext.step hx1 hx3
 obtain⟨_,⟨_,hk_w3_0,hf_w3_0⟩,⟨_,hk_w3_1,hf_w3_1⟩,_,hk_w3_2,hf_w3_2⟩:=keepK3 hx3 w.heap.size
 rw[G.out] at hown ⊢
 have hg0:w.heap.size+3<=g:=by rw[<- G.out];exact hz_w2
 have hg1:g<w3.heap.size:=by
  obtain⟨_,h⟩:=hown
  rcases h with⟨h,_⟩|⟨g',_,_,h,_,hh,_⟩
  ·cases h
  ·cases h
   exact (Array.getElem?_eq_some_iff.1 hh).1
 clear hgr hx hx2 hx3 hx0
 go_wp2_with fail
 have c0:w3.cell? ⟨w.heap.size,0,none⟩=some (.bool na):=by go_simp
 have c1:w3.cell? ⟨w.heap.size,1,none⟩=some (.slice pa la ca):=by go_simp
 have c2:w3.cell? ⟨w.heap.size+1,0,none⟩=some (.bool nb):=by go_simp
 have c3:w3.cell? ⟨w.heap.size+1,1,none⟩=some (.slice pb lb cb):=by go_simp
 have c4:w3.cell? ⟨w.heap.size+2,0,none⟩=some (.bool false):=by go_simp
 have c5:w3.cell? ⟨w.heap.size+2,1,none⟩=some (.slice none 0 0):=by go_simp
 have f4:∀o,w3.frozen? ⟨w.heap.size+2,o,none⟩=false:=by intro o;go_simp
 have rowa3:=rowa.ext hx4
 have rowb3:=rowb.ext hx4
 have bla:0<a.d.length->∀x,pa=some x->x.block≠g:=by
  intro h0 x hx
  obtain⟨b',o,hp,hlt,_⟩:=rowa.at h0
  rw[hp] at hx
  cases hx
  exact Nat.ne_of_lt (show b'<g by omega)
 have blb:0<b.d.length->∀x,pb=some x->x.block≠g:=by
  intro h0 x hx
  obtain⟨b',o,hp,hlt,_⟩:=rowb.at h0
  rw[hp] at hx
  cases hx
  exact Nat.ne_of_lt (show b'<g by omega)
 have BLA:=Lib.hid bla
 have BLB:=Lib.hid blb
 have C0:=Lib.hid c0
 have C2:=Lib.hid c2
 have C4:=Lib.hid c4
 have C5:=Lib.hid c5
 have C1:=Lib.hid c1
 have C3:=Lib.hid c3
 have F4:=Lib.hid f4
 have RA:=Lib.hid rowa3
 have RB:=Lib.hid rowb3
 clear hk_w1_0 hk_w1_1 hk_w1_2 hf_w1_0 hf_w1_1 hf_w1_2 hk_w2_0 hk_w2_1 hk_w2_2 hf_w2_0 hf_w2_1 hf_w2_2 hk_w3_0 hk_w3_1 hk_w3_2 hf_w3_0 hf_w3_1 hf_w3_2 c0 c1 c2 c3 c4 c5 f4 rowa3 rowb3 bla blb rowa rowb ha hb
 go_loopw [32] (fun i wr=>∃(n:Nat) (o:List Nat),n<=la/\i=.int .i64 (n:Int)/\Dig o/\val o=val (a.d.take n)*val b.d/\Zeros o (n+lb)/\wr.ownsRow g 140 1 (.slice (some ⟨g,0,none⟩) N N) N (enc o)/\w3.grownBy wr (some g)) (fun i _=>la-(intOf i).toNat)
 case atStart=>exact⟨0,_,Nat.zero_le _,rfl,fun x hx=>by rw[List.eq_of_mem_replicate hx];decide,by rw[val_replicate];simp[val],Zeros.replicate _ _,hown,⟨rfl,rfl,rfl,Nat.le_refl _,fun _ _ _=>rfl⟩⟩
 case round =>
  clear hown
  obtain⟨n,o,hn,rfl,hd,hv,hz,hown,hg⟩:=hrel
  by_cases hlt:n<la
  ·have RAw := RA.out.grown BLA.out hg
   obtain⟨ba,oa,rfl,hba,hca⟩:=RAw.at (by rw[<- HLA.out];omega)
   have hca1:=hca n (by rw[<- HLA.out];omega)
   obtain⟨x,X⟩:∃x,Hid (a.d[n]?.getD 0=x):=⟨_,rfl⟩
   rw[X.out] at hca1
   have hxd:x<4294967296:=by have:=RA.out.dig.getD n;rw[List.getD_eq_getElem?_getD,X.out] at this;exact this
   have c3:wr.cell? ⟨w.heap.size+1,1,none⟩=some (.slice pb lb cb):=(World.cell?_of_block (hg.block _ (show w.heap.size+1<w3.heap.size by omega) (by simp;omega))).trans C3.out
   have M0:=Lib.hid (MulInv.start (a:=a.d) (b:=b.d) (i:=n) (x:=x) hd hv)
   clear hca hd hv
   have V:=Lib.hid hz
   clear hz
   go_wp2_with fail
   go_loopw [9,40] (fun cr kk wi=>∃(k c:Nat) (q:List Nat),k<=lb/\kk=.int .i64 (k:Int)/\cr=.int .u64 (c:Int)/\MulInv a.d b.d q n k x c/\Zeros q (n+lb)/\wi.ownsRow g 140 1 (.slice (some ⟨g,0,none⟩) N N) N (enc q)/\w3.grownBy wi (some g)) (fun _ kk _=>lb-(intOf kk).toNat)
   case atStart=>exact⟨0,0,o,Nat.zero_le _,rfl,rfl,M0.out,V.out,hown,hg⟩
   case round =>
    clear hown hg c3 hca1
    obtain⟨k,c,q,hk,rfl,rfl,hm,hz,hown,hg⟩:=hrel
    by_cases hkl:k<lb
    ·have RBw := RB.out.grown BLB.out hg
     obtain⟨bb,ob,rfl,hbb,hcb⟩:=RBw.at (by rw[<- HLB.out];omega)
     have hcb1:=hcb k (by rw[<- HLB.out];omega)
     obtain⟨y,Y⟩:∃y,Hid (b.d[k]?.getD 0=y):=⟨_,rfl⟩
     rw[Y.out] at hcb1
     have hyd:y<4294967296:=by have:=RB.out.dig.getD k;rw[List.getD_eq_getElem?_getD,Y.out] at this;exact this
     obtain⟨u,U⟩:∃u,Hid (q[n+k]?.getD 0=u):=⟨_,rfl⟩
     have hud:u<4294967296:=by have:=hm.1.getD (n+k);rw[List.getD_eq_getElem?_getD,U.out] at this;exact this
     have hql:=own_len hown
     have hcu:=own_cell hown (n+k) u (by omega) U.out
     have hfu:=hown.frozenAt (n+k)
     obtain⟨m,MM⟩:∃m,Hid (x*y=m):=⟨_,rfl⟩
     have hme:(x:Int)*(y:Int)=(m:Int):=by rw[<- MM.out];simp
     have hmb:m<=18446744065119617025:=by rw[<- MM.out];exact Nat.mul_le_mul (show x<=4294967295 by omega) (show y<=4294967295 by omega)
     have hcd:=hm.2.1
     have M1:=Lib.hid (hm.step (by omega) hxd Y.out hyd U.out hud MM.out)
     have hst:=own_set hown (n+k) ((c+(u+m))%4294967296)
     have ST:=Lib.hid hst.1
     have SG:=Lib.hid (grownBy_trans hg hst.2)
     have Tryz1:=Lib.hid (hz.set (j:=n+k) (d:=(c+(u+m))%4294967296) (by omega))
     clear hcb hm hst hz hql hown hg
     go_wp2
     have e:(((c+(u+m))%4294967296:Nat):Int)=((c:Int)+((u:Int)+(m:Int)))%4294967296:=by omega
     have s1:=ST.out
     have s2:=SG.out
     rw[e] at s1 s2
     exact⟨⟨k+1,(c+(u+m))/4294967296,_,by omega,rfl,ret_u64 (by omega),M1.out,Tryz1.out,s1,s2⟩,by simp[intOf];omega⟩
    ·have hk2 : lb <= k := by omega
     have hql:=own_len hown
     have hcu:=own_cell hown (n+lb) 0 (by omega) (hz _ (Nat.le_refl _))
     have hfu:=hown.frozenAt (n+lb)
     obtain rfl:k=lb:=by omega
     have c3:wr.cell? ⟨w.heap.size+1,1,none⟩=some (.slice pb k cb):=(World.cell?_of_block (hg.block _ (show w.heap.size+1<w3.heap.size by omega) (by simp;omega))).trans C3.out
     have hst:=own_set hown (n+k) c
     have ST:=Lib.hid hst.1
     have SG:=Lib.hid (grownBy_trans hg hst.2)
     have FIN:=Lib.hid (hm.finish (by rw[<- HLB.out];exact Nat.le_refl _) X.out (hz _ (Nat.le_refl _)) (by omega))
     have hcd:=hm.2.1
     have Tryz1:=Lib.hid ((hz.mono (show n+k<=n+1+k by omega)).set (j:=n+k) (d:=c) (by omega))
     clear hst hm hz hql hown hg
     go_wp2
     exact⟨⟨n+1,_,by omega,rfl,FIN.out.1,FIN.out.2,Tryz1.out,ST.out,SG.out⟩,by simp[intOf];omega⟩
  ·obtain rfl : n = la := by omega
   have hql:=own_len hown
   obtain⟨p',c',hv',hrow,_⟩:=row_of_owns hown hd
   obtain⟨rfl,rfl⟩:some (⟨g,0,none⟩:Addr)=p'/\N=c':=by
    simp only[Value.slice.injEq] at hv'
    exact⟨hv'.1,hv'.2.2⟩
   have MP:Hid (madeP (na != nb) o=mulP a b):=by
    have:=mulP_made ra rb (o:=o) (by rw[hv,HLA.out,List.take_of_length_le (Nat.le_refl _)])
    rw[HNN.out];exact this
   have ROW:=Lib.hid hrow
   have HQ:=Lib.hid hql
   have hx5:Ext w wr:=⟨hg.os.trans hx4.os,hg.tape.trans hx4.tape,hg.output.trans hx4.output,Nat.le_trans hx4.size hg.size,fun k hk=>(hg.block k (by omega) (by simp;omega)).trans (hx4.block k hk)⟩
   have kp:∀j o,j<3->wr.cell? ⟨w.heap.size+j,o,none⟩=w3.cell? ⟨w.heap.size+j,o,none⟩:=fun j o hj=>World.cell?_of_block (hg.block _ (show w.heap.size+j<w3.heap.size by omega) (by simp;omega))
   have kf:∀j o,j<3->wr.frozen? ⟨w.heap.size+j,o,none⟩=w3.frozen? ⟨w.heap.size+j,o,none⟩:=fun j o hj=>World.frozen?_of_block (hg.block _ (show w.heap.size+j<w3.heap.size by omega) (by simp;omega))
   have c0:wr.cell? ⟨w.heap.size,0,none⟩=some (.bool na):=(kp 0 0 (by omega)).trans C0.out
   have c2:wr.cell? ⟨w.heap.size+1,0,none⟩=some (.bool nb):=(kp 1 0 (by omega)).trans C2.out
   have c4:wr.cell? ⟨w.heap.size+2,0,none⟩=some (.bool false):=(kp 2 0 (by omega)).trans C4.out
   have c5:wr.cell? ⟨w.heap.size+2,1,none⟩=some (.slice none 0 0):=(kp 2 1 (by omega)).trans C5.out
   have f4:∀o,wr.frozen? ⟨w.heap.size+2,o,none⟩=false:=fun o=>(kf 2 o (by omega)).trans (F4.out o)
   have hzr:w.heap.size+3<=wr.heap.size:=by have:=hg.size;omega
   clear kp kf hrow hql hv' hown hd hv hz hg
   go_wp2_with fail
   refine (num_made (na != nb) o _ _ _ _ ROW.out HQ.out.symm).mono ?_
   rintro e w4 ⟨n',p',l',c',rfl,hnr,hnew,hx6⟩
   rw[MP.out] at hnr ⊢
   have hx7:Ext w w4:=Ext.step hx5 hx6
   obtain⟨_,⟨_,_,_⟩,⟨_,_,_⟩,_,_,_⟩:=keepK3 hx6 w.heap.size
   go_wp2_with fail
   refine bodyPost_ret (v:=.tuple #[.agg #[.bool n',.slice p' l' c'],.bool (mulP a b).2]) (by simp[results,Tryz.results107,go_sem, *]) rfl ?_
   exact⟨n',p',l',c',rfl,(by repeat (first|assumption|refine NR.set ?_ (by assumption) _ (by first|(simp;done)|(simp;omega)|omega) _|refine NR.alloc ?_ _)),hnew.mono (by omega),bxx⟩
theorem num_Mul(a b:Nm)(na nb:Bool)(pa pb:Option Addr)(la ca lb cb:Nat)(w:World)(ha:NR w na pa la ca a)(hb:NR w nb pb lb cb b) :
  Calls Tryz.prog 107 #[.agg #[.bool na,.slice pa la ca],.agg #[.bool nb,.slice pb lb cb]] w (RetNum w (mulP a b)):=by
 by_cases ra:a.right=true
 ·by_cases rb : b.right = true
  ·exact num_mul_main a b na nb pa pb la ca lb cb w ha hb ra rb
  ·have rb : b.right = false := by simpa using rb
   have S:=Lib.hid (mulP_right (a:=a) rb)
   go_enter Tryz.func107,Tryz.ntmps107
   go_wp2_with fail
   refine (num_Right a _ _ _ _ _ (ha.ext bxx)).mono ?_
   rintro e w1 ⟨rfl,hx⟩
   rw[ra]
   have hx0:Ext w w1:=Ext.step bxx hx
   obtain⟨_,⟨_,hk_w1_0,hf_w1_0⟩,⟨_,hk_w1_1,hf_w1_1⟩,_,hk_w1_2,hf_w1_2⟩:=keepK3 hx w.heap.size
   go_wp2_with fail
   refine (num_Right b _ _ _ _ _ (hb.ext bxx)).mono ?_
   rintro e w2 ⟨rfl,hx2⟩
   rw[rb]
   have hx1:Ext w w2:=Ext.step hx0 hx2
   obtain⟨hz_w2,⟨_,hk_w2_0,hf_w2_0⟩,⟨_,hk_w2_1,hf_w2_1⟩,_,hk_w2_2,hf_w2_2⟩:=keepK3 hx2 w.heap.size
   go_wp2_with fail
   refine bodyPost_ret (v:=.tuple #[.agg #[.bool false,.slice none 0 0],.bool false]) (by simp[results,Tryz.results107,go_sem, *]) rfl ?_
   rw[S.out]
   exact⟨false,none,0,0,rfl,⟨rfl,rfl,Row.nil _⟩,New.none _,bxx⟩
 ·have ra : a.right = false := by simpa using ra
  have S:=Lib.hid (mulP_left (b:=b) ra)
  go_enter Tryz.func107,Tryz.ntmps107
  go_wp2_with fail
  refine (num_Right a _ _ _ _ _ (ha.ext bxx)).mono ?_
  rintro e w1 ⟨rfl,hx⟩
  rw[ra]
  have hx0:Ext w w1:=Ext.step bxx hx
  obtain⟨_,⟨_,hk_w1_0,hf_w1_0⟩,⟨_,hk_w1_1,hf_w1_1⟩,_,hk_w1_2,hf_w1_2⟩:=keepK3 hx w.heap.size
  go_wp2_with fail
  refine bodyPost_ret (v:=.tuple #[.agg #[.bool false,.slice none 0 0],.bool false]) (by simp[results,Tryz.results107,go_sem, *]) rfl ?_
  rw[S.out]
  exact⟨false,none,0,0,rfl,⟨rfl,rfl,Row.nil _⟩,New.none _,bxx⟩
end
end Go.Proofs.YtceemiodpccbhaaGreat
