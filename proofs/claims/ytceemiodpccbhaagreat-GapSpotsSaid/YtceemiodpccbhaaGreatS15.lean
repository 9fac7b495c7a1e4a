import Derived.Test.YtceemiodpccbhaaGreatS13
set_option linter.unusedVariables false
set_option linter.unusedSimpArgs false

namespace Go.Proofs.YtceemiodpccbhaaGreat

section
theorem guess_dec {U V P u0 u2 high v0 v1 v2 q r:Nat} (hu0:u0 < P) (hU:U=u0+P*(u2+4294967296*high)) (hV:V=v0+P*(v2+4294967296*v1)) (hlt:U < 4294967296*V)
  (hq:q*v1+r=high) (hle:U / V<=q) (h:4294967296<=q\/r*4294967296+u2 < q*v2):1<=q/\U / V<=q - 1:=by
 have hV0:0 < V:=by
  rcases Nat.eq_zero_or_pos V with e | e
  ·rw [e] at hlt;omega
  ·exact e
 rcases h with h | h
 ·have : U / V < 4294967296 := (Nat.div_lt_iff_lt_mul hV0).2 hlt
  omega
 ·have h1:1<=q:=by
   rcases Nat.eq_zero_or_pos q with e | e
   ·subst e;simp at h
   ·exact e
  refine ⟨h1,?_⟩
  have:¬ q<=U / V:=by
   intro hc
   rw [Nat.le_div_iff_mul_le hV0] at hc
   have e1:q*V=q*v0+P*(q*v2)+P*(4294967296*(q*v1)):=by rw [hV];grind
   have e2:U=u0+P*u2+P*(4294967296*(q*v1))+P*(r*4294967296):=by rw [hU,<- hq];grind
   have h2:=Nat.mul_le_mul_left P (Nat.succ_le_of_lt h)
   have e3:P*Nat.succ (r*4294967296+u2)=P*(r*4294967296)+P*u2+P:=by rw [Nat.succ_eq_add_one];grind
   rw [e3] at h2
   rw [e1,e2] at hc
   generalize P*(4294967296*(q*v1))=x1 at *
   generalize P*(q*v2)=x2 at *
   generalize P*(r*4294967296)=x3 at *
   generalize P*u2=x4 at *
   generalize q*v0=x5 at *
   omega
  omega
theorem guess_start {U V P w high v1 vr:Nat} (hw:w < P) (hU:U=w+P*high) (hV:V=vr+P*v1) (hv1:0 < v1):U / V<=high / v1:=by
 have hP:0 < P:=by omega
 have hV0:0 < V:=by
  have:=Nat.mul_pos hP hv1
  omega
 rw [Nat.le_div_iff_mul_le hv1]
 have h:=Nat.div_mul_le_self U V
 generalize U / V=q at *
 have e1:q*V=q*vr+P*(q*v1):=by rw [hV];grind
 have:P*(q*v1) < P*(high+1):=by
  have e2:P*(high+1)=P*high+P:=by grind
  rw [e1] at h
  rw [e2]
  generalize P*(q*v1)=x1 at *
  generalize P*high=x2 at *
  generalize q*vr=x3 at *
  omega
 have:=Nat.lt_of_mul_lt_mul_left this
 omega
theorem guess_end {U V P u0 u1 u2 ut v0 v1 v2 q r:Nat} (hv0:v0 < P) (hv1:0 < v1) (hv2:v2 < 4294967296) (hu0:u0 < P) (hu1:u1 < 4294967296) (hU:U=u0+P*(u2+4294967296*(u1+4294967296*ut))) (hV:V=v0+P*(v2+4294967296*v1)) (hlt:U < 4294967296*V)
  (hq:q*v1+r=u1+4294967296*ut) (h:4294967296<=r\/(q < 4294967296/\q*v2<=r*4294967296+u2)):q < 4294967296/\q<=U / V+1:=by
 have hP:0 < P:=by omega
 have hV0:0 < V:=by
  rcases Nat.eq_zero_or_pos V with e | e
  ·rw [e] at hlt;omega
  ·exact e
 have hut:ut<=v1:=by
  have:¬ v1+1<=ut:=by
   intro hc
   have h1:=Nat.mul_le_mul_left (P*(4294967296*4294967296)) hc
   have e1:P*(4294967296*4294967296)*(v1+1)=4294967296*(P*(4294967296*v1))+4294967296*(P*4294967296):=by grind
   have e2:U=u0+P*u2+P*(4294967296*u1)+P*(4294967296*4294967296)*ut:=by rw [hU];grind
   have e3:4294967296*V=4294967296*v0+4294967296*(P*v2)+4294967296*(P*(4294967296*v1)):=by rw [hV];grind
   have h2:P*v2+P<=P*4294967296:=by
    have h9:P*(v2+1)<=P*4294967296:=Nat.mul_le_mul_left P hv2
    have e9:P*(v2+1)=P*v2+P:=by grind
    omega
   rw [e1] at h1
   rw [e3,e2] at hlt
   omega
  omega
 have hqb:q < 4294967296:=by
  rcases h with h | h
  ·have:¬ 4294967296<=q:=by
    intro hc
    have h1:=Nat.mul_le_mul_right v1 hc
    have h2:=Nat.mul_le_mul_left 4294967296 hut
    omega
   omega
  ·exact h.1
 have h2:q*v2<=r*4294967296+u2:=by
  rcases h with h | h
  ·have h1 : q * v2 <= 4294967296 * 4294967296 := Nat.mul_le_mul (by omega) (by omega)
   omega
  ·exact h.2
 refine ⟨hqb,?_⟩
 rcases Nat.eq_zero_or_pos q with e | e
 ·rw [e];exact Nat.zero_le _
 ·obtain ⟨p, rfl⟩ : ∃ p, q = p + 1 := ⟨q - 1, by omega⟩
  have:p<=U / V:=by
   rw [Nat.le_div_iff_mul_le hV0]
   have e1:(p+1)*V=(p+1)*v0+P*((p+1)*v2)+P*(4294967296*((p+1)*v1)):=by rw [hV];grind
   have e2:U=u0+P*u2+P*(4294967296*((p+1)*v1))+P*(r*4294967296):=by rw [hU,<- hq];grind
   have e3:(p+1)*V=p*V+V:=by grind
   have h3:=Nat.mul_le_mul_left P h2
   have e4:P*(r*4294967296+u2)=P*(r*4294967296)+P*u2:=by grind
   have h5:(p+1)*v0<=V:=by
    have h6:(p+1)*v0<=4294967296*P:=Nat.mul_le_mul (by omega) (by omega)
    have h7:P*(4294967296*1)<=P*(4294967296*v1):=Nat.mul_le_mul_left _ (Nat.mul_le_mul_left _ hv1)
    have e5:V=v0+P*v2+P*(4294967296*v1):=by rw [hV];grind
    have e6:P*(4294967296*1)=4294967296*P:=by grind
    rw [e5]
    omega
   rw [e4] at h3
   rw [e3] at e1
   omega
  omega
def RedInv (q:Nat) (u v:List Nat) (o:List Nat) (c b:Nat):Prop :=
 Dig o/\c<=q/\b<=1/\val (u.take o.length)+4294967296 ^ o.length*(c+b)=val o+q*val (v.take o.length)
theorem val_snocK (o:List Nat) (x:Nat):val (o++[x])=val o+4294967296 ^ o.length*x:=by rw [val_append];simp [val]
theorem val_take_K (d:List Nat) (k:Nat):val (d.take (k+1))=val (d.take k)+4294967296 ^ k*(d[k]?.getD 0):=by
 by_cases h:k < d.length
 ·rw [List.take_succ_eq_append_getElem h,val_append,List.length_take,Nat.min_eq_left (by omega),List.getElem?_eq_getElem h];simp [val]
 ·rw [List.take_of_length_le (by omega),List.take_of_length_le (by omega),List.getElem?_eq_none (by omega)];simp
theorem red_step {q:Nat} {u v o:List Nat} {c b x d:Nat} (hq:q < 4294967296) (h:RedInv q u v o c b) (hx:u[o.length]?.getD 0=x) (hd:v[o.length]?.getD 0=d) (hdb:d < 4294967296) (hxb:x < 4294967296) :
  RedInv q u v (o++[(x+8589934592 - (c+q*d) % 4294967296 - b) % 4294967296]) ((c+q*d) / 4294967296) (if x < (c+q*d) % 4294967296+b then 1 else 0)/\c+q*d < 18446744073709551616:=by
 obtain ⟨h1,h2,h3,h4⟩:=h
 have hqd:q*d<=q*4294967295:=Nat.mul_le_mul_left _ (by omega)
 have hc:c+q*d < 18446744073709551616:=by omega
 refine ⟨⟨?_,by omega,by split<;>omega,?_⟩,hc⟩
 ·intro y hy
  rcases List.mem_append.1 hy with g | g
  ·exact h1 y g
  ·rw [List.mem_singleton] at g;subst g;exact Nat.mod_lt _ (by omega)
 ·rw [List.length_append, List.length_singleton, val_take_K, val_take_K, val_snocK, hx, hd, Nat.pow_succ]
  have e1:q*(val (v.take o.length)+4294967296 ^ o.length*d)=q*val (v.take o.length)+4294967296 ^ o.length*(q*d):=by grind
  rw [e1]
  generalize q*val (v.take o.length)=a1 at *
  generalize val (u.take o.length)=a2 at *
  generalize val o=a3 at *
  generalize 4294967296 ^ o.length=P at *
  generalize q*d=t at *
  have key:∀ (b' y:Nat),x+4294967296*((c+t) / 4294967296+b')+(c+b)=y+t+(c+b)+0+(c+b)->a2+P*x+P*4294967296*((c+t) / 4294967296+b')=a3+P*y+(a1+P*t):=by
   intro b' y hy
   have e2:P*x+P*4294967296*((c+t) / 4294967296+b')=P*(y+t+(c+b)):=by
    have:x+4294967296*((c+t) / 4294967296+b')=y+t+(c+b):=by omega
    rw [<- this];grind
   have e3:P*(y+t+(c+b))=P*y+P*t+P*(c+b):=by grind
   rw [Nat.add_assoc,e2,e3]
   omega
  apply key
  split<;>omega
end

section
theorem val_pos_of {b:List Nat} {n x:Nat} (hl:b.length=n+1) (hx:b[n]?.getD 0=x):val b=val (b.take n)+4294967296 ^ n*x:=by
 have h:=val_take_K b n
 rw [hx,List.take_of_length_le (by omega)] at h
 exact h
theorem red_keep {q:Nat} {u v o:List Nat} {c b x:Nat} (h:RedInv q u v o c b) (ho:o.length=v.length) (hu:u.length=v.length+1) (hx:u[v.length]?.getD 0=x) (hle:c+b<=x) :
  val u=val (o++[x - c - b])+q*val v:=by
 obtain ⟨_,_,_,h4⟩:=h
 rw [ho,List.take_of_length_le (Nat.le_refl v.length)] at h4
 rw [val_pos_of hu hx,val_snocK,ho]
 generalize 4294967296 ^ v.length=P at *
 obtain ⟨t,rfl⟩:∃ t,x=t+(c+b):=⟨x - (c+b),by omega⟩
 rw [show t+(c+b) - c - b=t by omega]
 have e:P*(t+(c+b))=P*t+P*(c+b):=by grind
 omega
theorem red_borrow {q:Nat} {u v o:List Nat} {c b x:Nat} (h:RedInv q u v o c b) (hq:q < 4294967296) (ho:o.length=v.length) (hu:u.length=v.length+1) (hx:u[v.length]?.getD 0=x) (hlt:x < c+b) :
  val u+4294967296 ^ (v.length+1)=val (o++[x+4294967296 - c - b])+q*val v:=by
 obtain ⟨_,h2,h3,h4⟩:=h
 rw [ho,List.take_of_length_le (Nat.le_refl v.length)] at h4
 rw [val_pos_of hu hx,val_snocK,ho,Nat.pow_succ]
 generalize 4294967296 ^ v.length=P at *
 obtain ⟨t,ht⟩:∃ t,x+4294967296=t+(c+b):=⟨x+4294967296 - (c+b),by omega⟩
 rw [show x+4294967296 - c - b=t by omega]
 have e:P*(x+4294967296)=P*t+P*(c+b):=by rw [ht];grind
 have e2:P*(x+4294967296)=P*x+P*4294967296:=by grind
 omega
theorem quot_of {U V W q:Nat} (hV:0 < V) (h:U=W+q*V) (hq:U / V<=q):q=U / V/\W=U % V:=by
 have h1:q<=U / V:=by rw [Nat.le_div_iff_mul_le hV];omega
 obtain rfl:q=U / V:=by omega
 refine ⟨rfl,?_⟩
 have:=Nat.div_add_mod U V
 rw [Nat.mul_comm V] at this
 omega
theorem red_back {q:Nat} {u v o o2:List Nat} {y c2:Nat} (h:val u+4294967296 ^ (v.length+1)=val (o++[y])+q*val v) (ho:o.length=v.length) (ho2:o2.length=v.length) (hs:sumInv (o++[y]) v o2 c2)
  (hy:y < 4294967296) (dd:Dig o) (du:Dig u) (hu:u.length=v.length+1) (hV:0 < val v) (hq:q<=val u / val v+1):y+c2=4294967296/\q - 1=val u / val v/\1<=q/\val o2=val u % val v:=by
 obtain ⟨d2,hc2,hs2⟩:=hs
 have hlu:=val_lt du
 rw [hu] at hlu
 have hlo2:=val_lt d2
 have hlo:val (o++[y]) < 4294967296 ^ (v.length+1):=by
  have:=val_lt (dd.append (Dig.cons hy Dig.nil))
  rwa [List.length_append,List.length_singleton,ho] at this
 have hqV:val u < q*val v:=by omega
 have hq1:val u / val v < q:=(Nat.div_lt_iff_lt_mul hV).2 hqV
 obtain rfl:q=val u / val v+1:=by omega
 have hm:=Nat.div_add_mod (val u) (val v)
 rw [Nat.mul_comm] at hm
 have hmlt:=Nat.mod_lt (val u) hV
 rw [Nat.add_mul,Nat.one_mul] at h
 rw [ho2,List.take_of_length_le (Nat.le_refl v.length),<- ho,List.take_left,ho] at hs2
 rw [val_snocK,ho,Nat.pow_succ] at h
 rw [ho2] at hlo2
 have key:val o2+4294967296 ^ v.length*(c2+y)=val u % val v+4294967296 ^ v.length*4294967296:=by
  have e:4294967296 ^ v.length*(c2+y)=4294967296 ^ v.length*c2+4294967296 ^ v.length*y:=by grind
  omega
 have hvl:val u % val v < 4294967296 ^ v.length*(c2+y+1):=by
  have e:4294967296 ^ v.length*(c2+y+1)=4294967296 ^ v.length*(c2+y)+4294967296 ^ v.length:=by grind
  rw [e]
  omega
 have hb:¬ c2+y < 4294967296:=by
  intro hc
  have h9:4294967296 ^ v.length*(c2+y+1)<=4294967296 ^ v.length*4294967296:=Nat.mul_le_mul_left _ hc
  have e:4294967296 ^ v.length*(c2+y+1)=4294967296 ^ v.length*(c2+y)+4294967296 ^ v.length:=by grind
  omega
 have hb2:y+c2=4294967296:=by omega
 refine ⟨hb2,Nat.add_sub_cancel _ _,Nat.le_add_left _ _,?_⟩
 rw [show c2+y=4294967296 by omega] at key
 omega
def ShInv (s:Nat) (a o:List Nat) (c:Nat):Prop:=Dig o/\c < s/\val o+4294967296 ^ o.length*c=s*val (a.take o.length)
theorem sh_step {s e:Nat} (hse:s*e=4294967296) {a o:List Nat} {c d:Nat} (h:ShInv s a o c) (hd:a[o.length]?.getD 0=d) (hdb:d < 4294967296) :
  ShInv s a (o++[d % e*s+c]) (d / e)/\d % e*s+c < 4294967296:=by
 obtain ⟨h1,h2,h3⟩:=h
 have he:0 < e:=by
  rcases Nat.eq_zero_or_pos e with g | g
  ·subst g;simp at hse
  ·exact g
 have hm:=Nat.mod_lt d he
 have hlt:d % e*s+c < 4294967296:=by
  have h4:(d % e+1)*s<=e*s:=Nat.mul_le_mul_right _ hm
  rw [Nat.mul_comm e,hse,Nat.add_mul,Nat.one_mul] at h4
  omega
 refine ⟨⟨h1.append (Dig.cons hlt Dig.nil),?_,?_⟩,hlt⟩
 ·rw [Nat.div_lt_iff_lt_mul he,hse];exact hdb
 ·rw [List.length_append, List.length_singleton, val_snocK, val_take_K, hd, Nat.pow_succ]
  have e1:s*(val (a.take o.length)+4294967296 ^ o.length*d)=s*val (a.take o.length)+4294967296 ^ o.length*(s*d):=by grind
  have e2:s*d=d % e*s+4294967296*(d / e):=by
   have:=Nat.div_add_mod d e
   rw [<- hse]
   conv=>lhs;rw [<- this]
   grind
  rw [e1,e2,<- h3]
  generalize 4294967296 ^ o.length=P
  grind
theorem sh_end {s:Nat} {a o:List Nat} {c:Nat} (h:ShInv s a o c) (hl:o.length=a.length):val (o++[c])=s*val a:=by
 obtain ⟨_,_,h3⟩:=h
 rw [hl,List.take_of_length_le (Nat.le_refl a.length)] at h3
 rw [val_snocK,hl]
 exact h3
theorem shr_digit {s e:Nat} (hse:s*e=4294967296) {u1 u0:Nat} (h0:u0 < 4294967296) :
  s*((u1*4294967296+u0) / s % 4294967296)=u1 % s*4294967296+s*(u0 / s):=by
 have hs:0 < s:=by
  rcases Nat.eq_zero_or_pos s with g | g
  ·subst g;simp at hse
  ·exact g
 have he:0 < e:=by
  rcases Nat.eq_zero_or_pos e with g | g
  ·subst g;simp at hse
  ·exact g
 have e1:(u1*4294967296+u0) / s=u1*e+u0 / s:=by
  rw [<- hse,show u1*(s*e)+u0=s*(u1*e)+u0 by grind,Nat.mul_add_div hs]
 have e2:u1*e=u1 % s*e+4294967296*(u1 / s):=by
  have:=Nat.div_add_mod u1 s
  rw [<- hse]
  conv=>lhs;rw [<- this]
  grind
 have h3:u0 / s < e:=by rw [Nat.div_lt_iff_lt_mul hs,Nat.mul_comm,hse];exact h0
 have h4:(u1 % s+1)*e<=s*e:=Nat.mul_le_mul_right _ (Nat.mod_lt u1 hs)
 rw [hse,Nat.add_mul,Nat.one_mul] at h4
 have e3:(u1*4294967296+u0) / s % 4294967296=u1 % s*e+u0 / s:=by
  rw [e1,e2]
  rw [show u1 % s*e+4294967296*(u1 / s)+u0 / s=(u1 % s*e+u0 / s)+4294967296*(u1 / s) by omega,Nat.add_mul_mod_self_left,Nat.mod_eq_of_lt]
  generalize u0 / s=g at *
  omega
 rw [e3,<- hse]
 grind
def ShrInv (s:Nat) (u o:List Nat):Prop:=Dig o/\s*val o+val u % s=val (u.take o.length)+4294967296 ^ o.length*(u[o.length]?.getD 0 % s)
theorem shr_start {s e:Nat} (hse:s*e=4294967296) (u:List Nat) (h0:0 < u.length):ShrInv s u []:=by
 refine ⟨Dig.nil,?_⟩
 cases u with
 | nil=>simp at h0
 | cons x r =>
  simp only [val_nil,List.length_nil,List.take_zero,List.getElem?_cons_zero,Option.getD_some,val_cons]
  rw [<- hse,Nat.mul_assoc,Nat.add_mul_mod_self_left]
  simp
theorem shr_step {s e:Nat} (hse:s*e=4294967296) {u o:List Nat} (h:ShrInv s u o) {u0 u1:Nat} (h0:u[o.length]?.getD 0=u0) (h1:u[o.length+1]?.getD 0=u1) (hb:u0 < 4294967296) :
  ShrInv s u (o++[(u1*4294967296+u0) / s % 4294967296]):=by
 obtain ⟨d,h2⟩:=h
 refine ⟨d.append (Dig.cons (Nat.mod_lt _ (by omega)) Dig.nil),?_⟩
 rw [List.length_append,List.length_singleton,val_snocK,val_take_K,h0,h1,Nat.pow_succ]
 rw [h0] at h2
 have k:=shr_digit hse (u1:=u1) hb
 generalize (u1*4294967296+u0) / s % 4294967296=r at *
 have e1:s*(val o+4294967296 ^ o.length*r)=s*val o+4294967296 ^ o.length*(s*r):=by grind
 rw [e1,k]
 have e2:u0=s*(u0 / s)+u0 % s:=(Nat.div_add_mod u0 s).symm
 generalize 4294967296 ^ o.length=P at *
 generalize u0 / s=g at *
 generalize u0 % s=g2 at *
 rw [e2]
 grind
theorem shr_end {s:Nat} {u o:List Nat} (h:ShrInv s u o) {n R:Nat} (hs:0 < s) (hl:o.length=n) (hu:val u < 4294967296 ^ n) (hd:Dig u) (hul:n < u.length) (hR:val u=s*R):val o=R:=by
 obtain ⟨_,h2⟩:=h
 rw [hl] at h2
 have h3:=val_take_drop u n (by omega)
 have h4:val (u.drop n)=0:=by
  rcases Nat.eq_zero_or_pos (val (u.drop n)) with g | g
  ·exact g
  ·have := Nat.mul_le_mul_left (4294967296 ^ n) g
   omega
 have h5:u[n]?.getD 0=0:=by
  rw [List.drop_eq_getElem_cons hul,val_cons] at h4
  rw [List.getElem?_eq_getElem hul,Option.getD_some]
  omega
 rw [h5,Nat.zero_mod,Nat.mul_zero,Nat.add_zero] at h2
 rw [h4,Nat.mul_zero,Nat.add_zero] at h3
 rw [<- h3,hR,Nat.mul_mod_right,Nat.add_zero] at h2
 exact Nat.eq_of_mul_eq_mul_left hs h2
structure LongInv (A V k:Nat) (u qs:List Nat):Prop where
 du:Dig u
 dq:Dig qs
 eq:val u+4294967296 ^ k*(val qs*V)=A
 lt:val u < 4294967296 ^ k*V
theorem long_part {A V k n:Nat} {pre part post qs:List Nat} (hl:pre.length=k) (hp:part.length=n+1) (hV:V < 4294967296 ^ n) (h:LongInv A V (k+1) (pre++(part++post)) qs) :
  val post=0/\val part < 4294967296*V:=by
 have h1:=h.lt
 have ek:(4294967296:Nat) ^ (k+1)=4294967296 ^ k*4294967296:=Nat.pow_succ _ _
 rw [val_append,val_append,hl,hp,ek] at h1
 have h2:val part+4294967296 ^ (n+1)*val post < 4294967296*V:=by
  have:4294967296 ^ k*(val part+4294967296 ^ (n+1)*val post) < 4294967296 ^ k*(4294967296*V):=by
   rw [<- Nat.mul_assoc];omega
  exact Nat.lt_of_mul_lt_mul_left this
 refine ⟨?_,by omega⟩
 rcases Nat.eq_zero_or_pos (val post) with g | g
 ·exact g
 ·have h3 : 4294967296 ^ (n + 1) * 1 <= 4294967296 ^ (n + 1) * val post := Nat.mul_le_mul_left _ g
  rw [Nat.mul_one,Nat.pow_succ] at h3
  rw [Nat.pow_succ] at h2
  omega
theorem long_step {A V k n:Nat} {pre part post qs part':List Nat} (hl:pre.length=k) (hp:part.length=n+1) (hp':part'.length=n+1) (hV:V < 4294967296 ^ n) (hV0:0 < V) (h:LongInv A V (k+1) (pre++(part++post)) qs)
  (d':Dig part') (he:val part'=val part % V):LongInv A V k (pre++(part'++post)) (val part / V::qs):=by
 obtain ⟨h1,h2⟩:=long_part hl hp hV h
 have dpre:Dig pre:=fun x hx=>h.du x (List.mem_append_left _ hx)
 have dpost:Dig post:=fun x hx=>h.du x (List.mem_append_right _ (List.mem_append_right _ hx))
 refine ⟨dpre.append (d'.append dpost),Dig.cons ((Nat.div_lt_iff_lt_mul hV0).2 h2) h.dq,?_,?_⟩
 ·have h3 := h.eq
  rw [val_append,val_append,h1,hl,Nat.mul_zero,Nat.add_zero,Nat.pow_succ] at h3
  rw [val_append,val_append,h1,hl,Nat.mul_zero,Nat.add_zero,he,val_cons,<- h3]
  have h4:=Nat.div_add_mod (val part) V
  conv=>rhs;rw [<- h4]
  generalize val part % V=m
  generalize val part / V=g
  generalize 4294967296 ^ k=P
  grind
 ·rw [val_append, val_append, h1, hl, Nat.mul_zero, Nat.add_zero, he]
  have h3:=val_lt dpre
  rw [hl] at h3
  have h4:=Nat.mul_le_mul_left (4294967296 ^ k) (Nat.succ_le_of_lt (Nat.mod_lt (val part) hV0))
  have e:4294967296 ^ k*(val part % V).succ=4294967296 ^ k*(val part % V)+4294967296 ^ k:=by rw [Nat.succ_eq_add_one];grind
  omega
theorem long_end {A V:Nat} {u qs:List Nat} (hV0:0 < V) (h:LongInv A V 0 u qs):val qs=A / V/\val u=A % V:=by
 have h1:=h.eq
 have h2:=h.lt
 rw [Nat.pow_zero,Nat.one_mul] at h1 h2
 refine quot_of hV0 h1.symm ?_
 rw [<- Nat.lt_succ_iff,Nat.div_lt_iff_lt_mul hV0,<- h1,Nat.succ_eq_add_one]
 have:(val qs+1)*V=val qs*V+V:=by grind
 omega
end

set_option maxHeartbeats 2000000
set_option maxRecDepth 100000
section
open Go.RowKit
theorem one_news {w:World} (z:Int) (x:Nat) (T:TypeId) (h:z=(x:Int)) :
  ∀ j u,[Value.int .u32 (x:Int)][j]? = some u->(w.alloc (.cells #[.int .u32 z] T)).cell? ((⟨w.heap.size,0,none⟩:Addr).add j)=some u:=by
 subst h
 intro j u hu
 cases j with
 | zero =>
  simp only [List.getElem?_cons_zero,Option.some.injEq] at hu
  subst hu
  rw [add_none,cell_of_row _ _ _ _ _ _ (heap_alloc_new w _)]
  rfl
 | succ j=>simp at hu
theorem enc_snoc (o:List Nat) (x:Nat):enc o++[.int .u32 (x:Int)]=enc (o++[x]):=by simp [enc]
theorem enc_len_one (o:List Nat) (x:Nat):(o++[x]).length=o.length+1:=by simp
def RetDigs (w:World) (n:Nat) (e:Ending) (w':World):Prop :=
 ∃ p c,e=.returned (.slice p (digs n).length c)/\Row w' p c (digs n)/\New w p/\Ext w w'
theorem ret_u64 {a b:Int} (h:a=b):Value.int .u64 a=Value.int .u64 b:=by rw [h]
theorem sum_done {a b o:List Nat} (h:sumInv a b o 0) (h1:a.length<=o.length) (h2:b.length<=o.length):val o=val a+val b:=by
 have:=h.2.2
 rw [val_take_all a _ h1,val_take_all b _ h2] at this
 omega
theorem r01_plus (a b:List Nat) (pa pb:Option Addr) (la ca lb kb:Nat) (w:World) (ha:Row w pa ca a) (hb:Row w pb kb b) (hla:la=a.length) (hlb:lb=b.length) (hal:a.length<=1000) (hbl:b.length<=1000) :
  Calls Tryz.prog 172 #[.slice pa la ca,.slice pb lb kb] w (RetDigs w (val a+val b)):=by
 subst hla hlb
 obtain ⟨i,hi,hz0,hz1,hz2⟩:=info_parts info32
 have hac:=ha.le
 have ham:=ha.max
 have hbc:=hb.le
 have hbm:=hb.max
 go_enter Tryz.func172,Tryz.ntmps172
 go_wp2
 go_loopw [5,6,7] (fun v cr k wr=>∃ (o:List Nat) (s:Nat),o.length<=1001/\k=.int .i64 (o.length:Int)/\cr=.int .u64 (s:Int)/\sumInv a b o s/\(a.length < o.length->b.length < o.length->s=0)/\o.length<=max a.length b.length+1/\wr.ownsRow w.heap.size 140 1 v o.length (enc o)/\Ext w wr) (fun _ _ k _=>1002 - (intOf k).toNat)
 case atStart=>exact ⟨[],0,by simp,rfl,rfl,⟨Dig.nil,by omega,by simp [val]⟩,by simp,by simp,World.ownsRow_nil _ _ _ _,bxx⟩
 case round =>
  obtain ⟨o,s,ho,rfl,rfl,hinv,hs0,hol,hown,hx⟩:=hrel
  have haw:=ha.ext hx
  have hbw:=hb.ext hx
  have hx1:=ha.dig.getD o.length
  have hy1:=hb.dig.getD o.length
  have INV2:=Lib.hid (sumInv_step ha.dig hb.dig hinv)
  have hs:=hinv.2.1
  rw [List.getD_eq_getElem?_getD] at hx1 hy1
  have INV:=Lib.hid hinv
  have S0:=Lib.hid hs0
  clear hinv hs0
  by_cases ka:o.length < a.length
  ·by_cases kb : o.length < b.length
   ·obtain ⟨ba, oa, rfl, hba, hca⟩ := haw.at (by omega)
    have hca1:=hca _ ka
    obtain ⟨x,X⟩:∃ x,Hid (a[o.length]?.getD 0=x):=⟨_,rfl⟩
    rw [X.out] at hx1 hca1
    clear hca
    obtain ⟨bb,ob,rfl,hbb,hcb⟩:=hbw.at (by omega)
    have hcb1:=hcb _ kb
    obtain ⟨y,Y⟩:∃ y,Hid (b[o.length]?.getD 0=y):=⟨_,rfl⟩
    rw [Y.out] at hy1 hcb1
    clear hcb
    go_wp2_with (at_builtin;refine wpList_append_own _ rfl _ _ 34 rfl w.heap.size 140 i (.int .u32 0) 1 4 Tryz.underlying34 hi hz0 hz1 hz2 rfl (by decide) _ _ _ rfl (hown.alloc _) ⟨wr.heap.size,0,none⟩ 1 1 [.int .u32 (((s+(x+y)) % 4294967296:Nat):Int)] rfl rfl (one_news _ _ _ (by omega)) (by intro u hu;simp at hu;subst hu;rfl) (by unfold maxLen;omega) (by omega) (by have:=hx.size;simp;omega) ?_)
    intro v' w1 hown' hgr _
    have hown2:w1.ownsRow w.heap.size 140 1 v' (o.length+1) (enc o++[.int .u32 (((s+(x+y)) % 4294967296:Nat):Int)]):=hown'
    rw [enc_snoc] at hown2
    have hl:=hown.lt
    have hx2:Ext w w1:=(hx.alloc hx.size _).grown hgr (by have:=hx.size;simp;omega) (fun k hk=>(hl k hk).1)
    have OWN:=Lib.hid hown2
    clear hown' hown2 hgr hown hl
    go_wp2
    have h:=INV2.out
    rw [X.out,Y.out] at h
    exact ⟨⟨o++[(s+(x+y)) % 4294967296],(s+(x+y)) / 4294967296,by rw [enc_len_one];omega,by rw [enc_len_one];rfl,ret_u64 (by omega),h,by rw [enc_len_one];intro g1 g2;first | omega | (have:=S0.out;omega),by rw [enc_len_one];omega,by rw [enc_len_one];exact OWN.out,hx2⟩,by simp [intOf];omega⟩
   ·have kb2 : b.length <= o.length := by omega
    obtain ⟨ba,oa,rfl,hba,hca⟩:=haw.at (by omega)
    have hca1:=hca _ ka
    obtain ⟨x,X⟩:∃ x,Hid (a[o.length]?.getD 0=x):=⟨_,rfl⟩
    rw [X.out] at hx1 hca1
    clear hca
    obtain ⟨y,Y,y0⟩:∃ y,Hid (b[o.length]?.getD 0=y)/\Hid (y=0):=⟨_,rfl,by rw [List.getElem?_eq_none (by omega)];rfl⟩
    have hy0:y<=0:=Nat.le_of_eq y0.out
    clear y0
    go_wp2_with (at_builtin;refine wpList_append_own _ rfl _ _ 34 rfl w.heap.size 140 i (.int .u32 0) 1 4 Tryz.underlying34 hi hz0 hz1 hz2 rfl (by decide) _ _ _ rfl (hown.alloc _) ⟨wr.heap.size,0,none⟩ 1 1 [.int .u32 (((s+(x+y)) % 4294967296:Nat):Int)] rfl rfl (one_news _ _ _ (by omega)) (by intro u hu;simp at hu;subst hu;rfl) (by unfold maxLen;omega) (by omega) (by have:=hx.size;simp;omega) ?_)
    intro v' w1 hown' hgr _
    have hown2:w1.ownsRow w.heap.size 140 1 v' (o.length+1) (enc o++[.int .u32 (((s+(x+y)) % 4294967296:Nat):Int)]):=hown'
    rw [enc_snoc] at hown2
    have hl:=hown.lt
    have hx2:Ext w w1:=(hx.alloc hx.size _).grown hgr (by have:=hx.size;simp;omega) (fun k hk=>(hl k hk).1)
    have OWN:=Lib.hid hown2
    clear hown' hown2 hgr hown hl
    go_wp2
    have h:=INV2.out
    rw [X.out,Y.out] at h
    exact ⟨⟨o++[(s+(x+y)) % 4294967296],(s+(x+y)) / 4294967296,by rw [enc_len_one];omega,by rw [enc_len_one];rfl,ret_u64 (by omega),h,by rw [enc_len_one];intro g1 g2;first | omega | (have:=S0.out;omega),by rw [enc_len_one];omega,by rw [enc_len_one];exact OWN.out,hx2⟩,by simp [intOf];omega⟩
  ·have ka2 : a.length <= o.length := by omega
   by_cases kb:o.length < b.length
   ·obtain ⟨x, X, x0⟩ : ∃ x, Hid (a[o.length]?.getD 0 = x) /\ Hid (x = 0) := ⟨_, rfl, by rw [List.getElem?_eq_none (by omega)]; rfl⟩
    have hx0:x<=0:=Nat.le_of_eq x0.out
    clear x0
    obtain ⟨bb,ob,rfl,hbb,hcb⟩:=hbw.at (by omega)
    have hcb1:=hcb _ kb
    obtain ⟨y,Y⟩:∃ y,Hid (b[o.length]?.getD 0=y):=⟨_,rfl⟩
    rw [Y.out] at hy1 hcb1
    clear hcb
    go_wp2_with (at_builtin;refine wpList_append_own _ rfl _ _ 34 rfl w.heap.size 140 i (.int .u32 0) 1 4 Tryz.underlying34 hi hz0 hz1 hz2 rfl (by decide) _ _ _ rfl (hown.alloc _) ⟨wr.heap.size,0,none⟩ 1 1 [.int .u32 (((s+(x+y)) % 4294967296:Nat):Int)] rfl rfl (one_news _ _ _ (by omega)) (by intro u hu;simp at hu;subst hu;rfl) (by unfold maxLen;omega) (by omega) (by have:=hx.size;simp;omega) ?_)
    intro v' w1 hown' hgr _
    have hown2:w1.ownsRow w.heap.size 140 1 v' (o.length+1) (enc o++[.int .u32 (((s+(x+y)) % 4294967296:Nat):Int)]):=hown'
    rw [enc_snoc] at hown2
    have hl:=hown.lt
    have hx2:Ext w w1:=(hx.alloc hx.size _).grown hgr (by have:=hx.size;simp;omega) (fun k hk=>(hl k hk).1)
    have OWN:=Lib.hid hown2
    clear hown' hown2 hgr hown hl
    go_wp2
    have h:=INV2.out
    rw [X.out,Y.out] at h
    exact ⟨⟨o++[(s+(x+y)) % 4294967296],(s+(x+y)) / 4294967296,by rw [enc_len_one];omega,by rw [enc_len_one];rfl,ret_u64 (by omega),h,by rw [enc_len_one];intro g1 g2;first | omega | (have:=S0.out;omega),by rw [enc_len_one];omega,by rw [enc_len_one];exact OWN.out,hx2⟩,by simp [intOf];omega⟩
   ·have kb2 : b.length <= o.length := by omega
    by_cases sz:s=0
    ·subst sz
     have V:=Lib.hid (sum_done INV.out ka2 kb2)
     have d0:=INV.out.1
     obtain ⟨p,c,rfl,hrow,hnew⟩:=row_of_owns hown d0
     clear hown haw hbw
     go_wp2_with fail
     refine (r01_trim o _ _ _ _ hrow rfl).mono ?_
     rintro e w1 ⟨rfl,hrow1,hx2⟩
     have hx3:Ext w w1:=Ext.step hx hx2
     have T:trim o=digs (val a+val b):=by rw [<- V.out];rfl
     go_wp2
     go_ret
     rw [T] at hrow1
     exact ⟨p,c,rfl,hrow1,hnew,hx3⟩
    ·have sz2 : 0 < s := by omega
     clear sz
     obtain ⟨x,X,x0⟩:∃ x,Hid (a[o.length]?.getD 0=x)/\Hid (x=0):=⟨_,rfl,by rw [List.getElem?_eq_none (by omega)];rfl⟩
     have hx0:x<=0:=Nat.le_of_eq x0.out
     clear x0
     obtain ⟨y,Y,y0⟩:∃ y,Hid (b[o.length]?.getD 0=y)/\Hid (y=0):=⟨_,rfl,by rw [List.getElem?_eq_none (by omega)];rfl⟩
     have hy0:y<=0:=Nat.le_of_eq y0.out
     clear y0
     have hol2:o.length<=max a.length b.length:=by
      rcases Nat.lt_or_ge (max a.length b.length) o.length with g | g
      ·have:=S0.out (by omega) (by omega);omega
      ·exact g
     go_wp2_with (at_builtin;refine wpList_append_own _ rfl _ _ 34 rfl w.heap.size 140 i (.int .u32 0) 1 4 Tryz.underlying34 hi hz0 hz1 hz2 rfl (by decide) _ _ _ rfl (hown.alloc _) ⟨wr.heap.size,0,none⟩ 1 1 [.int .u32 (((s+(x+y)) % 4294967296:Nat):Int)] rfl rfl (one_news _ _ _ (by omega)) (by intro u hu;simp at hu;subst hu;rfl) (by unfold maxLen;omega) (by omega) (by have:=hx.size;simp;omega) ?_)
     intro v' w1 hown' hgr _
     have hown2:w1.ownsRow w.heap.size 140 1 v' (o.length+1) (enc o++[.int .u32 (((s+(x+y)) % 4294967296:Nat):Int)]):=hown'
     rw [enc_snoc] at hown2
     have hl:=hown.lt
     have hx2:Ext w w1:=(hx.alloc hx.size _).grown hgr (by have:=hx.size;simp;omega) (fun k hk=>(hl k hk).1)
     have OWN:=Lib.hid hown2
     clear hown' hown2 hgr hown hl
     go_wp2
     have h:=INV2.out
     rw [X.out,Y.out] at h
     exact ⟨⟨o++[(s+(x+y)) % 4294967296],(s+(x+y)) / 4294967296,by rw [enc_len_one];omega,by rw [enc_len_one];rfl,ret_u64 (by omega),h,by rw [enc_len_one];intro g1 g2;first | omega | (have:=S0.out;omega),by rw [enc_len_one];omega,by rw [enc_len_one];exact OWN.out,hx2⟩,by simp [intOf];omega⟩
theorem r01_minus (a b:List Nat) (pa pb:Option Addr) (la ca lb kb:Nat) (w:World) (ha:Row w pa ca a) (hb:Row w pb kb b) (hla:la=a.length) (hlb:lb=b.length) (hal:a.length<=1000) (hbl:b.length<=a.length) (hle:val b<=val a) :
  Calls Tryz.prog 171 #[.slice pa la ca,.slice pb lb kb] w (RetDigs w (val a - val b)):=by
 subst hla hlb
 obtain ⟨i,hi,hz0,hz1,hz2⟩:=info_parts info32
 have hac:=ha.le
 have ham:=ha.max
 have hbc:=hb.le
 have hbm:=hb.max
 go_enter Tryz.func171,Tryz.ntmps171
 go_wp2
 go_loopw [5,6,7] (fun v cr k wr=>∃ (o:List Nat) (s:Nat),o.length<=a.length/\k=.int .i64 (o.length:Int)/\cr=.int .u64 (s:Int)/\diffInv a b o s/\wr.ownsRow w.heap.size 140 1 v o.length (enc o)/\Ext w wr) (fun _ _ k _=>a.length - (intOf k).toNat)
 case atStart=>exact ⟨[],0,by simp,rfl,rfl,⟨Dig.nil,by omega,by simp [val]⟩,World.ownsRow_nil _ _ _ _,bxx⟩
 case round =>
  obtain ⟨o,s,ho,rfl,rfl,hinv,hown,hx⟩:=hrel
  have haw:=ha.ext hx
  have hbw:=hb.ext hx
  have hx1:=ha.dig.getD o.length
  have hy1:=hb.dig.getD o.length
  have INV2:=Lib.hid (diffInv_step ha.dig hb.dig hinv)
  have hs:=hinv.2.1
  rw [List.getD_eq_getElem?_getD] at hx1 hy1
  have INV:=Lib.hid hinv
  clear hinv
  by_cases ka:o.length < a.length
  ·obtain ⟨ba, oa, rfl, hba, hca⟩ := haw.at (by omega)
   have hca1:=hca _ ka
   obtain ⟨x,X⟩:∃ x,Hid (a[o.length]?.getD 0=x):=⟨_,rfl⟩
   rw [X.out] at hx1 hca1
   clear hca
   by_cases kb:o.length < b.length
   ·obtain ⟨bb, ob, rfl, hbb, hcb⟩ := hbw.at (by omega)
    have hcb1:=hcb _ kb
    obtain ⟨y,Y⟩:∃ y,Hid (b[o.length]?.getD 0=y):=⟨_,rfl⟩
    rw [Y.out] at hy1 hcb1
    clear hcb
    obtain ⟨dg,DG⟩:∃ dg,Hid ((x+4294967296 - y - s) % 4294967296=dg):=⟨_,rfl⟩
    obtain ⟨sg,SG⟩:∃ sg,Hid ((if x < y+s then 1 else 0:Nat)=sg):=⟨_,rfl⟩
    by_cases hlt:x < y+s
    ·have hd1 : dg <= x + 4294967296 - y - s := by have := DG.out; omega
     have hd2:x+4294967296 - y - s<=dg:=by have:=DG.out;omega
     have hs1:sg<=1:=by have:=SG.out;rw [if_pos hlt] at this;omega
     have hs2:1<=sg:=by have:=SG.out;rw [if_pos hlt] at this;omega
     go_wp2_with (at_builtin;refine wpList_append_own _ rfl _ _ 34 rfl w.heap.size 140 i (.int .u32 0) 1 4 Tryz.underlying34 hi hz0 hz1 hz2 rfl (by decide) _ _ _ rfl (hown.alloc _) ⟨wr.heap.size,0,none⟩ 1 1 [.int .u32 ((dg:Nat):Int)] rfl rfl (one_news _ _ _ (by omega)) (by intro u hu;simp at hu;subst hu;rfl) (by unfold maxLen;omega) (by omega) (by have:=hx.size;simp;omega) ?_)
     intro v' w1 hown' hgr _
     have hown2:w1.ownsRow w.heap.size 140 1 v' (o.length+1) (enc o++[.int .u32 ((dg:Nat):Int)]):=hown'
     rw [enc_snoc] at hown2
     have hl:=hown.lt
     have hx2:Ext w w1:=(hx.alloc hx.size _).grown hgr (by have:=hx.size;simp;omega) (fun k hk=>(hl k hk).1)
     have OWN:=Lib.hid hown2
     clear hown' hown2 hgr hown hl
     go_wp2
     have h:=INV2.out
     rw [X.out,Y.out,DG.out,SG.out] at h
     exact ⟨⟨o++[dg],sg,by rw [enc_len_one];omega,by rw [enc_len_one];rfl,ret_u64 (by omega),h,by rw [enc_len_one];exact OWN.out,hx2⟩,by simp [intOf];omega⟩
    ·have hd1 : dg <= x - y - s := by have := DG.out; omega
     have hd2:x - y - s<=dg:=by have:=DG.out;omega
     have hs1:sg<=0:=by have:=SG.out;rw [if_neg hlt] at this;omega
     go_wp2_with (at_builtin;refine wpList_append_own _ rfl _ _ 34 rfl w.heap.size 140 i (.int .u32 0) 1 4 Tryz.underlying34 hi hz0 hz1 hz2 rfl (by decide) _ _ _ rfl (hown.alloc _) ⟨wr.heap.size,0,none⟩ 1 1 [.int .u32 ((dg:Nat):Int)] rfl rfl (one_news _ _ _ (by omega)) (by intro u hu;simp at hu;subst hu;rfl) (by unfold maxLen;omega) (by omega) (by have:=hx.size;simp;omega) ?_)
     intro v' w1 hown' hgr _
     have hown2:w1.ownsRow w.heap.size 140 1 v' (o.length+1) (enc o++[.int .u32 ((dg:Nat):Int)]):=hown'
     rw [enc_snoc] at hown2
     have hl:=hown.lt
     have hx2:Ext w w1:=(hx.alloc hx.size _).grown hgr (by have:=hx.size;simp;omega) (fun k hk=>(hl k hk).1)
     have OWN:=Lib.hid hown2
     clear hown' hown2 hgr hown hl
     go_wp2
     have h:=INV2.out
     rw [X.out,Y.out,DG.out,SG.out] at h
     exact ⟨⟨o++[dg],sg,by rw [enc_len_one];omega,by rw [enc_len_one];rfl,ret_u64 (by omega),h,by rw [enc_len_one];exact OWN.out,hx2⟩,by simp [intOf];omega⟩
   ·have kb2 : b.length <= o.length := by omega
    obtain ⟨y,Y,y0⟩:∃ y,Hid (b[o.length]?.getD 0=y)/\Hid (y=0):=⟨_,rfl,by rw [List.getElem?_eq_none (by omega)];rfl⟩
    have hy0:y<=0:=Nat.le_of_eq y0.out
    clear y0
    obtain ⟨dg,DG⟩:∃ dg,Hid ((x+4294967296 - y - s) % 4294967296=dg):=⟨_,rfl⟩
    obtain ⟨sg,SG⟩:∃ sg,Hid ((if x < y+s then 1 else 0:Nat)=sg):=⟨_,rfl⟩
    by_cases hlt:x < y+s
    ·have hd1 : dg <= x + 4294967296 - y - s := by have := DG.out; omega
     have hd2:x+4294967296 - y - s<=dg:=by have:=DG.out;omega
     have hs1:sg<=1:=by have:=SG.out;rw [if_pos hlt] at this;omega
     have hs2:1<=sg:=by have:=SG.out;rw [if_pos hlt] at this;omega
     go_wp2_with (at_builtin;refine wpList_append_own _ rfl _ _ 34 rfl w.heap.size 140 i (.int .u32 0) 1 4 Tryz.underlying34 hi hz0 hz1 hz2 rfl (by decide) _ _ _ rfl (hown.alloc _) ⟨wr.heap.size,0,none⟩ 1 1 [.int .u32 ((dg:Nat):Int)] rfl rfl (one_news _ _ _ (by omega)) (by intro u hu;simp at hu;subst hu;rfl) (by unfold maxLen;omega) (by omega) (by have:=hx.size;simp;omega) ?_)
     intro v' w1 hown' hgr _
     have hown2:w1.ownsRow w.heap.size 140 1 v' (o.length+1) (enc o++[.int .u32 ((dg:Nat):Int)]):=hown'
     rw [enc_snoc] at hown2
     have hl:=hown.lt
     have hx2:Ext w w1:=(hx.alloc hx.size _).grown hgr (by have:=hx.size;simp;omega) (fun k hk=>(hl k hk).1)
     have OWN:=Lib.hid hown2
     clear hown' hown2 hgr hown hl
     go_wp2
     have h:=INV2.out
     rw [X.out,Y.out,DG.out,SG.out] at h
     exact ⟨⟨o++[dg],sg,by rw [enc_len_one];omega,by rw [enc_len_one];rfl,ret_u64 (by omega),h,by rw [enc_len_one];exact OWN.out,hx2⟩,by simp [intOf];omega⟩
    ·have hd1 : dg <= x - y - s := by have := DG.out; omega
     have hd2:x - y - s<=dg:=by have:=DG.out;omega
     have hs1:sg<=0:=by have:=SG.out;rw [if_neg hlt] at this;omega
     go_wp2_with (at_builtin;refine wpList_append_own _ rfl _ _ 34 rfl w.heap.size 140 i (.int .u32 0) 1 4 Tryz.underlying34 hi hz0 hz1 hz2 rfl (by decide) _ _ _ rfl (hown.alloc _) ⟨wr.heap.size,0,none⟩ 1 1 [.int .u32 ((dg:Nat):Int)] rfl rfl (one_news _ _ _ (by omega)) (by intro u hu;simp at hu;subst hu;rfl) (by unfold maxLen;omega) (by omega) (by have:=hx.size;simp;omega) ?_)
     intro v' w1 hown' hgr _
     have hown2:w1.ownsRow w.heap.size 140 1 v' (o.length+1) (enc o++[.int .u32 ((dg:Nat):Int)]):=hown'
     rw [enc_snoc] at hown2
     have hl:=hown.lt
     have hx2:Ext w w1:=(hx.alloc hx.size _).grown hgr (by have:=hx.size;simp;omega) (fun k hk=>(hl k hk).1)
     have OWN:=Lib.hid hown2
     clear hown' hown2 hgr hown hl
     go_wp2
     have h:=INV2.out
     rw [X.out,Y.out,DG.out,SG.out] at h
     exact ⟨⟨o++[dg],sg,by rw [enc_len_one];omega,by rw [enc_len_one];rfl,ret_u64 (by omega),h,by rw [enc_len_one];exact OWN.out,hx2⟩,by simp [intOf];omega⟩
  ·have ka2 : a.length <= o.length := by omega
   have V:=Lib.hid (diffInv_end INV.out ka2 (by omega) hle)
   have d0:=INV.out.1
   obtain ⟨p,c,rfl,hrow,hnew⟩:=row_of_owns hown d0
   clear hown haw hbw
   go_wp2_with fail
   refine (r01_trim o _ _ _ _ hrow rfl).mono ?_
   rintro e w1 ⟨rfl,hrow1,hx2⟩
   have hx3:Ext w w1:=Ext.step hx hx2
   have T:trim o=digs (val a - val b):=by rw [<- V.out];rfl
   go_wp2
   go_ret
   rw [T] at hrow1
   exact ⟨p,c,rfl,hrow1,hnew,hx3⟩
end

set_option maxHeartbeats 1000000
set_option maxRecDepth 100000
section
open Go.RowKit
theorem tight_len {a b:List Nat} (da:Dig a) (tb:Tight b) (h:val b<=val a):b.length<=a.length:=by
 rcases Nat.lt_or_ge a.length b.length with g | g
 ·have := val_lt_of_length da tb g
  omega
 ·exact g
end

set_option maxHeartbeats 1000000
set_option maxRecDepth 100000
section
open Go.RowKit
theorem r01_Cmp (a b:Nm) (na nb:Bool) (pa pb:Option Addr) (la ca lb cb:Nat) (w:World) (ha:NR w na pa la ca a) (hb:NR w nb pb lb cb b) :
  Calls Tryz.prog 122 #[.agg #[.bool na,.slice pa la ca],.agg #[.bool nb,.slice pb lb cb]] w fun e w'=>e=.returned (.int .i64 (cmpP a b))/\Ext w w':=by
 by_cases ra:a.right=true
 ·by_cases rb : b.right = true
  ·have n1 := ha.1
   have n2:=hb.1
   have da:=ha.2.2.dig
   have db:=hb.2.2.dig
   cases h1:a.neg<;>cases h2:b.neg<;>rw [h1] at n1<;>rw [h2] at n2<;>subst n1 n2
   ·have S := Lib.hid (cmpP_pos ra rb da db h1 h2)
    clear h1 h2
    go_enter Tryz.func122,Tryz.ntmps122
    go_wp2_with fail
    refine (r01_Right a _ _ _ _ _ (ha.ext bxx)).mono ?_
    rintro e w1 ⟨rfl,hx⟩
    rw [ra]
    have hx0:Ext w w1:=Ext.step bxx hx
    have hz_w1:w.heap.size+2<=w1.heap.size:=Nat.le_trans omm hx.size
    obtain ⟨hl_w1_0,hk_w1_0,hf_w1_0⟩:=extK hx (w.heap.size)
    obtain ⟨hl_w1_1,hk_w1_1,hf_w1_1⟩:=extK hx (w.heap.size+1)
    go_wp2_with fail
    refine (r01_Right b _ _ _ _ _ (hb.ext bxx)).mono ?_
    rintro e w2 ⟨rfl,hx2⟩
    rw [rb]
    have hx1:Ext w w2:=Ext.step hx0 hx2
    have hz_w2:w.heap.size+2<=w2.heap.size:=Nat.le_trans omm hx2.size
    obtain ⟨hl_w2_0,hk_w2_0,hf_w2_0⟩:=extK hx2 (w.heap.size)
    obtain ⟨hl_w2_1,hk_w2_1,hf_w2_1⟩:=extK hx2 (w.heap.size+1)
    go_wp2_with fail
    refine (r01_compare a.d b.d _ _ _ _ _ _ _ (ha.2.2.ext bxx) (hb.2.2.ext bxx) ha.2.1 hb.2.1).mono ?_
    rintro e w3 ⟨rfl,hx3⟩
    have hx4:Ext w w3:=Ext.step hx1 hx3
    go_wp2
    go_ret
    exact ⟨by rw [S.out];rfl,hx4⟩
   ·have S := Lib.hid (cmpP_more ra rb db h1 h2)
    clear h1 h2
    go_enter Tryz.func122,Tryz.ntmps122
    go_wp2_with fail
    refine (r01_Right a _ _ _ _ _ (ha.ext bxx)).mono ?_
    rintro e w1 ⟨rfl,hx⟩
    rw [ra]
    have hx0:Ext w w1:=Ext.step bxx hx
    have hz_w1:w.heap.size+2<=w1.heap.size:=Nat.le_trans omm hx.size
    obtain ⟨hl_w1_0,hk_w1_0,hf_w1_0⟩:=extK hx (w.heap.size)
    obtain ⟨hl_w1_1,hk_w1_1,hf_w1_1⟩:=extK hx (w.heap.size+1)
    go_wp2_with fail
    refine (r01_Right b _ _ _ _ _ (hb.ext bxx)).mono ?_
    rintro e w2 ⟨rfl,hx2⟩
    rw [rb]
    have hx1:Ext w w2:=Ext.step hx0 hx2
    have hz_w2:w.heap.size+2<=w2.heap.size:=Nat.le_trans omm hx2.size
    obtain ⟨hl_w2_0,hk_w2_0,hf_w2_0⟩:=extK hx2 (w.heap.size)
    obtain ⟨hl_w2_1,hk_w2_1,hf_w2_1⟩:=extK hx2 (w.heap.size+1)
    go_wp2
    go_ret
    exact ⟨by rw [S.out];rfl,hx1⟩
   ·have S := Lib.hid (cmpP_less ra rb da h1 h2)
    clear h1 h2
    go_enter Tryz.func122,Tryz.ntmps122
    go_wp2_with fail
    refine (r01_Right a _ _ _ _ _ (ha.ext bxx)).mono ?_
    rintro e w1 ⟨rfl,hx⟩
    rw [ra]
    have hx0:Ext w w1:=Ext.step bxx hx
    have hz_w1:w.heap.size+2<=w1.heap.size:=Nat.le_trans omm hx.size
    obtain ⟨hl_w1_0,hk_w1_0,hf_w1_0⟩:=extK hx (w.heap.size)
    obtain ⟨hl_w1_1,hk_w1_1,hf_w1_1⟩:=extK hx (w.heap.size+1)
    go_wp2_with fail
    refine (r01_Right b _ _ _ _ _ (hb.ext bxx)).mono ?_
    rintro e w2 ⟨rfl,hx2⟩
    rw [rb]
    have hx1:Ext w w2:=Ext.step hx0 hx2
    have hz_w2:w.heap.size+2<=w2.heap.size:=Nat.le_trans omm hx2.size
    obtain ⟨hl_w2_0,hk_w2_0,hf_w2_0⟩:=extK hx2 (w.heap.size)
    obtain ⟨hl_w2_1,hk_w2_1,hf_w2_1⟩:=extK hx2 (w.heap.size+1)
    go_wp2
    go_ret
    exact ⟨by rw [S.out];rfl,hx1⟩
   ·have S := Lib.hid (cmpP_negs ra rb da db h1 h2)
    clear h1 h2
    go_enter Tryz.func122,Tryz.ntmps122
    go_wp2_with fail
    refine (r01_Right a _ _ _ _ _ (ha.ext bxx)).mono ?_
    rintro e w1 ⟨rfl,hx⟩
    rw [ra]
    have hx0:Ext w w1:=Ext.step bxx hx
    have hz_w1:w.heap.size+2<=w1.heap.size:=Nat.le_trans omm hx.size
    obtain ⟨hl_w1_0,hk_w1_0,hf_w1_0⟩:=extK hx (w.heap.size)
    obtain ⟨hl_w1_1,hk_w1_1,hf_w1_1⟩:=extK hx (w.heap.size+1)
    go_wp2_with fail
    refine (r01_Right b _ _ _ _ _ (hb.ext bxx)).mono ?_
    rintro e w2 ⟨rfl,hx2⟩
    rw [rb]
    have hx1:Ext w w2:=Ext.step hx0 hx2
    have hz_w2:w.heap.size+2<=w2.heap.size:=Nat.le_trans omm hx2.size
    obtain ⟨hl_w2_0,hk_w2_0,hf_w2_0⟩:=extK hx2 (w.heap.size)
    obtain ⟨hl_w2_1,hk_w2_1,hf_w2_1⟩:=extK hx2 (w.heap.size+1)
    go_wp2_with fail
    refine (r01_compare b.d a.d _ _ _ _ _ _ _ (hb.2.2.ext bxx) (ha.2.2.ext bxx) hb.2.1 ha.2.1).mono ?_
    rintro e w3 ⟨rfl,hx3⟩
    have hx4:Ext w w3:=Ext.step hx1 hx3
    go_wp2
    go_ret
    exact ⟨by rw [S.out];rfl,hx4⟩
  ·have rb : b.right = false := by simpa using rb
   have S:=Lib.hid (cmpP_none (a:=a) (.inr rb))
   go_enter Tryz.func122,Tryz.ntmps122
   go_wp2_with fail
   refine (r01_Right a _ _ _ _ _ (ha.ext bxx)).mono ?_
   rintro e w1 ⟨rfl,hx⟩
   rw [ra]
   have hx0:Ext w w1:=Ext.step bxx hx
   have hz_w1:w.heap.size+2<=w1.heap.size:=Nat.le_trans omm hx.size
   obtain ⟨hl_w1_0,hk_w1_0,hf_w1_0⟩:=extK hx (w.heap.size)
   obtain ⟨hl_w1_1,hk_w1_1,hf_w1_1⟩:=extK hx (w.heap.size+1)
   go_wp2_with fail
   refine (r01_Right b _ _ _ _ _ (hb.ext bxx)).mono ?_
   rintro e w2 ⟨rfl,hx2⟩
   rw [rb]
   have hx1:Ext w w2:=Ext.step hx0 hx2
   have hz_w2:w.heap.size+2<=w2.heap.size:=Nat.le_trans omm hx2.size
   obtain ⟨hl_w2_0,hk_w2_0,hf_w2_0⟩:=extK hx2 (w.heap.size)
   obtain ⟨hl_w2_1,hk_w2_1,hf_w2_1⟩:=extK hx2 (w.heap.size+1)
   go_wp2
   go_ret
   exact ⟨by rw [S.out];rfl,hx1⟩
 ·have ra : a.right = false := by simpa using ra
  have S:=Lib.hid (cmpP_none (b:=b) (.inl ra))
  go_enter Tryz.func122,Tryz.ntmps122
  go_wp2_with fail
  refine (r01_Right a _ _ _ _ _ (ha.ext bxx)).mono ?_
  rintro e w1 ⟨rfl,hx⟩
  rw [ra]
  have hx0:Ext w w1:=Ext.step bxx hx
  have hz_w1:w.heap.size+2<=w1.heap.size:=Nat.le_trans omm hx.size
  obtain ⟨hl_w1_0,hk_w1_0,hf_w1_0⟩:=extK hx (w.heap.size)
  obtain ⟨hl_w1_1,hk_w1_1,hf_w1_1⟩:=extK hx (w.heap.size+1)
  go_wp2
  go_ret
  exact ⟨by rw [S.out];rfl,hx0⟩
end
end Go.Proofs.YtceemiodpccbhaaGreat
