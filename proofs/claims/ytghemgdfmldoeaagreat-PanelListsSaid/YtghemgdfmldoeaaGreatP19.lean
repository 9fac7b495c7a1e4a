import Derived.Test.YtghemgdfmldoeaaGreatP18
import Derived.Laws.BitsAllLaws
import Derived.Deep.DeepCutAuto
set_option linter.unusedVariables false
set_option linter.unusedSimpArgs false
namespace Go.Proofs.YtghemgdfmldoeaaGreat
open Go.RowKit
theorem Ah{b:List Nat}{n x:Nat}(hl:b.length=n+1)(hx:b[n]?.getD 0=x):val b=val (b.take n)+4294967296 ^ n*x:=by
 have h:=xe b n;rw[hx,List.take_of_length_le (by omega)] at h;exact h
theorem a4y{q:Nat}{u v o:List Nat}{c b x:Nat}(h:xG q u v o c b)(ho:o.length=v.length)(hu:u.length=v.length+1)(hx:u[v.length]?.getD 0=x)(hle:c+b<=x) :
  val u=val (o++[x-c-b])+q*val v:=by
 obtain⟨_,_,_,h4⟩:=h;rw[ho,List.take_of_length_le (Nat.le_refl v.length)] at h4;rw[Ah hu hx,tf,ho];generalize 4294967296 ^ v.length=P at *;obtain⟨t,rfl⟩:∃t,x=t+(c+b):=⟨x-(c+b),by omega⟩;rw[show t+(c+b)-c-b=t by omega];have e:P*(t+(c+b))=P*t+P*(c+b):=by grind
 omega
theorem a4x{q:Nat}{u v o:List Nat}{c b x:Nat}(h:xG q u v o c b)(hq:q<4294967296)(ho:o.length=v.length)(hu:u.length=v.length+1)(hx:u[v.length]?.getD 0=x)(hlt:x<c+b) :
  val u+4294967296 ^ (v.length+1)=val (o++[x+4294967296-c-b])+q*val v:=by
 obtain⟨_,h2,h3,h4⟩:=h;rw[ho,List.take_of_length_le (Nat.le_refl v.length)] at h4;rw[Ah hu hx,tf,ho,Nat.pow_succ];generalize 4294967296 ^ v.length=P at *;obtain⟨t,ht⟩:∃t,x+4294967296=t+(c+b):=⟨x+4294967296-(c+b),by omega⟩;rw[show x+4294967296-c-b=t by omega];have e:P*(x+4294967296)=P*t+P*(c+b):=by rw[ht];grind
 have e2:P*(x+4294967296)=P*x+P*4294967296:=by grind
 omega
theorem Rn{U V W q:Nat}(hV:0<V)(h:U=W+q*V)(hq:U/V<=q):q=U/V/\W=U%V:=by
 have h1:q<=U/V:=by rw[Nat.le_div_iff_mul_le hV];omega
 obtain rfl:q=U/V:=by omega
 refine⟨rfl,?_⟩;have:=Nat.div_add_mod U V;rw[Nat.mul_comm V] at this;omega
theorem a4w{q:Nat}{u v o o2:List Nat}{y c2:Nat}(h:val u+4294967296 ^ (v.length+1)=val (o++[y])+q*val v)(ho:o.length=v.length)(ho2:o2.length=v.length)(hs:uI (o++[y]) v o2 c2)
  (hy:y<4294967296) (dd:ao o) (du:ao u) (hu:u.length=v.length+1) (hV:0<val v) (hq:q<=val u/val v+1):y+c2=4294967296/\q-1=val u/val v/\1<=q/\val o2=val u%val v:=by
 obtain⟨d2,hc2,hs2⟩:=hs;have hlu:=ip du;rw[hu] at hlu;have hlo2:=ip d2;have hlo:val (o++[y])<4294967296 ^ (v.length+1):=by
  have:=ip (dd.append (ao.cons hy ao.nil));rwa [List.length_append,List.length_singleton,ho] at this
 have hqV:val u<q*val v:=by omega
 have hq1:val u/val v<q:=(Nat.div_lt_iff_lt_mul hV).2 hqV;obtain rfl:q=val u/val v+1:=by omega
 have hm:=Nat.div_add_mod (val u) (val v);rw[Nat.mul_comm] at hm;have hmlt:=Nat.mod_lt (val u) hV;rw[Nat.add_mul,Nat.one_mul] at h;rw[ho2,List.take_of_length_le (Nat.le_refl v.length),<- ho,List.take_left,ho] at hs2;rw[tf,ho,Nat.pow_succ] at h;rw[ho2] at hlo2;have key:val o2+4294967296 ^ v.length*(c2+y)=val u%val v+4294967296 ^ v.length*4294967296:=by
  have e:4294967296 ^ v.length*(c2+y)=4294967296 ^ v.length*c2+4294967296 ^ v.length*y:=by grind
  omega
 have hvl:val u%val v<4294967296 ^ v.length*(c2+y+1):=by
  have e:4294967296 ^ v.length*(c2+y+1)=4294967296 ^ v.length*(c2+y)+4294967296 ^ v.length:=by grind
  rw[e];omega
 have hb:¬c2+y<4294967296:=by
  intro hc;have h9:4294967296 ^ v.length*(c2+y+1)<=4294967296 ^ v.length*4294967296:=Nat.mul_le_mul_left _ hc;have e:4294967296 ^ v.length*(c2+y+1)=4294967296 ^ v.length*(c2+y)+4294967296 ^ v.length:=by grind
  omega
 have hb2:y+c2=4294967296:=by omega
 refine⟨hb2,Nat.add_sub_cancel _ _,Nat.le_add_left _ _,?_⟩;rw[show c2+y=4294967296 by omega] at key;omega
def AD(s:Nat)(a o:List Nat)(c:Nat):Prop:=ao o/\c<s/\val o+4294967296 ^ o.length*c=s*val (a.take o.length)
theorem a5W{s e:Nat}(hse:s*e=4294967296){a o:List Nat}{c d:Nat}(h:AD s a o c)(hd:a[o.length]?.getD 0=d)(hdb:d<4294967296) :
  AD s a (o++[d%e*s+c]) (d/e)/\d%e*s+c<4294967296:=by
 obtain⟨h1,h2,h3⟩:=h;have he:0<e:=by
  rcases Nat.eq_zero_or_pos e with g|g
  ·subst g;simp at hse
  ·exact g
 have hm:=Nat.mod_lt d he;have hlt:d%e*s+c<4294967296:=by
  have h4:(d%e+1)*s<=e*s:=Nat.mul_le_mul_right _ hm;rw[Nat.mul_comm e,hse,Nat.add_mul,Nat.one_mul] at h4;omega
 refine⟨⟨h1.append (ao.cons hlt ao.nil),?_,?_⟩,hlt⟩
 ·rw[Nat.div_lt_iff_lt_mul he,hse];exact hdb
 ·rw [List.length_append, List.length_singleton, tf, xe, hd, Nat.pow_succ];have e1:s*(val (a.take o.length)+4294967296 ^ o.length*d)=s*val (a.take o.length)+4294967296 ^ o.length*(s*d):=by grind
  have e2:s*d=d%e*s+4294967296*(d/e):=by
   have:=Nat.div_add_mod d e;rw[<- hse];conv=>lhs;rw[<- this]
   grind
  rw[e1,e2,<- h3];generalize 4294967296 ^ o.length=P;grind
theorem a5U{s:Nat}{a o:List Nat}{c:Nat}(h:AD s a o c)(hl:o.length=a.length):val (o++[c])=s*val a:=by
 obtain⟨_,_,h3⟩:=h;rw[hl,List.take_of_length_le (Nat.le_refl a.length)] at h3;rw[tf,hl];exact h3
theorem a57{s e:Nat}(hse:s*e=4294967296){u1 u0:Nat}(h0:u0<4294967296) :
  s*((u1*4294967296+u0)/s%4294967296)=u1%s*4294967296+s*(u0/s):=by
 have hs:0<s:=by
  rcases Nat.eq_zero_or_pos s with g|g
  ·subst g;simp at hse
  ·exact g
 have he:0<e:=by
  rcases Nat.eq_zero_or_pos e with g|g
  ·subst g;simp at hse
  ·exact g
 have e1:(u1*4294967296+u0)/s=u1*e+u0/s:=by
  rw[<- hse,show u1*(s*e)+u0=s*(u1*e)+u0 by grind,Nat.mul_add_div hs]
 have e2:u1*e=u1%s*e+4294967296*(u1/s):=by
  have:=Nat.div_add_mod u1 s;rw[<- hse];conv=>lhs;rw[<- this]
  grind
 have h3:u0/s<e:=by rw[Nat.div_lt_iff_lt_mul hs,Nat.mul_comm,hse];exact h0
 have h4:(u1%s+1)*e<=s*e:=Nat.mul_le_mul_right _ (Nat.mod_lt u1 hs);rw[hse,Nat.add_mul,Nat.one_mul] at h4;have e3:(u1*4294967296+u0)/s%4294967296=u1%s*e+u0/s:=by
  rw[e1,e2];rw[show u1%s*e+4294967296*(u1/s)+u0/s=(u1%s*e+u0/s)+4294967296*(u1/s) by omega,Nat.add_mul_mod_self_left,Nat.mod_eq_of_lt];generalize u0/s=g at *;omega
 rw[e3,<- hse];grind
def u5(s:Nat)(u o:List Nat):Prop:=ao o/\s*val o+val u%s=val (u.take o.length)+4294967296 ^ o.length*(u[o.length]?.getD 0%s)
theorem a59{s e:Nat}(hse:s*e=4294967296)(u:List Nat)(h0:0<u.length):u5 s u []:=by
 refine⟨ao.nil,?_⟩;cases u with|nil=>simp at h0|cons x r =>
  simp only[K5,List.length_nil,List.take_zero,List.getElem?_cons_zero,Option.getD_some,jL];rw[<- hse,Nat.mul_assoc,Nat.add_mul_mod_self_left];simp
theorem a6a{s e:Nat}(hse:s*e=4294967296){u o:List Nat}(h:u5 s u o){u0 u1:Nat}(h0:u[o.length]?.getD 0=u0)(h1:u[o.length+1]?.getD 0=u1)(hb:u0<4294967296) :
  u5 s u (o++[(u1*4294967296+u0)/s%4294967296]):=by
 obtain⟨d,h2⟩:=h;refine⟨d.append (ao.cons (Nat.mod_lt _ (by omega)) ao.nil),?_⟩;rw[List.length_append,List.length_singleton,tf,xe,h0,h1,Nat.pow_succ];rw[h0] at h2;have k:=a57 hse (u1:=u1) hb;generalize (u1*4294967296+u0)/s%4294967296=r at *;have e1:s*(val o+4294967296 ^ o.length*r)=s*val o+4294967296 ^ o.length*(s*r):=by grind
 rw[e1,k];have e2:u0=s*(u0/s)+u0%s:=(Nat.div_add_mod u0 s).symm;generalize 4294967296 ^ o.length=P at *;generalize u0/s=g at *;generalize u0%s=g2 at *;rw[e2];grind
theorem a58{s:Nat}{u o:List Nat}(h:u5 s u o){n R:Nat}(hs:0<s)(hl:o.length=n)(hu:val u<4294967296 ^ n)(hd:ao u)(hul:n<u.length)(hR:val u=s*R):val o=R:=by
 obtain⟨_,h2⟩:=h;rw[hl] at h2;have h3:=K7 u n (by omega);have h4:val (u.drop n)=0:=by
  rcases Nat.eq_zero_or_pos (val (u.drop n)) with g|g
  ·exact g
  ·have := Nat.mul_le_mul_left (4294967296 ^ n) g;omega
 have h5:u[n]?.getD 0=0:=by
  rw[List.drop_eq_getElem_cons hul,jL] at h4;rw[List.getElem?_eq_getElem hul,Option.getD_some];omega
 rw[h5,Nat.zero_mod,Nat.mul_zero,Nat.add_zero] at h2;rw[h4,Nat.mul_zero,Nat.add_zero] at h3;rw[<- h3,hR,Nat.mul_mod_right,Nat.add_zero] at h2;exact Nat.eq_of_mul_eq_mul_left hs h2
structure xB (A V k:Nat) (u qs:List Nat):Prop where
 du:ao u
 dq:ao qs
 eq:val u+4294967296 ^ k*(val qs*V)=A
 lt:val u<4294967296 ^ k*V
theorem PM{A V k n:Nat}{pre part post qs:List Nat}(hl:pre.length=k)(hp:part.length=n+1)(hV:V<4294967296 ^ n)(h:xB A V (k+1) (pre++(part++post)) qs) :
  val post=0/\val part<4294967296*V:=by
 have h1:=h.lt;have ek:(4294967296:Nat) ^ (k+1)=4294967296 ^ k*4294967296:=Nat.pow_succ _ _;rw[val_append,val_append,hl,hp,ek] at h1;have h2:val part+4294967296 ^ (n+1)*val post<4294967296*V:=by
  have:4294967296 ^ k*(val part+4294967296 ^ (n+1)*val post)<4294967296 ^ k*(4294967296*V):=by
   rw[<- Nat.mul_assoc];omega
  exact Nat.lt_of_mul_lt_mul_left this
 refine⟨?_,by omega⟩;rcases Nat.eq_zero_or_pos (val post) with g|g
 ·exact g
 ·have h3 : 4294967296 ^ (n + 1) * 1 <= 4294967296 ^ (n + 1) * val post := Nat.mul_le_mul_left _ g;rw[Nat.mul_one,Nat.pow_succ] at h3;rw[Nat.pow_succ] at h2;omega
theorem a0Z{A V k n:Nat}{pre part post qs part':List Nat}(hl:pre.length=k)(hp:part.length=n+1)(hp':part'.length=n+1)(hV:V<4294967296 ^ n)(hV0:0<V)(h:xB A V (k+1) (pre++(part++post)) qs)
  (d':ao part') (he:val part'=val part%V):xB A V k (pre++(part'++post)) (val part/V::qs):=by
 obtain⟨h1,h2⟩:=PM hl hp hV h;have dpre:ao pre:=λx hx=>h.du x (List.mem_append_left _ hx)
 have dpost:ao post:=λx hx=>h.du x (List.mem_append_right _ (List.mem_append_right _ hx))
 refine⟨dpre.append (d'.append dpost),ao.cons ((Nat.div_lt_iff_lt_mul hV0).2 h2) h.dq,?_,?_⟩
 ·have h3 := h.eq;rw[val_append,val_append,h1,hl,Nat.mul_zero,Nat.add_zero,Nat.pow_succ] at h3;rw[val_append,val_append,h1,hl,Nat.mul_zero,Nat.add_zero,he,jL,<- h3];have h4:=Nat.div_add_mod (val part) V;conv=>rhs;rw[<- h4]
  generalize val part%V=m;generalize val part/V=g;generalize 4294967296 ^ k=P;grind
 ·rw [val_append, val_append, h1, hl, Nat.mul_zero, Nat.add_zero, he];have h3:=ip dpre;rw[hl] at h3;have h4:=Nat.mul_le_mul_left (4294967296 ^ k) (Nat.succ_le_of_lt (Nat.mod_lt (val part) hV0));have e:4294967296 ^ k*(val part%V).succ=4294967296 ^ k*(val part%V)+4294967296 ^ k:=by rw[Nat.succ_eq_add_one];grind
  omega
theorem a0Y{A V:Nat}{u qs:List Nat}(hV0:0<V)(h:xB A V 0 u qs):val qs=A/V/\val u=A%V:=by
 have h1:=h.eq;have h2:=h.lt;rw[Nat.pow_zero,Nat.one_mul] at h1 h2;refine Rn hV0 h1.symm ?_;rw[<- Nat.lt_succ_iff,Nat.div_lt_iff_lt_mul hV0,<- h1,Nat.succ_eq_add_one];have:(val qs+1)*V=val qs*V+V:=by grind
 omega
set_option maxHeartbeats 2000000
set_option maxRecDepth 100000
section
theorem CO(d:List Nat)(p:Option Addr)(l c:Nat)(w:World)(h:Row w p c d)(hl:l=d.length) :
  Calls Tryz.prog 259 #[.slice p l c] w (Vk w p c (kj d)):=by
 subst hl;have hle:=h.le;have hm:=h.max;go_enter Tryz.func259,Tryz.ntmps259;go_wp2;go_loop [0] (λn=>∃k:Nat,k<=d.length/\n=.slice p k c/\val (d.take k)=val d) (λn=>match n with | .slice _ k _=>k|_=>0)
 case atStart=>exact⟨d.length,Nat.le_refl _,rfl,by rw[List.take_of_length_le (Nat.le_refl _)]⟩
 case round =>
  obtain⟨k,hk,rfl,hv⟩:=hrel;have V:=Lib.hid hv;clear hv;cases k with|zero =>
   have T:=Lib.hid (Eq h.dig hk V.out (by omega));go_wp2;go_ret;rw[T.out];exact⟨by simp,h.take 0 (by omega),ag⟩|succ j =>
   obtain⟨b,o,rfl,hb,hc⟩:=h.at (by omega);have hc1:=hc j (by omega);obtain⟨x,X⟩:∃x,Hid (d[j]?.getD 0=x):=⟨_,rfl⟩;rw[X.out] at hc1;by_cases hx:x=0
   ·have hx1 : ((x : Int) == 0) = true := by simp [hx]
    have V2:=Lib.hid (UF (by omega) (X.out.trans hx));clear hx hc;go_wp2;exact⟨⟨j,by omega,rfl,V2.out.symm.trans V.out⟩,by simp⟩
   ·have hx1 : ((x : Int) == 0) = false := by rw [beq_eq_false_iff_ne]; omega
    have T:=Lib.hid (Eq h.dig hk V.out (by rw[Nat.add_sub_cancel,X.out];omega));clear hx hc;go_wp2;go_ret;rw[T.out];exact⟨by simp;omega,h.take _ (by omega),ag⟩
theorem a2Q(s x:Nat)(hx:x<4294967296):s*4294967296 ||| x=s*4294967296+x:=by
 have:=Nat.two_pow_add_eq_or_of_lt (i:=32) (b:=x) hx s;rw[show (2:Nat) ^ 32=4294967296 from rfl] at this;rw[Nat.mul_comm,<- this]
theorem zg(s x:Nat)(hs:s<4294967296)(hx:x<4294967296):bits .or .u64 ((s:Int)*4294967296) (x:Int)=((s*4294967296+x:Nat):Int):=by
 have:=u64_or_nat (s*4294967296) x (by omega) (by omega);rw[a2Q s x hx] at this;rw[<- this];simp
theorem KA(a b:Nat):((a:Nat):Int).tdiv (b:Int)=((a/b:Nat):Int):=by rw[Int.tdiv_eq_ediv_of_nonneg (by omega)];rfl
theorem KI(a b:Nat):((a:Nat):Int).tmod (b:Int)=((a%b:Nat):Int):=by rw[Int.tmod_eq_emod_of_nonneg (by omega)];rfl
theorem Om(k:Nat)(o:List Nat)(x:Nat):(enc (List.replicate (k+1) 0++o)).set k (.int .u32 (x:Int))=enc (List.replicate k 0++x::o):=by
 have h:=GZ (List.replicate k 0) o x;rw[List.length_replicate] at h;rw[List.replicate_succ',List.append_assoc,List.singleton_append,h,List.append_assoc,List.singleton_append]
theorem Oo(k:Nat)(o:List Nat):(enc (List.replicate (k+1) 0++o))[k]? = some (.int .u32 0):=by
 rw[rO _ _ (by simp;omega)];rw[List.getElem?_append_left (by simp),List.getElem?_replicate];simp
def E7(a:List Nat)(b:Nat)(k:Nat)(o:List Nat)(s:Nat):Prop:=ao o/\o.length+k=a.length/\s<b/\val (a.drop k)=val o*b+s
theorem a55{a:List Nat}{b k:Nat}{o:List Nat}{s:Nat}(ha:ao a)(hb:b<4294967296)(hk:k<a.length)(h:E7 a b (k+1) o s) :
  E7 a b k ((s*4294967296+a[k]?.getD 0)/b::o) ((s*4294967296+a[k]?.getD 0)%b)/\(s*4294967296+a[k]?.getD 0)/b<4294967296:=by
 obtain⟨h1,h2,h3,h4⟩:=h;have hx:=ha.getD k;rw[List.getD_eq_getElem?_getD] at hx;rw[kS hk] at hx ⊢;obtain⟨x,X⟩:∃x,a[k]=x:=⟨_,rfl⟩;rw[X] at hx ⊢;have hq:(s*4294967296+x)/b<4294967296:=by
  rw[Nat.div_lt_iff_lt_mul (by omega)];have:(s+1)*4294967296<=b*4294967296:=Nat.mul_le_mul_right _ h3;rw[Nat.mul_comm b] at this;omega
 refine⟨⟨ao.cons hq h1,by simp;omega,Nat.mod_lt _ (by omega),?_⟩,hq⟩;rw[List.drop_eq_getElem_cons hk,jL,jL,h4,X];have e:=Nat.div_add_mod (s*4294967296+x) b;generalize (s*4294967296+x)/b=q at *;generalize (s*4294967296+x)%b=r at *;rw[Nat.add_mul,Nat.mul_add,Nat.mul_assoc];rw[Nat.mul_comm b q] at e;omega
def Vn(w:World)(q:List Nat)(r:Nat)(e:Ending)(w':World):Prop :=
 ∃p c,e=.returned (.tuple #[.slice p q.length c,.int .u32 (r:Int)])/\Row w' p c q/\New w p/\ac w w'
theorem a19(a:List Nat)(pa:Option Addr)(la ca b:Nat)(w:World)(ha:Row w pa ca a)(hla:la=a.length)(hb0:0<b)(hb:b<4294967296)(h64:a.length<=1000) :
  Calls Tryz.prog 258 #[.slice pa la ca,.int .u32 (b:Int)] w (Vn w (cJ (val a/b)) (val a%b)):=by
 subst hla;obtain⟨i,hi,hz0,hz1,hz2⟩:=info_parts rY;have hla:=ha.le;have hma:=ha.max;have hb1:((b:Int)==0)=false:=by rw[beq_eq_false_iff_ne];omega
 go_enter Tryz.func258,Tryz.ntmps258;go_wp2_with (at_make;refine wpList_make_full _ rfl _ _ 81 rfl w.heap.size 186 i (.int .u32 0) 1 Tryz.underlying81 hi hz0 hz1 _ _ _ _ a.length rfl rfl (by omega) (by omega) (by rw[hz2];omega) (by unfold maxLen;omega) (Nat.le_refl _) ?_);all_goals
  intro w1 hown hgr;rw[show (madeCells #[Value.int IntKind.u32 0] a.length).toList=enc (List.replicate a.length 0++[]) from by rw[enc,List.append_nil,List.map_replicate];exact toList_madeCells_one _ _] at hown;have hx0:ac w w1:=⟨hgr.os,hgr.tape,hgr.output,hgr.size,λk hk=>hgr.block k hk (by simp)⟩;clear hgr;go_wp2_with fail;go_loopw [7,8] (λrs i wr=>∃(k s:Nat) (o:List Nat),E7 a b k o s/\i=.int .i64 ((k:Int)-1)/\rs=.int .u64 (s:Int)/\wr.ownsRow w.heap.size 186 1 (.slice (some ⟨w.heap.size,0,none⟩) a.length a.length) a.length (enc (List.replicate k 0++o))/\ac w wr) (λ_ i _=>(intOf i+1).toNat)
  case atStart=>exact⟨a.length,0,[],⟨ao.nil,by simp,hb0,by rw[List.drop_eq_nil_of_le (Nat.le_refl _)];simp[val]⟩,rfl,rfl,hown,hx0⟩
  case round =>
   clear hown hx0;obtain⟨k,s,o,hinv,rfl,rfl,hown,hx⟩:=hrel;have INV:=Lib.hid hinv;have hk:=hinv.2.1;have hs:=hinv.2.2.1;clear hinv;cases k with
   | zero =>
    have e:(((0:Nat):Int)-1) = -1:=by omega
    rw[e];clear e;have hv:val o*b+s=val a:=by
     have:=INV.out.2.2.2;rw[List.drop_zero] at this;exact this.symm
    have hq:val o=val a/b:=by
     rw[<- hv,Nat.mul_comm,Nat.mul_add_div hb0,Nat.div_eq_of_lt hs,Nat.add_zero]
    have hr:s=val a%b:=by
     rw[<- hv,Nat.mul_comm,Nat.mul_add_mod,Nat.mod_eq_of_lt hs]
    rw[List.replicate_zero,List.nil_append] at hown;have hol:o.length=a.length:=by have:=INV.out.2.1;omega
    obtain⟨p,c,hv2,hrow,_⟩:=sU hown INV.out.1;injection hv2 with e1 e2 e3
    subst e1;rw[<- e3] at hrow;have WS:(s:Int)%4294967296=(s:Int):=Int.emod_eq_of_lt (by omega) (by omega);have HOL:=Lib.hid hol.symm;have HQ:=Lib.hid hq;have HR:=Lib.hid hr;clear INV hown e2 e3 hol hv hq hr;go_wp2_with fail;refine (CO o _ _ _ _ hrow HOL.out).mono ?_;rintro e w2 ⟨rfl,hr2,hx2⟩;have hx3:ac w w2:=ac.step hx hx2;go_wp2;go_ret2;refine⟨some ⟨w.heap.size,0,none⟩,a.length,?_,?_,by intro x hx;cases hx;exact Nat.le_refl _,hx3⟩
    ·rw [<- HQ.out, HR.out.symm];rfl
    ·rw [<- HQ.out];exact hr2
   | succ j =>
    have e:(((j+1:Nat):Int)-1)=(j:Int):=by omega
    rw[e];clear e;obtain⟨STEP,hq⟩:=a55 ha.dig hb (by omega) INV.out;obtain⟨ba,oa,rfl,hba,hca⟩:=ha.at (by omega);have ca1:wr.cell? ⟨ba,oa+j,none⟩=some (.int .u32 ((a[j]?.getD 0:Nat):Int)):=(hx.cell (p:=⟨ba,oa+j,none⟩) hba).trans (hca j (by omega));have hxd:=ha.dig.getD j;rw[List.getD_eq_getElem?_getD] at hxd;obtain⟨x,X⟩:∃x,Hid (a[j]?.getD 0=x):=⟨_,rfl⟩;rw[X.out] at ca1 STEP hq hxd;clear hca INV;have OR:=zg s x (by omega) hxd;obtain⟨m,M⟩:∃m,Hid (s*4294967296+x=m):=⟨_,rfl⟩;rw[M.out] at OR STEP hq;have DV:=KA m b;have MD:=KI m b;obtain⟨q,Q⟩:∃q,Hid (m/b=q):=⟨_,rfl⟩
    obtain⟨r,R⟩:∃r,Hid (m%b=r):=⟨_,rfl⟩;rw[Q.out,R.out] at STEP;rw[Q.out] at DV hq;rw[R.out] at MD;have WQ:(q:Int)%4294967296=(q:Int):=Int.emod_eq_of_lt (by omega) (by omega);have hjn:j<a.length:=by omega
    have hcw:wr.cell? ⟨w.heap.size,j,none⟩=some (.int .u32 0):=by
     rw[hown.cellAt j (by omega)];exact Oo j o
    have hfw:=hown.frozenAt j;obtain⟨hown3,hg3⟩:=hown.stored j (.int .u32 (q:Int));rw[Om] at hown3;have OWN:=Lib.hid hown3;have hx3:ac w (wr.setCell ⟨w.heap.size,j,none⟩ (.int .u32 (q:Int))):=Below.setCell hx (Nat.le_refl _) _;have X3:=Lib.hid hx3;have SS:=Lib.hid STEP;clear hown hown3 hg3 hx3 STEP;go_wp2;exact⟨⟨j,r,q::o,SS.out,rfl,rfl,OWN.out,X3.out⟩,by simp[intOf]⟩
end
set_option maxHeartbeats 2000000
set_option maxRecDepth 100000
section
theorem or_mul(s x c:Nat)(i:Nat)(hs:s=2 ^ i)(hc:c<s):s*x ||| c=s*x+c:=by
 subst hs;exact (Nat.two_pow_add_eq_or_of_lt hc x).symm
theorem GY(o z:List Nat)(x y:Nat):(enc (o++y::z)).set o.length (.int .u32 (x:Int))=enc (o++[x]++z):=by
 simp[enc]
theorem QA(a:List Nat)(pa:Option Addr)(la ca i:Nat)(w:World)(ha:Row w pa ca a)(hla:la=a.length)(hi:i<32)(h64:a.length<=1000) :
  Calls Tryz.prog 261 #[.slice pa la ca,.int .i64 (i:Int)] w λe w'=>∃o,o.length=a.length+1/\ao o/\val o=2 ^ i*val a/\e=.returned (.slice (some ⟨w.heap.size,0,none⟩) (a.length+1) (a.length+1)) /\
   w'.ownsRow w.heap.size 186 1 (.slice (some ⟨w.heap.size,0,none⟩) (a.length+1) (a.length+1)) (a.length+1) (enc o)/\ac w w':=by
 subst hla;obtain⟨ii,hii,hz0,hz1,hz2⟩:=info_parts rY;have hla:=ha.le;have hma:=ha.max;have hse:2 ^ i*2 ^ (32-i)=4294967296:=by rw[<- Nat.pow_add,show i+(32-i)=32 by omega]
 obtain⟨n1,N1⟩:∃n1,n1=a.length+1:=⟨_,rfl⟩;have eN:(a.length:Int)+1=(n1:Int):=by omega
 rw[<- N1];have HN1:=Lib.hid N1;have hn1:n1<=1001:=by omega
 have hn2:a.length<n1:=by omega
 have hn3:n1<=a.length+1:=by omega
 clear N1;go_enter Tryz.func261,Tryz.ntmps261;go_wp2_with (at_make;refine wpList_make_full _ rfl _ _ 81 rfl w.heap.size 186 ii (.int .u32 0) 1 Tryz.underlying81 hii hz0 hz1 _ _ _ _ n1 rfl rfl (by omega) (by omega) (by rw[hz2];omega) (by unfold maxLen;omega) (Nat.le_refl _) ?_);all_goals
  intro w1 hown hgr;rw[show (madeCells #[Value.int IntKind.u32 0] n1).toList=enc ([]++List.replicate n1 0) from by rw[enc,List.nil_append,List.map_replicate];exact toList_madeCells_one _ _] at hown;have hx0:ac w w1:=⟨hgr.os,hgr.tape,hgr.output,hgr.size,λk hk=>hgr.block k hk (by simp)⟩;clear hgr;go_wp2_with fail
  go_loopw [6,15] (λcr k wr=>∃(o:List Nat) (c:Nat),o.length<=a.length/\k=.int .i64 (o.length:Int)/\cr=.int .u32 (c:Int)/\AD (2 ^ i) a o c/\wr.ownsRow w.heap.size 186 1 (.slice (some ⟨w.heap.size,0,none⟩) n1 n1) n1 (enc (o++List.replicate (n1-o.length) 0))/\ac w wr) (λ_ k _=>a.length-(intOf k).toNat)
  case atStart=>exact⟨[],0,Nat.zero_le _,rfl,rfl,⟨ao.nil,Nat.pow_pos (by omega),by simp[val]⟩,hown,hx0⟩
  case round =>
   clear hown hx0;obtain⟨o,c,ho,rfl,rfl,hinv,hown,hx⟩:=hrel;by_cases hlt:o.length<a.length
   ·obtain ⟨ba, oa, rfl, hba, hca⟩ := (ha.ext hx).at (by omega);have hc1:=hca o.length hlt;have hxd:=ha.dig.getD o.length;rw[List.getD_eq_getElem?_getD] at hxd;have STEP:=a5W hse hinv (d:=a[o.length]?.getD 0) rfl hxd;obtain⟨x,X⟩:∃x,Hid (a[o.length]?.getD 0=x):=⟨_,rfl⟩;rw[X.out] at hc1 hxd STEP;have hcd:=hinv.2.1;clear hca;have hcw:wr.cell? ⟨w.heap.size,o.length,none⟩=some (.int .u32 0):=by
     rw[hown.cellAt o.length (by omega)];rw[rO _ _ (by simp;omega)];rw[List.getElem?_append_right (by omega),Nat.sub_self,List.getElem?_replicate,if_pos (by omega)];rfl
    have hfw:=hown.frozenAt o.length;have OR:bits .or .u32 ((x:Int)*2 ^ i%4294967296) (c:Int)=((x%2 ^ (32-i)*2 ^ i+c:Nat):Int):=by
     have e1:(x:Int)*2 ^ i%4294967296=((x%2 ^ (32-i)*2 ^ i:Nat):Int):=by
      have h2:x*2 ^ i%4294967296=x%2 ^ (32-i)*2 ^ i:=by
       rw[<- hse,Nat.mul_comm x,Nat.mul_mod_mul_left,Nat.mul_comm]
      have hp:(2:Int) ^ i=((2 ^ i:Nat):Int):=(Int.natCast_pow 2 i).symm;rw[<- h2,hp,<- Int.natCast_mul];generalize x*2 ^ i=t;omega
     rw[e1,u32_or_nat _ _ (by omega) (by omega),Nat.mul_comm (x%2 ^ (32-i)),or_mul _ _ _ _ rfl hcd]
    have DV:(x:Int)/2 ^ (32-i)%4294967296=((x/2 ^ (32-i):Nat):Int):=by
     have h2:x/2 ^ (32-i)<4294967296:=Nat.lt_of_le_of_lt (Nat.div_le_self _ _) hxd;have hp:(2:Int) ^ (32-i)=((2 ^ (32-i):Nat):Int):=(Int.natCast_pow 2 (32-i)).symm;have e3:(x:Int)/2 ^ (32-i)=((x/2 ^ (32-i):Nat):Int):=by rw[hp];rfl
     rw[e3];generalize x/2 ^ (32-i)=t at *;omega
    obtain⟨S1,S2⟩:=STEP;obtain⟨hown3,hg3⟩:=hown.stored o.length (.int .u32 ((x%2 ^ (32-i)*2 ^ i+c:Nat):Int));rw[DY _ (show 0<n1-o.length by omega),GY,List.append_assoc] at hown3;obtain⟨y,Y⟩:∃y,Hid (x%2 ^ (32-i)*2 ^ i+c=y):=⟨_,rfl⟩;obtain⟨c',C'⟩:∃c',Hid (x/2 ^ (32-i)=c'):=⟨_,rfl⟩;rw[Y.out] at OR S1 S2 hown3;rw[C'.out] at DV S1;have OWN:=Lib.hid hown3;have INV:=Lib.hid S1;have hx3:ac w (wr.setCell ⟨w.heap.size,o.length,none⟩ (.int .u32 (y:Int))):=Below.setCell hx (Nat.le_refl _) _;have X3:=Lib.hid hx3;clear hown hown3 hg3 hx3 S1 hinv hx;go_wp2
    refine⟨⟨o++[y],c',by simp;omega,by simp,by rw[DV],INV.out,?_,X3.out⟩,by simp[intOf];omega⟩;rw[List.length_append,List.length_singleton,List.append_assoc,Nat.sub_add_eq];exact OWN.out
   ·have hol : o.length = a.length := by omega
    have hn4:n1-o.length=1:=by have:=HN1.out;omega
    have END:=Lib.hid (a5U hinv hol);have hcd:=hinv.2.1;have hp:2 ^ i<=2147483648:=by
     have:2 ^ i<=2 ^ 31:=Nat.pow_le_pow_right (by omega) (by omega);omega
    rw[hn4] at hown;have hcw:wr.cell? ⟨w.heap.size,a.length,none⟩=some (.int .u32 0):=by
     rw[hown.cellAt a.length (by omega)];rw[rO _ _ (by simp;omega)];rw[List.getElem?_append_right (by omega),hol,Nat.sub_self];rfl
    have hfw:=hown.frozenAt a.length;obtain⟨hown3,hg3⟩:=hown.stored a.length (.int .u32 (c:Int));rw[<- hol,show o++List.replicate 1 0=o++0::[] from rfl,GY,List.append_nil,hol] at hown3;have OWN:=Lib.hid hown3;have hx3:ac w (wr.setCell ⟨w.heap.size,a.length,none⟩ (.int .u32 (c:Int))):=Below.setCell hx (Nat.le_refl _) _;have X3:=Lib.hid hx3;have DO:=Lib.hid hinv.1;clear hown hown3 hg3 hx3 hinv hx;rw[hol];go_wp2;go_ret;exact⟨o++[c],by rw[List.length_append,List.length_singleton,hol];exact HN1.out.symm,DO.out.append (ao.cons (by omega) ao.nil),END.out,rfl,OWN.out,X3.out⟩
end
set_option maxHeartbeats 4000000
set_option maxRecDepth 100000
section
theorem yF(d:List Nat)(n:Nat):val (d.take (n+1))=val (d.take n)+4294967296 ^ n*(d[n]?.getD 0):=xe d n
theorem a0d{u v:List Nat}{m:Nat}(hu:u.length=m+3)(hv:v.length=m+2)(du:ao u)(dv:ao v) :
  val u=val (u.take m)+4294967296 ^ m*(u[m]?.getD 0+4294967296*(u[m+1]?.getD 0+4294967296*(u[m+2]?.getD 0)))/\val (u.take m)<4294967296 ^ m /\
  val v=val (v.take m)+4294967296 ^ m*(v[m]?.getD 0+4294967296*(v[m+1]?.getD 0))/\val (v.take m)<4294967296 ^ m:=by
 have h1:=ip (du.take m)
 have h2:=ip (dv.take m)
 rw[List.length_take,Nat.min_eq_left (by omega)] at h1 h2
 refine⟨?_,h1,?_,h2⟩
 ·have e0 := yF u m
  have e1:=yF u (m+1)
  have e2:=yF u (m+2)
  have ep:(4294967296:Nat) ^ (m+1)=4294967296 ^ m*4294967296:=Nat.pow_succ _ _
  have ep2:(4294967296:Nat) ^ (m+2)=4294967296 ^ m*4294967296*4294967296:=by rw[Nat.pow_succ,ep]
  rw[List.take_of_length_le (by omega),e1,e0,ep,ep2] at e2
  rw[e2]
  generalize 4294967296 ^ m=P
  grind
 ·have e0 := yF v m
  have e1:=yF v (m+1)
  have ep:(4294967296:Nat) ^ (m+1)=4294967296 ^ m*4294967296:=Nat.pow_succ _ _
  rw[List.take_of_length_le (by omega),e0,ep] at e1
  rw[e1]
  generalize 4294967296 ^ m=P
  grind
theorem a16(u v:List Nat)(pu pv:Option Addr)(cu cv m:Nat)(w:World)(hu:Row w pu cu u)(hv:Row w pv cv v)(hul:u.length=m+3)(hvl:v.length=m+2)(hm:m<=1000)
  (ht:0<v[m+1]?.getD 0) (hlt:val u<4294967296*val v) :
  Calls Tryz.prog 263 #[.slice pu (m+3) cu,.slice pv (m+2) cv] w λe w'=>∃q:Nat,e=.returned (.int .u64 (q:Int))/\q<4294967296/\val u/val v<=q/\q<=val u/val v+1/\ac w w':=by
 obtain⟨eU,hw0,eV,hv0⟩:=a0d hul hvl hu.dig hv.dig;have lu0:=hu.le;have lu1:=hu.max;have lv0:=hv.le;have lv1:=hv.max;obtain⟨bu,ou,rfl,hbu,hcu⟩:=hu.at (by omega);obtain⟨bv,ov,rfl,hbv,hcv⟩:=hv.at (by omega);have c0:=hcu m (by omega);have c1:=hcu (m+1) (by omega);have c2:=hcu (m+2) (by omega);have k0:=hcv m (by omega);have k1:=hcv (m+1) (by omega);have d0:=hu.dig.getD m;have d1:=hu.dig.getD (m+1);have d2:=hu.dig.getD (m+2);have f0:=hv.dig.getD m;have f1:=hv.dig.getD (m+1);rw[List.getD_eq_getElem?_getD] at d0 d1 d2 f0 f1;obtain⟨u2,U2⟩:∃x,Hid (u[m]?.getD 0=x):=⟨_,rfl⟩
 obtain⟨u1,U1⟩:∃x,Hid (u[m+1]?.getD 0=x):=⟨_,rfl⟩;obtain⟨ut,UT⟩:∃x,Hid (u[m+2]?.getD 0=x):=⟨_,rfl⟩;obtain⟨v2,V2⟩:∃x,Hid (v[m]?.getD 0=x):=⟨_,rfl⟩;obtain⟨v1,V1⟩:∃x,Hid (v[m+1]?.getD 0=x):=⟨_,rfl⟩;rw[U2.out] at c0 d0 eU;rw[U1.out] at c1 d1 eU;rw[UT.out] at c2 d2 eU;rw[V2.out] at k0 f0 eV;rw[V1.out] at k1 f1 eV ht;obtain⟨U,HU⟩:∃x,Hid (val u=x):=⟨_,rfl⟩;obtain⟨V,HV⟩:∃x,Hid (val v=x):=⟨_,rfl⟩;obtain⟨w0,W0⟩:∃x,Hid (val (u.take m)=x):=⟨_,rfl⟩;obtain⟨v0,V0⟩:∃x,Hid (val (v.take m)=x):=⟨_,rfl⟩;obtain⟨P,HP⟩:∃x:Nat,Hid ((4294967296:Nat) ^ m=x):=⟨_,rfl⟩;rw[HU.out,W0.out,HP.out] at eU
 rw[HV.out,V0.out,HP.out] at eV;rw[HU.out,HV.out] at hlt ⊢;rw[W0.out,HP.out] at hw0;rw[V0.out,HP.out] at hv0;have DEC:=Lib.hid (λq r (hq:q*v1+r=u1+4294967296*ut) (hle:U/V<=q) h=>a0b (r:=r) hw0 eU eV hlt hq hle h);have END:=Lib.hid (λq r (hq:q*v1+r=u1+4294967296*ut) h=>a0c (r:=r) hv0 ht f0 hw0 d1 eU eV hlt hq h);have hP:0<P:=by omega
 have START:Hid (U/V<=(u1+4294967296*ut)/v1):=by
  refine a0e (w:=w0+P*u2) (P:=P*4294967296) (vr:=v0+P*v2) ?_ ?_ ?_ ht
  ·have h9 : P * (u2 + 1) <= P * 4294967296 := Nat.mul_le_mul_left P d0;have e9:P*(u2+1)=P*u2+P:=by grind
   omega
  ·rw[eU];grind
  ·rw[eV];grind
 have hv1:((v1:Int)==0)=false:=by rw[beq_eq_false_iff_ne];omega
 have OH:=zg ut u1 d2 d1;obtain⟨high,HH⟩:∃x,Hid (u1+4294967296*ut=x):=⟨_,rfl⟩;rw[show ut*4294967296+u1=u1+4294967296*ut by omega,HH.out] at OH;rw[HH.out] at START DEC END;have hhigh:high<18446744073709551616:=by have:=HH.out;omega
 have DQ:=KA high v1;have DR:=KI high v1;have hr0:high%v1<v1:=Nat.mod_lt _ ht;have hq0:high/v1<=high:=Nat.div_le_self _ _;have hqr:high/v1*v1+high%v1=high:=by rw[Nat.mul_comm];exact Nat.div_add_mod _ _
 obtain⟨q0,Q0⟩:∃x,Hid (high/v1=x):=⟨_,rfl⟩;obtain⟨r0,R0⟩:∃x,Hid (high%v1=x):=⟨_,rfl⟩;rw[Q0.out] at DQ hq0 hqr START;rw[R0.out] at DR hr0 hqr;have QR:=Lib.hid hqr;clear hqr hcu hcv hlt eU eV hw0 hv0 hP hu hv hul hvl;go_enter Tryz.func263,Tryz.ntmps263;go_upto_region 2 with (fail)
 go_quiet (fail);go_upto_region 3 with (fail)
 go_quiet (fail);go_wp2_with fail;go_loopw [7,8] (λqs rs wr=>∃(q r:Nat),qs=.int .u64 (q:Int)/\rs=.int .u64 (r:Int)/\q*v1+r=high/\U/V<=q/\q<=q0/\r<8589934592/\ac w wr) (λqs _ _=>(intOf qs).toNat)
 case atStart=>exact⟨q0,r0,rfl,rfl,QR.out,START.out,Nat.le_refl _,by omega,ag⟩
 case round =>
  obtain⟨q,r,rfl,rfl,hqr,hle,hq,hr,hx⟩:=hrel;have kc0:=(hx.cell (p:=⟨bu,ou+m,none⟩) hbu).trans c0;have kk0:=(hx.cell (p:=⟨bv,ov+m,none⟩) hbv).trans k0;have kk1:=(hx.cell (p:=⟨bv,ov+(m+1),none⟩) hbv).trans k1;have QR2:=Lib.hid hqr;have LE:=Lib.hid hle;have HX:=Lib.hid hx;clear hqr hle hx c0 c1 c2 k0 k1;by_cases h1:4294967296<=r
  ·have E1 : ((r : Int) / 4294967296 == 0) = false := by rw [beq_eq_false_iff_ne]; omega
   obtain⟨z1,z2⟩:=END.out q r QR2.out (.inl h1);go_upto_region 4 with (fail)
   go_quiet (fail);go_wp2;go_ret;exact⟨q,rfl,z1,LE.out,z2,by have:=HX.out;exact ag⟩
  ·have h1' : r < 4294967296 := by omega
   have E1:((r:Int)/4294967296==0)=true:=by rw[beq_iff_eq];omega
   have OR:=zg r u2 h1' d0;obtain⟨s,HS⟩:∃x,Hid (r*4294967296+u2=x):=⟨_,rfl⟩;rw[HS.out] at OR;have hv1b:r+v1<8589934592:=by omega
   have hqb:q<18446744073709551616:=by omega
   by_cases h2:4294967296<=q
   ·have E2 : decide (0 < (q : Int) / 4294967296) = true := by rw [decide_eq_true_eq]; omega
    have hq1:1<=q:=by omega
    obtain⟨z1,z2⟩:=DEC.out q r QR2.out LE.out (.inl h2);have NX:=Lib.hid (show (q-1)*v1+(r+v1)=high by
     obtain⟨p,rfl⟩:∃p,q=p+1:=⟨q-1,by omega⟩;have:=QR2.out;rw[Nat.add_sub_cancel];have e:(p+1)*v1=p*v1+v1:=by grind
     omega)
    have LE2:=Lib.hid z2;clear z2;go_upto_region 4 with (fail)
    go_quiet (fail);go_wp2;refine⟨⟨q-1,r+v1,by rw[Int.natCast_sub hq1];rfl,by push_cast;rfl,NX.out,LE2.out,by omega,hv1b,by have:=HX.out;exact ag⟩,by simp[intOf];omega⟩
   ·have E2 : decide (0 < (q : Int) / 4294967296) = false := by rw [decide_eq_false_iff_not]; omega
    have hqv:q*v2<=4294967295*4294967295:=Nat.mul_le_mul (by omega) (by omega);have QV:(q:Int)*(v2:Int)=((q*v2:Nat):Int):=by push_cast;rfl
    have hsb:s<18446744073709551616:=by have:=HS.out;omega
    by_cases h3:r*4294967296+u2<q*v2
    ·obtain ⟨z1, z2⟩ := DEC.out q r QR2.out LE.out (.inr h3);rw[HS.out] at h3;obtain⟨tt,HT⟩:∃x,Hid (q*v2=x):=⟨_,rfl⟩;rw[HT.out] at h3 QV hqv;have E3:decide ((s:Int)<(tt:Int))=true:=by rw[decide_eq_true_eq];omega
     have hq1:=z1;have NX:=Lib.hid (show (q-1)*v1+(r+v1)=high by
      obtain⟨p,rfl⟩:∃p,q=p+1:=⟨q-1,by omega⟩;have:=QR2.out;rw[Nat.add_sub_cancel];have e:(p+1)*v1=p*v1+v1:=by grind
      omega)
     have LE2:=Lib.hid z2;clear z2;go_upto_region 4 with (fail)
     go_quiet (fail);go_wp2;refine⟨⟨q-1,r+v1,by rw[Int.natCast_sub hq1];rfl,by push_cast;rfl,NX.out,LE2.out,by omega,hv1b,by have:=HX.out;exact ag⟩,by simp[intOf];omega⟩
    ·obtain ⟨z1, z2⟩ := END.out q r QR2.out (.inr ⟨by omega, by omega⟩);rw[HS.out] at h3;obtain⟨tt,HT⟩:∃x,Hid (q*v2=x):=⟨_,rfl⟩;rw[HT.out] at h3 QV hqv;have E3:decide ((s:Int)<(tt:Int))=false:=by rw[decide_eq_false_iff_not];omega
     go_upto_region 4 with (fail)
     go_quiet (fail);go_wp2;go_ret;exact⟨q,rfl,z1,LE.out,z2,by have:=HX.out;exact ag⟩
end
end Go.Proofs.YtghemgdfmldoeaaGreat
