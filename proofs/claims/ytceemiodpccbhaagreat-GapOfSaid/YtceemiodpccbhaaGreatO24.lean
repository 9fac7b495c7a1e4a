import Derived.Test.YtceemiodpccbhaaGreatO23
set_option linter.unusedVariables false
set_option linter.unusedSimpArgs false

namespace Go.Proofs.YtceemiodpccbhaaGreat
open Go.RowKit
theorem sgn_mul{g:Int}(h:0<g)(a:Int):sgn (g*a)=sgn a:=by
 rcases sgn_cases a with⟨h1,h2⟩|⟨h1,h2⟩|⟨h1,h2⟩
 ·have := Int.mul_pos h h2
  rcases sgn_cases (g*a) with⟨h3,h4⟩|⟨h3,h4⟩|⟨h3,h4⟩<;>omega
 ·rw[h2,Int.mul_zero]
 ·have := Int.mul_neg_of_pos_of_neg h h2
  rcases sgn_cases (g*a) with⟨h3,h4⟩|⟨h3,h4⟩|⟨h3,h4⟩<;>omega
theorem cmpZ_sub(a b:Int):cmpZ a b=sgn (a-b):=by
 rcases cmpZ_case a b with⟨h1,h2⟩|⟨h1,h2⟩|⟨h1,h2⟩<;>rcases sgn_cases (a-b) with⟨h3,h4⟩|⟨h3,h4⟩|⟨h3,h4⟩<;>omega
theorem cmpZ_mul{g:Int}(h:0<g)(a b:Int):cmpZ (g*a) (g*b)=cmpZ a b:=by
 rw[cmpZ_sub,cmpZ_sub,<- Int.mul_sub,sgn_mul h]
theorem sideZ_scale{g:Int}(h:0<g)(a b c:Int):sideZ (g*a) b (g*g*c)=sideZ a b c:=by
 have h2:=Int.mul_pos h h
 unfold sideZ
 rw[sgn_mul h,sgn_mul h2]
 have e1:g*a*(g*a)=g*g*(a*a):=by grind
 have e2:b*b*(g*g*c)=g*g*(b*b*c):=by grind
 rw[e1,e2,cmpZ_mul h2]
theorem sideZ_bd(a b c:Int) : -1<=sideZ a b c/\sideZ a b c<=1:=by
 unfold sideZ
 split
 ·omega
 ·rcases sgn_cases a with⟨h1,h2⟩|⟨h1,h2⟩|⟨h1,h2⟩<;>rcases cmpZ_case (a*a) (b*b*c) with⟨h3,h4⟩|⟨h3,h4⟩|⟨h3,h4⟩<;>rw[h1,h3]<;>decide
theorem cmpR_whole(A s n d:Int):cmpR A s n d 0 0 1=sideZ (A*d) s (n*d):=by
 have:=sideZ_bd (A*d) s (n*d)
 unfold cmpR
 split
 ·omega
 ·rename_i h
  have:sideZ (A*d) s (n*d)=0:=by omega
  rw[this,Int.zero_mul]
theorem side_whole{f d n:Int}(hf:0<=f)(hd:0<d)(hn:0<=n):sideZ (-f*d) 1 (n*d)=sgn (n-d*f*f):=by
 have s1:sgn 1=1:=rfl
 unfold sideZ
 rw[s1,Int.one_mul,Int.mul_comm n d,sgn_mul hd,Int.mul_comm (-f) d,sgn_mul hd]
 rcases sgn_cases n with⟨h1,h2⟩|⟨h1,h2⟩|⟨h1,h2⟩
 ·rcases sgn_cases (-f) with ⟨h3, h4⟩ | ⟨h3, h4⟩ | ⟨h3, h4⟩
  ·omega
  ·obtain rfl : f = 0 := by omega
   rw[h1,h3,if_pos (by decide),Int.mul_zero,Int.sub_zero,h1]
   decide
  ·rw [h1, h3, if_neg (by decide)]
   have e:d * -f*(d * -f)=d*(d*f*f):=by grind
   rw[e,Int.mul_one,Int.one_mul,cmpZ_mul hd,cmpZ_sub]
   have e2:n-d*f*f = -(d*f*f-n):=by omega
   rw[e2]
   rcases sgn_cases (d*f*f-n) with⟨h5,h6⟩|⟨h5,h6⟩|⟨h5,h6⟩<;>rcases sgn_cases (-(d*f*f-n)) with⟨h7,h8⟩|⟨h7,h8⟩|⟨h7,h8⟩<;>omega
 ·subst h2
  rw[h1,Int.mul_zero,if_pos (Int.le_refl 0),Int.zero_sub]
  have e : -(d*f*f)=d*(f * -f):=by grind
  rw[e,sgn_mul hd]
  rcases sgn_cases (-f) with⟨h3,h4⟩|⟨h3,h4⟩|⟨h3,h4⟩
  ·omega
  ·obtain rfl : f = 0 := by omega
   rfl
  ·rw [h3, sgn_mul (show 0 < f by omega), h3]
   decide
 ·omega
def rootOf(add s:Int)(n d:Nat):Rt:=if s=0\/n=0 then ⟨add,0,zero,ofZ 1⟩ else ⟨add,s,ofZ ((n/Nat.gcd n d:Nat):Int),ofZ ((d/Nat.gcd n d:Nat):Int)⟩
theorem small_nat{n k:Nat}(h:n<4294967296 ^ k)(hk:k<=64):small (n:Int)=true:=small_of_lt (k:=k) (by rw[Int.natAbs_natCast];exact h) hk
theorem ofZ_len{n k:Nat}(h:n<4294967296 ^ k):(ofZ (n:Int)).d.length<=k:=by
 simp only[ofZ,Int.natAbs_natCast]
 exact (digs_length_le _ _).2 h
theorem ofP_nat{add s:Int}{n d:Nat}(hs : -1<=s/\s<=1)(hn:n<4294967296 ^ 8)(hd:d<4294967296 ^ 8)(h0:0<d):ofP add s (ofZ (n:Int)) (ofZ (d:Int))=(rootOf add s n d,true):=by
 have sn:=small_nat hn (by decide)
 have sd:=small_nat hd (by decide)
 have vn:val (ofZ (n:Int)).d=n:=by rw[val_ofZ];rfl
 have vd:val (ofZ (d:Int)).d=d:=by rw[val_ofZ];rfl
 have hb:ofBad s (ofZ (n:Int)) (ofZ (d:Int))=false:=ofBad_of hs.1 hs.2 (ofZ_right sn) (ofZ_right sd) neg_ofZ (by rw[ofZ_z];omega)
 unfold rootOf
 by_cases hz:s=0\/n=0
 ·rw [if_pos hz]
  unfold ofP
  rw[hb,if_neg (by simp),if_pos (by rw[ofZ_z];omega)]
 ·rw [if_neg hz, ofP_main neg_ofZ (by rw [ofZ_z]; omega) hb (by rw [ofZ_z]; omega), vn, vd, if_neg]
  have h1:=ofZ_len (Nat.lt_of_le_of_lt (Nat.div_le_self n (Nat.gcd n d)) hn)
  have h2:=ofZ_len (Nat.lt_of_le_of_lt (Nat.div_le_self d (Nat.gcd n d)) hd)
  omega
theorem whole_ok{add s:Int}{n d:Nat}(hs : -1<=s/\s<=1)(hn:n<4294967296 ^ 8)(hd:d<4294967296 ^ 8)(h0:0<d):(rootOf add s n d).Ok/\(rootOf add s n d).right=true:=by
 have dg:∀z,Dig (ofZ z).d:=fun z=>dig_digs _
 obtain⟨h1,h2,_⟩:=ofP_ok (dg n) (dg d) (ofP_nat (add:=add) hs hn hd h0)
 exact⟨h1,right_of h2 h1.nr h1.dr⟩
theorem cmp_int{add s x:Int}{n d:Nat}(h0:0<d)(hs:s=0->n=0):cmpR ((rootOf add s n d).add-x) (rootOf add s n d).s (rootOf add s n d).n.z (rootOf add s n d).d.z 0 0 1=sideZ ((add-x)*d) s ((n:Int)*d):=by
 rw[cmpR_whole]
 unfold rootOf
 by_cases hz:s=0\/n=0
 ·have hn : n = 0 := by rcases hz with h | h; exact hs h; exact h
  rw[if_pos hz,hn]
  simp only
  rw[ofZ_z,zero_z]
  have e:∀y t:Int,sideZ y t 0=sgn y:=fun y t=>by
   have:sgn 0=0:=rfl
   unfold sideZ
   rw[this,Int.mul_zero,Int.mul_zero,if_pos (Int.le_refl 0)]
   rcases sgn_cases y with⟨h,_⟩|⟨h,_⟩|⟨h,_⟩<;>rw[h]<;>decide
  rw[Int.zero_mul,e,show ((0:Nat):Int)*(d:Int)=0 by simp,e,Int.mul_one,Int.mul_comm,sgn_mul (by omega)]
 ·rw [if_neg hz]
  simp only
  rw[ofZ_z,ofZ_z]
  have hg:0<Nat.gcd n d:=Nat.gcd_pos_of_pos_right _ h0
  have e1:Nat.gcd n d*(n/Nat.gcd n d)=n:=Nat.mul_div_cancel' (Nat.gcd_dvd_left _ _)
  have e2:Nat.gcd n d*(d/Nat.gcd n d)=d:=Nat.mul_div_cancel' (Nat.gcd_dvd_right _ _)
  have e1':(n:Int)=(Nat.gcd n d:Int)*((n/Nat.gcd n d:Nat):Int):=by rw[<- Int.natCast_mul,e1]
  have e2':(d:Int)=(Nat.gcd n d:Int)*((d/Nat.gcd n d:Nat):Int):=by rw[<- Int.natCast_mul,e2]
  have hg2:(0:Int)<(Nat.gcd n d:Int):=by omega
  generalize (Nat.gcd n d:Int)=g at *
  generalize ((n/Nat.gcd n d:Nat):Int)=N at *
  generalize ((d/Nat.gcd n d:Nat):Int)=D at *
  rw[e1',e2',show (add-x)*(g*D)=g*((add-x)*D) by grind,show g*N*(g*D)=g*g*(N*D) by grind,sideZ_scale hg2]

set_option maxRecDepth 100000
section
def sideR(a b c:Int):Int:=if sgn c=0\/sgn b=0 then sgn a else if sgn a=0\/sgn a=sgn b then sgn b else sgn a*cmpZ (a*a) (b*b*c)
theorem sgn_nonneg{c:Int}(h:0<=c):sgn c=0\/sgn c=1:=by
 unfold sgn cmpZ
 rw[if_neg (by omega)]
 split
 ·exact .inl rfl
 ·exact .inr rfl
theorem side_eq(a b c:Int)(h:0<=c):sideR a b c=sideZ a b c:=by
 unfold sideR sideZ
 have ha:=sgn_bd a
 have hb:=sgn_bd b
 have hc:=sgn_nonneg h
 generalize sgn a*cmpZ (a*a) (b*b*c)=r
 generalize sgn a=x at *
 generalize sgn b=y at *
 generalize sgn c=z at *
 obtain rfl|rfl|rfl:x = -1\/x=0\/x=1:=by omega
 all_goals obtain rfl|rfl|rfl:y = -1\/y=0\/y=1:=by omega
 all_goals rcases hc with rfl|rfl
 all_goals (simp<;>omega)
def d1ZOf:Con:=zOfC 79 r01_Of
def d1ZMul:Con:=zBinC 187 mulP (·*·) (·*·) (fun A B=>decide (A<c2048/\B<c2048/\A*B<c2048)) r01_Mul zmul_c
def d1ZSub:Con:=zBinC 186 subP (· - ·) (·+·) (fun A B=>decide (A+B<c2048)) r01_Sub zsub_c
theorem addP_z{x y:Int}(hx:small x=true)(hy:small y=true)(hs:small (x+y)=true):addP (ofZ x) (ofZ y)=(ofZ (x+y),true):=by
 unfold addP fit
 rw[ofZ_right hx,ofZ_right hy,ofZ_z,ofZ_z,hs]
 rfl
theorem zadd_c(x y:Int)(A B:Nat)(h:decide (A+B<c2048)=true)(b1:x.natAbs<=A)(b2:y.natAbs<=B):(x+y).natAbs<=A+B/\addP (ofZ x) (ofZ y)=(ofZ (x+y),true):=by
 have h:=of_decide_eq_true h
 have b3:(x+y).natAbs<=A+B:=by omega
 exact⟨b3,addP_z (small_c b1 (by omega)) (small_c b2 (by omega)) (small_c b3 h)⟩
def d1ZAdd:Con:=zBinC 188 addP (·+·) (·+·) (fun A B=>decide (A+B<c2048)) r01_Add zadd_c
theorem cmpZ_b(a b:Int):(cmpZ a b).natAbs<=1/\I64 (cmpZ a b):=by
 have:=cmpZ_bd a b
 exact⟨by omega,by unfold I64;omega⟩
def zCmpC(f:FuncId)(H:∀(a b:Nm) (n m:Bool) (p q:Option Addr) (l c k d:Nat) (w:World),NR w n p l c a->NR w m q k d b->Calls Tryz.prog f #[NmV n p l c,NmV m q k d] w fun e w'=>e=.returned (.int .i64 (cmpP a b))/\Ext w w'):Con where
 f:=f
 g:=fun | [⟨true,l⟩,⟨true,m⟩]=>(match toZi l,toZi m with|some (x,A),some (y,B)=>if A<c2048/\B<c2048 then some (.one (inV (cmpZ x y) 1),[]) else none|_,_=>none)|_=>none
 ok:=by
  intro args res ps h hp
  split at h<;>try cases h
  split at h<;>try cases h
  split at h<;>cases h
  rename_i x A y B hx hy hb
  intro W vals hv
  obtain⟨v1,g1,l1,rfl,hv1⟩:=rvs_cons.1 hv
  obtain⟨v2,g2,l2,rfl,hv2⟩:=rvs_cons.1 hv1
  cases hv2
  obtain⟨b1,_,_,_,_,rfl,h1⟩:=toZi_rep hx g1
  obtain⟨b2,_,_,_,_,rfl,h2⟩:=toZi_rep hy g2
  exact (H _ _ _ _ _ _ _ _ _ _ W h1 h2).mono fun _ _ h=>gv_in (cmpZ_b _ _) (cmpP_side (small_c b1 hb.1) (small_c b2 hb.2) ▸ h)
def d1ZCmp:Con:=zCmpC 122 fun a b _ _ _ _ _ _ _ _ w h1 h2=>r01_Cmp a b _ _ _ _ _ _ _ _ w h1 h2
def d1ZRight:Con where
 f:=121
 g:=fun | [⟨true,[.d (.zi x A)]⟩]=>if A<c2048 then some (.one ⟨false,[.b true]⟩,[]) else none|_=>none
 ok:=by
  intro args res ps h hp
  split at h<;>try cases h
  split at h<;>cases h
  rename_i x A hb
  intro W vals hv
  simp only[rvs_cons,rvs_nil,rv_t,rl_zi,rl_nil] at hv
  obtain⟨_,⟨_,⟨b1,n,p,l,c,h1,_,rfl,rfl⟩,rfl⟩,_,rfl,rfl⟩:=hv
  have e:(ofZ x).right=true:=ofZ_right (small_c b1 hb)
  exact (r01_Right _ _ _ _ _ W h1).mono fun _ _ h=>⟨_,h.1,RepI.val (i:=.b true) (by show [_]=[_];rw[e]),h.2⟩
def K2C:List Con:=[d1ZOf,d1ZMul,d1ZSub,d1ZAdd,d1ZCmp,d1ZRight]
def c639:Nat:=4294967296 ^ 20-1
def c672:Nat:=4294967296 ^ 21
theorem r2side_fok(a b c:Int)(h:0<=c):Fok Tryz.prog 138 [ziV a c672,ziV b c672,ziV c c672] (.one (inV (sideZ a b c) lim)):=by
 rw[<- side_eq a b c h]
 unfold sideR
 by_cases h1:sgn c=0
 ·rw [if_pos (.inl h1)]
  exact fok K2C [true] [pT (bq_T h1)] (by kernel_rfl)
 by_cases h2:sgn b=0
 ·rw [if_pos (.inr h2)]
  exact fok K2C [false,true] [pF (bq_F h1),pT (bq_T h2)] (by kernel_rfl)
 rw[if_neg (by omega)]
 by_cases h3:sgn a=0
 ·rw [if_pos (.inl h3)]
  exact fok K2C [false,false,true] [pF (bq_F h1),pF (bq_F h2),pT (bq_T h3)] (by kernel_rfl)
 by_cases h4:sgn a=sgn b
 ·rw [if_pos (.inr h4)]
  exact fok K2C [false,false,false,true] [pF (bq_F h1),pF (bq_F h2),pF (bq_F h3),pT (bq_T h4)] (by kernel_rfl)
 ·rw [if_neg (by omega)]
  exact fok K2C [false,false,false,false] [pF (bq_F h1),pF (bq_F h2),pF (bq_F h3),pF (bq_F h4)] (by kernel_rfl)
theorem zi_up{V W:World}{r:Nat->Nat}{k:Nat}{z:Int}{A B:Nat}(h:A<=B):∀v,RepV V W r k ⟨true,[.d (.zi z A)]⟩ v->RepV V W r k (ziV z B) v:=by
 intro v hv
 obtain⟨_,hw,rfl⟩:=rv_t.1 hv
 obtain⟨b1,h2⟩:=rl_zi.1 hw
 exact rv_t.2 ⟨_,rl_zi.2 ⟨Nat.le_trans b1 h,h2⟩,rfl⟩
theorem in_up{V W:World}{r:Nat->Nat}{k:Nat}{z:Int}{A B:Nat}(h:A<=B):∀v,RepV V W r k ⟨false,[.i z A]⟩ v->RepV V W r k (inV z B) v:=by
 intro v hv
 obtain⟨h1,rfl⟩:=rv_i.1 hv
 exact rv_i.2 ⟨⟨Nat.le_trans h1.1 h,h1.2⟩,rfl⟩
def sideC(f:FuncId)(M:Nat)(H:∀a b c:Int,a.natAbs<=M->b.natAbs<=M->c.natAbs<=M->0<=c->Fok Tryz.prog f [ziV a M,ziV b M,ziV c M] (.one (inV (sideZ a b c) lim))):Con where
 f:=f
 g:=fun | [⟨true,[.d (.zi x A)]⟩,⟨true,[.d (.zi y B)]⟩,⟨true,[.d (.zi d D)]⟩]=>if A<=M/\B<=M/\D<=M then some (.one (inV (sideZ x y d) 1),[0<=d]) else none|_=>none
 ok:=by
  intro args res ps h hp
  split at h<;>try cases h
  split at h<;>cases h
  rename_i x A y B d D hb
  intro W vals hv
  obtain⟨v1,g1,l1,e1,hv1⟩:=rvs_cons.1 hv
  obtain⟨v2,g2,l2,e2,hv2⟩:=rvs_cons.1 hv1
  obtain⟨v3,g3,_⟩:=rvs_cons.1 hv2
  have bd:∀ {z:Int} {A:Nat} {v:Value},RepV W W (fun _=>0) 0 ⟨true,[.d (.zi z A)]⟩ v->z.natAbs<=A:=fun h=>by
   obtain⟨_,hw,_⟩:=rv_t.1 h
   exact (rl_zi.1 hw).1
  have hs:=sideZ_bd x y d
  exact Fok.bd (H x y d (Nat.le_trans (bd g1) hb.1) (Nat.le_trans (bd g2) hb.2.1) (Nat.le_trans (bd g3) hb.2.2) hp.1) (by omega) W vals (rvs_1 (zi_up hb.1) (rvs_1 (zi_up hb.2.1) (rvs_1 (zi_up hb.2.2) fun _ h=>h)) _ hv)
def d2Side:Con:=sideC 138 c672 fun a b c _ _ _ h=>r2side_fok a b c h
theorem len20{z:Int}(h:z.natAbs<=c639):decide (((ofZ z).d.length:Int)>20)=false:=by
 have:=(digs_length_le z.natAbs 20).2 (by unfold c639 at h;omega)
 have e:(ofZ z).d=digs z.natAbs:=rfl
 rw[e]
 simp only[decide_eq_false_iff_not]
 omega
def d2Sign:Con:=sideC 248 c639 fun a b c ha hb hc h =>
 fok (d2Side::K2C) [false,false,false,false] [pF (len20 ha),pF (len20 hb),pF (len20 hc),pF (by simp[ofZ];omega:(ofZ c).neg=false),pP h] (by kernel_rfl)
end

set_option maxRecDepth 100000
section
def rightZC(f:FuncId)(H:∀a:Rt,Dig a.n.d/\Dig a.d.d->Fok Tryz.prog f [rtV a] (.one (blV a.right))):Con where
 f:=f
 g:=fun | [⟨true,[.i a _,.i s _,.d (.zi n _),.d (.zi d _)]⟩]=>some (.one (blV (Rt.right ⟨a,s,ofZ n,ofZ d⟩)),[])|_=>none
 ok:=by
  intro args res ps h hp
  split at h<;>cases h
  rename_i a _ s _ n N d D
  refine Fok.pre (H ⟨a,s,ofZ n,ofZ d⟩ ⟨dig_digs _,dig_digs _⟩) fun W=>rvs_1 (fun v hv=>?_) fun _ h=>h
  simp only[rv_t,rl_i,rl_zi,rl_nil] at hv
  obtain⟨_,⟨⟨_,i1⟩,_,rfl,⟨_,i2⟩,_,rfl,_,n1,p1,l1,c1,h1,_,rfl,_,m1,q1,k1,d1,h2,_,rfl,rfl⟩,rfl⟩:=hv
  exact rv_t.2 ⟨_,rl_i.2 ⟨lim64 i1,_,rfl,rl_i.2 ⟨lim64 i2,_,rfl,rl_num.2 ⟨n1,p1,l1,c1,h1,_,rfl,rl_num.2 ⟨m1,q1,k1,d1,h2,_,rfl,rfl⟩⟩⟩⟩,rfl⟩
def d2RightZ:Con:=rightZC 30 r2Right_fok
def c8:Nat:=4294967296 ^ 8
def rzV(a s n d:Int):V1:=⟨true,[.i a lim,.i s 1,.d (.zi n c8),.d (.zi d c8)]⟩
def K2D:List Con:=d2RightZ::d2Side::K2C
theorem r2Cmp_z(a s n d b t m e:Int)(h1:Rt.right ⟨a,s,ofZ n,ofZ d⟩=true)(h2:Rt.right ⟨b,t,ofZ m,ofZ e⟩=true)(h0:0<=n*d):Fok Tryz.prog 83 [rzV a s n d,rzV b t m e] (.one (inV (cmpR (a-b) s n d t m e) lim)):=by
 unfold cmpR
 by_cases h:sideZ ((a-b)*d) s (n*d)≠t
 ·rw [if_pos h]
  by_cases g:t<sideZ ((a-b)*d) s (n*d)
  ·rw [show max (min (sideZ ((a - b) * d) s (n * d) - t) 1) (-1) = 1 by omega]
   exact fok K2D [false,false,true,true] [pF (nt_F h1),pF (nt_F h2),pP h0,pT (ne_T h),pT (gt_T g)] (by kernel_rfl)
  ·rw [show max (min (sideZ ((a - b) * d) s (n * d) - t) 1) (-1) = -1 by omega]
   exact fok K2D [false,false,true,false] [pF (nt_F h1),pF (nt_F h2),pP h0,pT (ne_T h),pF (gt_F g)] (by kernel_rfl)
 ·rw [if_neg h, show (a - b) * (a - b) * d * e + n * e - m * d = (a - b) * (a - b) * (d * e) + n * e - m * d by grind, show 2 * (a - b) * s * e = 2 * s * (a - b) * e by grind]
  exact fok K2D [false,false,false] [pF (nt_F h1),pF (nt_F h2),pP h0,pF (ne_F h),pP h0] (by kernel_rfl)
theorem cmpRt_bd(a b:Rt):(cmpRt a b).natAbs<=1/\I64 (cmpRt a b):=by
 have sg3:∀ {x:Int},-1<=x/\x<=1->x = -1\/x=0\/x=1:=fun h=>by omega
 have key : -1<=cmpRt a b/\cmpRt a b<=1:=by
  unfold cmpRt
  split
  ·unfold cmpR
   split
   ·omega
   ·have h := sg3 (sideZ_bd ((a.add - b.add) * a.d.z) a.s (a.n.z * a.d.z))
    have g:=sg3 (sideZ_bd ((a.add-b.add)*(a.add-b.add)*a.d.z*b.d.z+a.n.z*b.d.z-b.n.z*a.d.z) (2*(a.add-b.add)*a.s*b.d.z) (a.n.z*a.d.z))
    generalize sideZ ((a.add-b.add)*a.d.z) a.s (a.n.z*a.d.z)=u at h
    generalize sideZ ((a.add-b.add)*(a.add-b.add)*a.d.z*b.d.z+a.n.z*b.d.z-b.n.z*a.d.z) (2*(a.add-b.add)*a.s*b.d.z) (a.n.z*a.d.z)=v at g
    rcases h with rfl|rfl|rfl<;>rcases g with rfl|rfl|rfl<;>decide
  ·decide
 exact⟨by omega,by unfold I64;omega⟩
theorem rz_of{V W:World}{r:Nat->Nat}{k:Nat}{a s:Int}{A S:Nat}{n d:Nm}(h:Rt.right ⟨a,s,n,d⟩=true)(dn:Dig n.d)(dd:Dig d.d):(n=ofZ n.z/\d=ofZ d.z/\0<=n.z*d.z)/\∀v,RepV V W r k ⟨true,[.i a A,.i s S,.d (.num n),.d (.num d)]⟩ v->RepV V W r k (rzV a s n.z d.z) v:=by
 have ok:=(right_ok (a:=⟨a,s,n,d⟩) dn dd h).1
 have en:=ofZ_of_right dn ok.nr
 have ed:=ofZ_of_right dd ok.dr
 have zn:n.z=(val n.d:Int):=ok.zs.1
 have zd:d.z=(val d.d:Int):=ok.zs.2
 have bd:∀ {x:List Nat},Dig x->x.length<=8->val x<=c8:=fun hx hl=>Nat.le_trans (Nat.le_of_lt (val_lt hx)) (Nat.pow_le_pow_right (by decide) hl)
 refine⟨⟨en.symm,ed.symm,by rw[zn,zd];exact Int.mul_nonneg (by omega) (by omega)⟩,fun v hv=>?_⟩
 simp only[rv_t,rl_i,rl_num,rl_nil] at hv
 obtain⟨_,⟨⟨_,i1⟩,_,rfl,⟨_,i2⟩,_,rfl,n1,p1,l1,c1,h1,_,rfl,m1,q1,k1,d1,h2,_,rfl,rfl⟩,rfl⟩:=hv
 have b1:=bd dn ok.nl
 have b2:=bd dd ok.dl
 have sl:=ok.sl
 have su:=ok.su
 simp only at sl su
 exact rv_t.2 ⟨_,rl_i.2 ⟨lim64 i1,_,rfl,rl_i.2 ⟨⟨by omega,i2⟩,_,rfl,rl_zi.2 ⟨by omega,n1,p1,l1,c1,en.symm ▸ h1,_,rfl,rl_zi.2 ⟨by omega,m1,q1,k1,d1,ed.symm ▸ h2,_,rfl,rfl⟩⟩⟩⟩,rfl⟩
def cmpC(f:FuncId)(N:∀a b:Rt,Dig a.n.d/\Dig a.d.d->Dig b.n.d/\Dig b.d.d->(a.right&&b.right)=false->Fok Tryz.prog f [rtV a,rtV b] (.one (inV 0 lim)))
  (H:∀a s n d b t m e:Int,Rt.right ⟨a,s,ofZ n,ofZ d⟩=true->Rt.right ⟨b,t,ofZ m,ofZ e⟩=true->0<=n*d->Fok Tryz.prog f [rzV a s n d,rzV b t m e] (.one (inV (cmpR (a-b) s n d t m e) lim))):Con where
 f:=f
 g:=fun | [⟨true,[.i a _,.i s _,.d (.num n),.d (.num d)]⟩,⟨true,[.i b _,.i t _,.d (.num m),.d (.num e)]⟩]=>some (.one (inV (cmpRt ⟨a,s,n,d⟩ ⟨b,t,m,e⟩) 1),[])|_=>none
 ok:=by
  intro args res ps h hp
  split at h<;>cases h
  rename_i a A s S n d b B t T m e
  intro W vals hv
  obtain⟨v1,g1,l1,rfl,hv1⟩:=rvs_cons.1 hv
  obtain⟨v2,g2,l2,rfl,hv2⟩:=rvs_cons.1 hv1
  obtain⟨k1,dn,dd,_⟩:=rt_at g1
  obtain⟨k2,dm,de,_⟩:=rt_at g2
  have b0:=(cmpRt_bd ⟨a,s,n,d⟩ ⟨b,t,m,e⟩).1
  cases hr:(Rt.right ⟨a,s,n,d⟩&&Rt.right ⟨b,t,m,e⟩) with
  | false =>
   have e0:cmpRt ⟨a,s,n,d⟩ ⟨b,t,m,e⟩=0:=by unfold cmpRt;rw[hr];rfl
   rw[e0]
   exact (N _ _ ⟨dn,dd⟩ ⟨dm,de⟩ hr).bd (by decide) W _ (rvs_cons.2 ⟨_,k1,_,rfl,rvs_cons.2 ⟨_,k2,_,rfl,hv2⟩⟩)
  | true =>
   have e0:cmpRt ⟨a,s,n,d⟩ ⟨b,t,m,e⟩=cmpR (a-b) s n.z d.z t m.z e.z:=by unfold cmpRt;rw[hr];rfl
   rw[e0] at b0 ⊢
   simp only[Bool.and_eq_true] at hr
   obtain⟨⟨x1,x2,x3⟩,x4⟩:=rz_of (V:=W) (W:=W) (r:=fun _=>0) (k:=0) (A:=A) (S:=S) hr.1 dn dd
   obtain⟨⟨y1,y2,_⟩,y4⟩:=rz_of (V:=W) (W:=W) (r:=fun _=>0) (k:=0) (A:=B) (S:=T) hr.2 dm de
   exact (H a s n.z d.z b t m.z e.z (by rw[<- x1,<- x2];exact hr.1) (by rw[<- y1,<- y2];exact hr.2) x3).bd b0 W _ (rvs_cons.2 ⟨_,x4 _ g1,_,rfl,rvs_cons.2 ⟨_,y4 _ g2,_,rfl,hv2⟩⟩)
theorem r2Cmp_no(a b:Rt)(h:(a.right&&b.right)=false):Fok Tryz.prog 83 [rtV a,rtV b] (.one (inV 0 lim)):=by
 cases h1:a.right with
 | false=>exact fok [d02Right] [true] [pT (nt_T h1)] (by kernel_rfl)
 | true =>
  rw[h1] at h
  exact fok [d02Right] [false,true] [pF (nt_F h1),pT (nt_T h)] (by kernel_rfl)
def d02Cmp:Con:=cmpC 83 (fun a b _ _ h=>r2Cmp_no a b h) r2Cmp_z
end

set_option maxHeartbeats 4000000
set_option maxRecDepth 100000
section
open Go.RowKit Go.Shelf
attribute [local go_sem] Oper.semAt_some
attribute [local go_sem] Gives givesU
abbrev Dg:={ x:Nat // x<4294967296 }
def KR(B:Nat)(p:Option Addr)(n:Nat)(W W':World):Prop:=(∀o,W'.cell? ⟨B,o,none⟩=W.cell? ⟨B,o,none⟩)/\(0<n->∀a,p=some a->∀o,W'.cell? ⟨a.block,o,none⟩=W.cell? ⟨a.block,o,none⟩)
theorem down_stops(n:Nat)(hn:1<=n)(Bc c:Nat)(d:List Nat)(p:Option Addr)(w:World)(hB:Bc<w.heap.size)(c0:w.cell? ⟨Bc,0,none⟩=some (.slice p d.length c))(hr:Row w p c d) :
  SeqStopsK Fence.wide n Tryz.prog 166 #[.pointer (some ⟨Bc,0,none⟩)] (fun x:Dg=>#[.int .u32 (x.1:Int)]) (KR Bc p d.length) (fun xs=>xs.map (·.1)=d.reverse) (fun _=>True) d.length w:=fun L J Jx W hW _ _ hY h0=>by
 have k0:W.cell? ⟨Bc,0,none⟩=some (.slice p d.length c):=(hW.cell (p:=⟨Bc,0,none⟩) hB).trans c0
 have hrW:Row W p c d:=hr.ext hW
 have hma:=hr.max
 have hle:=hr.le
 clear c0 hr
 refine callsIn_of_wp Tryz.func166 rfl trivial ?_ rfl
 simp only[Tryz.ntmps166,List.size_toArray,List.length_cons,List.length_nil,Nat.reduceAdd,Nat.reduceSub,Array.replicate_succ,Array.replicate_zero,List.push_toArray,List.append_toArray,List.nil_append,List.cons_append]
 gi_wp2
 gi_loopw [3] (fun i wr=>∃(k:Nat) (pre:List Dg),i=.int .i64 ((k:Int)-1)/\pre.length+k=d.length/\pre.map (·.1)=(d.drop k).reverse/\J pre wr/\KR Bc p d.length W wr) (fun i _=>(intOf i+1).toNat)
 case atStart=>exact⟨d.length,[],rfl,by simp,by rw[List.drop_eq_nil_of_le (Nat.le_refl _)];rfl,h0,fun _=>rfl,fun _ _ _ _=>rfl⟩
 case round =>
  obtain⟨k,pre,rfl,hk,hpre,hJ,hK1,hK2⟩:=hrel
  have m0:wr.cell? ⟨Bc,0,none⟩=some (.slice p d.length c):=(hK1 0).trans k0
  cases k with
  | zero =>
   have HJ:=Lib.hid hJ
   have HP:=Lib.hid hpre
   clear hJ hpre hK1 hK2 hk
   have e:(((0:Nat):Int)-1) = -1:=by omega
   rw[e]
   clear e
   gi_wp2
   go_end0
   exact⟨⟨_,rfl⟩,.inl ⟨pre,by rw[HP.out,List.drop_zero],HJ.out⟩⟩
  | succ j =>
   have e:(((j+1:Nat):Int)-1)=(j:Int):=by omega
   rw[e]
   clear e
   obtain⟨ba,oa,rfl,hba,hca⟩:=hrW.at (by omega)
   have ca1:wr.cell? ⟨ba,oa+j,none⟩=some (.int .u32 ((d[j]?.getD 0:Nat):Int)):=(hK2 (by omega) _ rfl _).trans (hca j (by omega))
   have hxd:=hrW.dig.getD j
   rw[List.getD_eq_getElem?_getD] at hxd
   have hjd:j<d.length:=by omega
   have hdrop:d.drop j=d[j]?.getD 0::d.drop (j+1):=by rw[List.drop_eq_getElem_cons hjd,getD_eq hjd]
   obtain⟨x,X⟩:∃x,Hid (d[j]?.getD 0=x):=⟨_,rfl⟩
   rw[X.out] at ca1 hxd hdrop
   obtain⟨f1,t1,a1,b1,hy1,hR1⟩:=hY pre ⟨x,hxd⟩ wr hJ (by omega)
   dsimp only at hy1
   have HP:=Lib.hid hpre
   have HD:=Lib.hid hdrop
   have HK1:=Lib.hid hK1
   have HK2:=Lib.hid hK2
   clear hca hpre hJ hdrop hK1 hK2
   gi_wp2
   refine hR1.mono ?_
   rintro e W1 (⟨rfl,hJ1,hkk1,hkk2⟩|⟨rfl,hx1⟩)
   ·have HJ1 := Lib.hid hJ1
    have HL1:=Lib.hid hkk1
    have HL2:=Lib.hid hkk2
    clear hJ1 hkk1 hkk2
    gi_wp2
    refine⟨⟨j,pre++[⟨x,hxd⟩],rfl,by simp;omega,?_,HJ1.out,fun o=>(HL1.out o).trans (HK1.out o),fun h a ha o=>(HL2.out h a ha o).trans (HK2.out h a ha o)⟩,by simp[intOf]⟩
    rw[List.map_append,HP.out,HD.out,List.reverse_cons]
    rfl
   ·gi_wp2
    refine bodyPost_ret (results_none rfl _ _ _) rfl ?_
    exact⟨⟨_,rfl⟩,.inr ⟨_,trivial,hx1⟩⟩
theorem num_down(p:Option Addr)(l c:Nat)(w:World) :
  Calls Tryz.prog 109 #[.slice p l c] w fun e w'=>e=.returned (.func (.func 166) #[] #[.pointer (some ⟨w.heap.size,0,none⟩)])/\Ext w w'/\w'.cell? ⟨w.heap.size,0,none⟩=some (.slice p l c)/\w.heap.size<w'.heap.size:=by
 go_enter Tryz.func109,Tryz.ntmps109
 go_wp2
 go_ret
 exact⟨rfl,bxx,by go_simp,by simp⟩
theorem tight_posD{b:List Nat}(tb:Tight b)(h:0<b.length):0<val b:=by
 rcases Nat.eq_zero_or_pos (val b) with h0|h0
 ·exfalso
  rcases List.eq_nil_or_concat b with rfl|⟨c,x,rfl⟩
  ·simp at h
  ·have hx : x ≠ 0 := by have := tb (by simp); simpa using this
   rw[List.concat_eq_append,val_append,show val [x]=x from (by simp[val])] at h0
   have h1:0<4294967296 ^ c.length:=Nat.pow_pos (by omega)
   have h2:=Nat.mul_pos h1 (show 0<x by omega)
   omega
 ·exact h0
theorem wrapI{n:Int}(h1 : -9223372036854775808<=n)(h2:n<=9223372036854775807):IntKind.i64.wrap n=n:=IntWalk.i64_in _ ⟨h1,h2⟩
def intP(a:Nm):Int×Bool:=if a.right&&decide (a.d.length<=2)&&decide (-9223372036854775808<=a.z)&&decide (a.z<=9223372036854775807) then (a.z,true) else (0,false)
def RetInt(w:World)(r:Int×Bool)(e:Ending)(w':World):Prop:=e=.returned (.tuple #[.int .i64 r.1,.bool r.2])/\Ext w w'
def accD(pre:List Dg):Nat:=pre.foldl (fun m x=>m*4294967296+x.1) 0
theorem accD_snoc(pre:List Dg)(x:Dg):accD (pre++[x])=accD pre*4294967296+x.1:=by simp[accD]
theorem accD_val:∀(pre:List Dg),accD pre=val (pre.map (·.1)).reverse:=by
 intro pre
 have h:∀(l:List Dg) (m:Nat),l.foldl (fun m x=>m*4294967296+x.1) m=val (l.map (·.1)).reverse+4294967296 ^ l.length*m:=by
  intro l
  induction l with
  | nil=>intro m;simp[val]
  | cons x l ih =>
   intro m
   rw[List.foldl_cons,ih,List.map_cons,List.reverse_cons,val_append,show val [x.1]=x.1 from (by simp[val]),List.length_reverse,List.length_map,List.length_cons,Nat.pow_succ]
   rw[Nat.mul_add,Nat.mul_assoc,Nat.mul_comm m]
   omega
 rw[accD,h,Nat.mul_zero,Nat.add_zero]
theorem accD_lt(pre:List Dg):accD pre<4294967296 ^ pre.length:=by
 rw[accD_val]
 have:=val_lt (d:=(pre.map (·.1)).reverse) (by intro y hy;rw[List.mem_reverse,List.mem_map] at hy;obtain⟨z,_,rfl⟩:=hy;exact z.2)
 rwa [List.length_reverse,List.length_map] at this
theorem num_Int(a:Nm)(na:Bool)(pa:Option Addr)(la ca:Nat)(w:World)(ha:NR w na pa la ca a) :
  Calls Tryz.prog 65 #[.agg #[.bool na,.slice pa la ca]] w (RetInt w (intP a)):=by
 have RA:=Lib.hid (fun w' (hx:Ext w w')=>num_Right a na pa la ca w' (ha.ext hx))
 cases ra:a.right with
 | false =>
  rw[ra] at RA
  have hP:intP a=(0,false):=by unfold intP;rw[ra];rfl
  rw[hP]
  go_enter Tryz.func65,Tryz.ntmps65
  go_wp2_with fail
  refine (RA.out _ bxx).mono ?_
  rintro e w1 ⟨rfl,hx⟩
  have hx0:Ext w w1:=Ext.step bxx hx
  go_wp2
  go_ret2
  exact⟨rfl,hx0⟩
 | true =>
  rw[ra] at RA
  by_cases hl:2<la
  ·have hP:intP a=(0,false):=by
    have:=ha.2.1
    unfold intP;rw[if_neg];simp;intros;omega
   rw[hP]
   go_enter Tryz.func65,Tryz.ntmps65
   go_wp2_with fail
   refine (RA.out _ bxx).mono ?_
   rintro e w1 ⟨rfl,hx⟩
   have hx0:Ext w w1:=Ext.step bxx hx
   obtain⟨_,_,hk_w1_0,hf_w1_0⟩:=keepK1 hx w.heap.size
   go_wp2
   go_ret2
   exact⟨rfl,hx0⟩
  ·have dl : decide (2 < (la : Int)) = false := by rw [decide_eq_false_iff_not]; omega
   obtain rfl:la=a.d.length:=ha.2.1
   have hlen:a.d.length<=2:=by omega
   clear hl
   refine (callsIn_wide (n:=6)).1 ?_
   have RA':=Lib.hid (fun w' (hx:Ext w w')=>(callsIn_wide (n:=5)).2 (RA.out w' hx))
   have HA:=Lib.hid ha
   have HLEN:=Lib.hid hlen
   have hrow0:=ha.2.2
   clear ha RA hlen
   refine callsIn_of_wp_marks Tryz.func65 rfl trivial ?_ rfl
   simp only[Tryz.ntmps65,List.size_toArray,List.length_cons,List.length_nil,Nat.reduceAdd,Nat.reduceSub,Array.replicate_succ,Array.replicate_zero,List.push_toArray,List.append_toArray,List.nil_append,List.cons_append]
   gi_wp2
   refine⟨trivial,(RA'.out _ bxx).mono ?_⟩
   rintro e w1 ⟨rfl,hx⟩
   have hx0:Ext w w1:=Ext.step bxx hx
   obtain⟨_,_,hk_w1_0,hf_w1_0⟩:=keepK1 hx w.heap.size
   have g0:w1.cell? ⟨w.heap.size,0,none⟩=some (.bool na):=by go_simp
   have g1:w1.cell? ⟨w.heap.size,1,none⟩=some (.slice pa a.d.length ca):=by go_simp
   clear hk_w1_0 hf_w1_0
   gi_wp2
   refine⟨trivial,(callsIn_wide.2 (num_down pa a.d.length ca _)).mono ?_⟩
   rintro e w2 ⟨rfl,hx2,b0,hb⟩
   have hs2:=hx2.size
   simp at hs2 b0 hb
   have hx3:Ext w w2:=Ext.step bxx hx2
   have e0:w2.cell? ⟨w.heap.size,0,none⟩=some (.bool na):=(hx2.cell (p:=⟨w.heap.size,0,none⟩) (by simp;omega)).trans (by go_simp)
   have e1:w2.cell? ⟨w.heap.size,1,none⟩=some (.slice pa a.d.length ca):=(hx2.cell (p:=⟨w.heap.size,1,none⟩) (by simp;omega)).trans (by go_simp)
   have e2:w2.cell? ⟨w1.heap.size,0,none⟩=some (.int .u64 0):=(hx2.cell (p:=⟨w1.heap.size,0,none⟩) (by simp)).trans (by go_simp)
   have e3:w2.frozen? ⟨w1.heap.size,0,none⟩=false:=(hx2.frozen (p:=⟨w1.heap.size,0,none⟩) (by simp)).trans (by go_simp)
   have hrow:=hrow0.ext hx3
   have hpb:∀x,pa=some x->0<a.d.length->x.block<w.heap.size:=by
    intro x hp h0
    obtain⟨b',o',hp',hlt,_⟩:=hrow0.at h0
    rw[hp] at hp'
    cases hp'
    exact hlt
   clear hx2
   gi_wp2
   refine wpIn_rangeFunc_ownF rfl (by omega) (gf:=166) (lb:=#[.pointer (some ⟨w1.heap.size+1,0,none⟩)]) rfl trivial (enters_of Tryz.func166 (by kernel_rfl) rfl)
    (down_stops 5 (by omega) (w1.heap.size+1) ca a.d pa w2 hb b0 hrow) (fun h k=>⟨fun o=>(k.1 o).trans (h.1 o),fun z x hx o=>(k.2 z x hx o).trans (h.2 z x hx o)⟩)
    (fun W L o o' hL hW ho _=>⟨fun q=>World.cell?_of_block (World.putObj_heap_other (by show w1.heap.size+1≠L;omega)),fun z x hx q=>World.cell?_of_block (World.putObj_heap_other (by have:=hpb x hx z;show x.block≠L;omega))⟩) (Below.refl _ _) (fun _=>rfl)
    (fun pre W=>((W.cell? ⟨w.heap.size,0,none⟩=some (.bool na)/\W.cell? ⟨w.heap.size,1,none⟩=some (.slice pa a.d.length ca)/\W.cell? ⟨w1.heap.size,0,none⟩=some (.int .u64 ((accD pre:Nat):Int))/\W.frozen? ⟨w1.heap.size,0,none⟩=false)/\Below w.heap.size w W)/\w2.heap.size<=W.heap.size)
    (fun _ _ _=>False)
    (OwnFrom.and (OwnFrom.and (Own.from (fun s A B row hs hg hr=>⟨cell_kept hs.1 hg hr,cell_kept hs.2.1 hg hr,cell_kept hs.2.2.1 hg hr,(frozen_kept hs.2.2.1 hg hr).trans hs.2.2.2⟩) _) (ownFrom_below (Nat.le_refl _) (by omega))) (fun s A B row hs hg hr=>Nat.le_trans hs hg.size))
    (fun _ _ _ _ _ hs _ _=>hs)
    ⟨⟨⟨e0,e1,e2,e3⟩,hx3⟩,Nat.le_refl _⟩
    (fun x=>{ tmps:=#[.agg #[.bool na,.slice pa a.d.length ca],.pointer (some ⟨w.heap.size,0,none⟩),.int .i64 0,.bool false,.pointer (some ⟨w1.heap.size,0,none⟩),.int .u32 (x.1:Int),.agg #[.bool na,.slice pa a.d.length ca],.bool true,.bool false,.bool false,.pointer (some ⟨w.heap.size,1,none⟩),.slice pa a.d.length ca,.int .i64 (a.d.length:Int),.bool false,.bool false,.pointer (some ⟨w.heap.size,1,none⟩),.slice pa a.d.length ca,.func (.func 166) #[] #[.pointer (some ⟨w1.heap.size+1,0,none⟩)],.int .u32 (x.1:Int),undef,undef,undef,undef,undef,undef,undef,undef,undef,undef,undef,undef,undef,undef,undef,undef,undef,undef,undef,undef,undef,undef,undef,undef,undef],defers:=[] }) ?assign ?body ?done ?stop
   case assign =>
    intro L x W K hK
    gi_wp2
    exact hK
   case body =>
    rintro L pre x W ⟨⟨⟨c0,c1,c2,c3⟩,hB⟩,hz⟩ hpl
    have hx1:=x.2
    have hac:accD pre<4294967296:=by
     have:=accD_lt pre
     have h1:pre.length<=1:=by have:=HLEN.out;omega
     exact Nat.lt_of_lt_of_le this (Nat.pow_le_pow_right (n:=4294967296) (i:=pre.length) (j:=1) (by omega) h1)
    have OR:=or_u64 (accD pre) x.1 hac hx1
    have SN:=Lib.hid (accD_snoc pre x)
    have hWl:w.heap.size<W.heap.size:=by omega
    have hWm:w1.heap.size<W.heap.size:=by omega
    have hne:w.heap.size≠w1.heap.size:=by omega
    have hne':w1.heap.size≠w.heap.size:=by omega
    clear hpl
    gi_wp2
    refine⟨KeepsOthers.setCell _ _ _,⟨fun o=>?_,fun z y hy o=>?_⟩,⟨⟨?_,?_,?_,?_⟩,?_⟩,?_⟩
    ·go_simp
    ·have hn : w1.heap.size ≠ y.block := by have := hpb y hy z; omega
     have hn':=Ne.symm hn
     go_simp
    ·go_simp
    ·go_simp
    ·rw[SN.out];go_simp
    ·go_simp
    ·exact bxx
    ·simp;omega
   case done =>
    rintro D xs W hD hS ⟨⟨⟨c0,c1,c2,c3⟩,hB⟩,hz⟩ hK
    have hacc:accD xs=val a.d:=by rw[accD_val,hS,List.reverse_reverse]
    have hM64:val a.d<18446744073709551616:=by
     have:=val_lt hrow0.dig
     exact Nat.lt_of_lt_of_le this (Nat.pow_le_pow_right (n:=4294967296) (i:=a.d.length) (j:=2) (by omega) HLEN.out)
    have hsgn:na=a.neg:=HA.out.1
    have hzv:a.z=if na then -(val a.d:Int) else val a.d:=by unfold Nm.z;rw[hsgn]
    have hpos:na=true->0<val a.d:=by
     intro h
     refine tight_posD (a.right_iff.1 ra).2.1 ?_
     rcases Nat.eq_zero_or_pos a.d.length with g|g
     ·have := (a.right_iff.1 ra).2.2 (List.eq_nil_of_length_eq_zero g)
      rw[hsgn,this] at h;cases h
     ·exact g
    have hP:intP a=if decide (-9223372036854775808<=a.z)&&decide (a.z<=9223372036854775807) then (a.z,true) else (0,false):=by
     unfold intP
     rw[ra,show decide (a.d.length<=2)=true by simpa using HLEN.out]
     rfl
    rw[hzv] at hP
    rw[hacc] at c2
    obtain⟨M,HM⟩:∃M,Hid (val a.d=M):=⟨_,rfl⟩
    rw[HM.out] at c2 hM64 hpos hP
    have HP:=Lib.hid hP
    have HK:=Lib.hid hK
    clear hP hzv hsgn hacc hS hpb hrow0 hrow dl
    cases na
    ·by_cases h63 : M < 9223372036854775808
     ·have d1 : decide ((M : Int) < 9223372036854775808) = true := by rw [decide_eq_true_eq]; omega
      have w0:IntKind.i64.wrap (M:Int)=(M:Int):=wrapI (by omega) (by omega)
      have r:(if (decide (-9223372036854775808<=(if false=true then -(M:Int) else (M:Int)))&&decide ((if false=true then -(M:Int) else (M:Int))<=9223372036854775807))=true then ((if false=true then -(M:Int) else (M:Int)),true) else (0,false))=(((M:Int),true):Int×Bool):=by
       rw[if_pos];rfl;simp;omega
      have RES:=Lib.hid (HP.out.trans r)
      clear r HP
      gi_wp2
      refine⟨by simp,.inl ⟨_,_,rfl,run_takeDeferred HK.out,?_⟩⟩
      refine⟨_,results_tmp2 rfl _ _ _,?_,hB.trans (belowK_b (w:=w) (Nat.le_refl _) W D _ _ (by omega) HK.out rfl rfl)⟩
      rw[RES.out]
      rfl
     ·have d1 : decide ((M : Int) < 9223372036854775808) = false := by rw [decide_eq_false_iff_not]; omega
      have r:(if (decide (-9223372036854775808<=(if false=true then -(M:Int) else (M:Int)))&&decide ((if false=true then -(M:Int) else (M:Int))<=9223372036854775807))=true then ((if false=true then -(M:Int) else (M:Int)),true) else (0,false))=((0,false):Int×Bool):=by
       rw[if_neg];simp;omega
      have RES:=Lib.hid (HP.out.trans r)
      clear r HP
      gi_wp2
      refine⟨by simp,.inl ⟨_,_,rfl,run_takeDeferred HK.out,?_⟩⟩
      refine⟨_,results_tmp2 rfl _ _ _,?_,hB.trans (belowK_b (w:=w) (Nat.le_refl _) W D _ _ (by omega) HK.out rfl rfl)⟩
      rw[RES.out]
      rfl
    ·by_cases h63 : M <= 9223372036854775808
     ·have d1 : decide ((M : Int) <= 9223372036854775808) = true := by rw [decide_eq_true_eq]; omega
      have hp:=hpos rfl
      have w1:IntKind.u64.wrap (-(M:Int))=18446744073709551616-(M:Int):=by rw[u64_neg _ (by omega)];omega
      have w2:wrap64 (18446744073709551616-(M:Int)) = -(M:Int):=by
       unfold wrap64
       omega
      have HW:=Lib.hid w1
      have HW2:=Lib.hid w2
      clear w1 w2
      have r:(if (decide (-9223372036854775808<=(if true=true then -(M:Int) else (M:Int)))&&decide ((if true=true then -(M:Int) else (M:Int))<=9223372036854775807))=true then ((if true=true then -(M:Int) else (M:Int)),true) else (0,false))=((-(M:Int),true):Int×Bool):=by
       rw[if_pos];rfl;simp;omega
      have RES:=Lib.hid (HP.out.trans r)
      clear r HP
      gi_wp2
      refine⟨by simp,.inl ⟨_,_,rfl,run_takeDeferred HK.out,?_⟩⟩
      refine⟨_,results_tmp2 rfl _ _ _,?_,hB.trans (belowK_b (w:=w) (Nat.le_refl _) W D _ _ (by omega) HK.out rfl rfl)⟩
      have e:wrap64 (IntKind.u64.wrap (-(M:Int))) = -(M:Int):=by rw[HW.out,HW2.out]
      rw[RES.out]
      exact congrArg (fun z=>Ending.returned (.tuple #[.int .i64 z,.bool true])) e
     ·have d1 : decide ((M : Int) <= 9223372036854775808) = false := by rw [decide_eq_false_iff_not]; omega
      have r:(if (decide (-9223372036854775808<=(if true=true then -(M:Int) else (M:Int)))&&decide ((if true=true then -(M:Int) else (M:Int))<=9223372036854775807))=true then ((if true=true then -(M:Int) else (M:Int)),true) else (0,false))=((0,false):Int×Bool):=by
       rw[if_neg];simp;omega
      have RES:=Lib.hid (HP.out.trans r)
      clear r HP
      gi_wp2
      refine⟨by simp,.inl ⟨_,_,rfl,run_takeDeferred HK.out,?_⟩⟩
      refine⟨_,results_tmp2 rfl _ _ _,?_,hB.trans (belowK_b (w:=w) (Nat.le_refl _) W D _ _ (by omega) HK.out rfl rfl)⟩
      rw[RES.out]
      rfl
   case stop =>
    rintro D c' pre W _ _ h _
    exact h.elim
end

set_option maxHeartbeats 4000000
set_option maxRecDepth 100000
section
attribute [local go_sem] Gives givesU
theorem r01_Int(a:Nm)(na:Bool)(pa:Option Addr)(la ca:Nat)(w:World)(ha:NR w na pa la ca a) :
  Calls Tryz.prog 140 #[.agg #[.bool na,.slice pa la ca]] w (RetInt w (intP a)):=by
 have RA:=Lib.hid (fun w' (hx:Ext w w')=>r01_Right a na pa la ca w' (ha.ext hx))
 cases ra:a.right with
 | false =>
  rw[ra] at RA
  have hP:intP a=(0,false):=by unfold intP;rw[ra];rfl
  rw[hP]
  go_enter Tryz.func140,Tryz.ntmps140
  go_wp2_with fail
  refine (RA.out _ bxx).mono ?_
  rintro e w1 ⟨rfl,hx⟩
  have hx0:Ext w w1:=Ext.step bxx hx
  go_wp2
  go_ret2
  exact⟨rfl,hx0⟩
 | true =>
  rw[ra] at RA
  by_cases hl:2<la
  ·have hP:intP a=(0,false):=by
    have:=ha.2.1
    unfold intP;rw[if_neg];simp;intros;omega
   rw[hP]
   go_enter Tryz.func140,Tryz.ntmps140
   go_wp2_with fail
   refine (RA.out _ bxx).mono ?_
   rintro e w1 ⟨rfl,hx⟩
   have hx0:Ext w w1:=Ext.step bxx hx
   obtain⟨_,_,hk_w1_0,hf_w1_0⟩:=keepK1 hx w.heap.size
   go_wp2
   go_ret2
   exact⟨rfl,hx0⟩
  ·have dl : decide (2 < (la : Int)) = false := by rw [decide_eq_false_iff_not]; omega
   obtain rfl:la=a.d.length:=ha.2.1
   have hlen:a.d.length<=2:=by omega
   have hcap:=ha.2.2.le
   have hmax:=ha.2.2.max
   have HLEN:=Lib.hid hlen
   clear hl
   have hdig:=ha.2.2.dig
   have hsgn:na=a.neg:=ha.1
   have hM64:val a.d<18446744073709551616:=by
    have:=val_lt hdig
    exact Nat.lt_of_lt_of_le this (Nat.pow_le_pow_right (n:=4294967296) (i:=a.d.length) (j:=2) (by omega) hlen)
   have hzv:a.z=if na then -(val a.d:Int) else val a.d:=by unfold Nm.z;rw[hsgn]
   have hpos:na=true->0<val a.d:=by
    intro h
    refine tight_posD (a.right_iff.1 ra).2.1 ?_
    rcases Nat.eq_zero_or_pos a.d.length with g|g
    ·have := (a.right_iff.1 ra).2.2 (List.eq_nil_of_length_eq_zero g)
     rw[hsgn,this] at h;cases h
    ·exact g
   have hP:intP a=if decide (-9223372036854775808<=a.z)&&decide (a.z<=9223372036854775807) then (a.z,true) else (0,false):=by
    unfold intP
    rw[ra,show decide (a.d.length<=2)=true by simpa using hlen]
    rfl
   rw[hzv] at hP
   have HA:=Lib.hid ha
   have HP:=Lib.hid hP
   have HPOS:=Lib.hid hpos
   have HM:=Lib.hid hM64
   have HD:=Lib.hid hdig
   clear hP hzv hsgn hpos hM64 ha ra hdig
   go_enter Tryz.func140,Tryz.ntmps140
   go_wp2_with fail
   refine (RA.out _ bxx).mono ?_
   rintro e w1 ⟨rfl,hx⟩
   have hx0:Ext w w1:=Ext.step bxx hx
   obtain⟨_,_,hk_w1_0,hf_w1_0⟩:=keepK1 hx w.heap.size
   have g0:w1.cell? ⟨w.heap.size,0,none⟩=some (.bool na):=by go_simp
   have g1:w1.cell? ⟨w.heap.size,1,none⟩=some (.slice pa a.d.length ca):=by go_simp
   have HROW:=Lib.hid (HA.out.ext hx0).2.2
   have hl1:w.heap.size<w1.heap.size:=by omega
   clear hk_w1_0 hf_w1_0 hx
   clear RA
   go_wp2_with fail
   go_loopw [4,5] (fun m i wr=>∃k:Nat,k<=a.d.length/\i=.int .i64 (k:Int)/\m=.int .u64 ((val (a.d.take k):Nat):Int)/\wr=w1) (fun _ i _=>a.d.length-(intOf i).toNat)
   case atStart=>exact⟨0,Nat.zero_le _,rfl,rfl,rfl⟩
   case round =>
    obtain⟨k,hk,rfl,rfl,rfl⟩:=hrel
    by_cases hlt:k<a.d.length
    ·obtain ⟨b, o, rfl, hb, hc⟩ := HROW.out.at (by omega)
     have hck:=hc k hlt
     have hd0:=HD.out.getD k
     rw[List.getD_eq_getElem?_getD] at hd0
     have TK:Hid (val (a.d.take (k+1))=val (a.d.take k)+4294967296 ^ k*(a.d[k]?.getD 0)):=Lib.hid (by
      rw[List.take_succ_eq_append_getElem hlt,val_append,List.length_take,Nat.min_eq_left (by omega),List.getElem?_eq_getElem hlt]
      simp[val])
     obtain⟨x,X⟩:∃x,Hid (a.d[k]?.getD 0=x):=⟨_,Lib.hid rfl⟩
     rw[X.out] at hck hd0 TK
     clear hc
     have NX:Hid (val (a.d.take (k+1))=val (a.d.take k)+4294967296 ^ k*x):=TK
     obtain⟨m,M⟩:∃m,Hid (val (a.d.take k)=m):=⟨_,Lib.hid rfl⟩
     have hm:m<4294967296 ^ k:=by
      have:=val_lt (d:=a.d.take k) (fun y hy=>HD.out y (List.mem_of_mem_take hy))
      rwa [List.length_take,Nat.min_eq_left (by omega),M.out] at this
     rw[M.out] at NX ⊢
     rcases (show k=0\/k=1 by omega) with rfl|rfl
     ·have hm0 : m = 0 := by simpa using hm
      subst hm0
      have T1:Hid (val (a.d.take (0+1))=x):=Lib.hid (by rw[NX.out];simp)
      rw[Nat.add_zero] at hck
      clear TK NX hm M
      go_wp2_with fail
      exact⟨⟨1,by omega,rfl,by rw[show val (a.d.take 1)=x from T1.out],trivial⟩,by simp[intOf];omega⟩
     ·have T1 : Hid (val (a.d.take (1 + 1)) = m + 4294967296 * x) := Lib.hid (by rw [NX.out, Nat.pow_one])
      rw[Nat.pow_one] at hm
      clear TK NX
      go_wp2_with fail
      exact⟨⟨2,by omega,rfl,by rw[show val (a.d.take 2)=_ from T1.out];congr 1;omega,trivial⟩,by simp[intOf];omega⟩
    ·obtain rfl : k = a.d.length := by omega
     rw[List.take_of_length_le (Nat.le_refl _)]
     obtain⟨M,HV⟩:∃M,Hid (val a.d=M):=⟨_,rfl⟩
     have hM64:=HM.out
     have hpos:=HPOS.out
     have HP2:=HP.out
     rw[HV.out] at hM64 hpos HP2 ⊢
     have HPM:=Lib.hid HP2
     clear HP2 HP HPOS HM HROW
     cases na
     ·by_cases h63 : M < 9223372036854775808
      ·have d1 : decide (9223372036854775808 <= (M : Int)) = false := by rw [decide_eq_false_iff_not]; omega
       have d2:¬9223372036854775808<=(M:Int):=by omega
       have w0:wrap64 (M:Int)=(M:Int):=IntWalk.wrap64_in _ ⟨by omega,by omega⟩
       have RES:Hid (intP a=((M:Int),true)):=Lib.hid (HPM.out.trans (by rw[if_pos];rfl;simp;omega))
       clear hpos HPM hM64
       go_wp2
       go_ret2
       exact⟨by rw[RES.out];first|rfl|simp[w0],hx0⟩
      ·have d1 : decide (9223372036854775808 <= (M : Int)) = true := by rw [decide_eq_true_eq]; omega
       have d2:9223372036854775808<=(M:Int):=by omega
       have RES:Hid (intP a=(0,false)):=Lib.hid (HPM.out.trans (by rw[if_neg];simp;omega))
       clear hpos HPM hM64
       go_wp2
       go_ret2
       exact⟨by rw[RES.out];rfl,hx0⟩
     ·by_cases h63 : M <= 9223372036854775808
      ·have d1 : decide (9223372036854775808 < (M : Int)) = false := by rw [decide_eq_false_iff_not]; omega
       have d2:¬9223372036854775808<(M:Int):=by omega
       have hp:=hpos rfl
       have w1':IntKind.u64.wrap (-(M:Int))=18446744073709551616-(M:Int):=by rw[u64_neg _ (by omega)];omega
       have w2':wrap64 (18446744073709551616-(M:Int)) = -(M:Int):=by
        unfold wrap64
        omega
       have RES:Hid (intP a=(-(M:Int),true)):=Lib.hid (HPM.out.trans (by rw[if_pos];rfl;simp;omega))
       have HW:=Lib.hid w1'
       have HW2:=Lib.hid w2'
       clear hpos HPM hM64 w1' w2' hp
       go_wp2
       go_ret2
       have e:wrap64 (IntKind.u64.wrap (-(M:Int))) = -(M:Int):=by rw[HW.out,HW2.out]
       exact⟨by rw[RES.out];exact congrArg (fun z=>Ending.returned (.tuple #[.int .i64 z,.bool true])) e,hx0⟩
      ·have d1 : decide (9223372036854775808 < (M : Int)) = true := by rw [decide_eq_true_eq]; omega
       have d2:9223372036854775808<(M:Int):=by omega
       have RES:Hid (intP a=(0,false)):=Lib.hid (HPM.out.trans (by rw[if_neg];simp;omega))
       clear hpos HPM hM64
       go_wp2
       go_ret2
       exact⟨by rw[RES.out];rfl,hx0⟩
end

set_option maxRecDepth 100000
section
def cZAdd:Con:=zBinC 64 addP (·+·) (·+·) (fun A B=>decide (A+B<c2048)) num_Add zadd_c
def cZCmp:Con:=zCmpC 56 fun a b _ _ _ _ _ _ _ _ w h1 h2=>num_Cmp a b _ _ _ _ _ _ _ _ w h1 h2
def cRightZ:Con:=rightZC 23 fun a _=>rtRight_fok a
def KZ:List Con:=[cZOf,cZMul,cZAdd,cZCmp]
theorem rtSide_fok(a b c:Int):Fok Tryz.prog 62 [ziV a c672,ziV b c672,ziV c c672] (.one (inV (sideZ a b c) lim)):=by
 unfold sideZ
 by_cases h:0<=sgn a*(sgn b*sgn c)
 ·rw [if_pos h]
  exact fok KZ [true] [pT (decide_eq_true h)] (by kernel_rfl)
 ·rw [if_neg h, show a * a = 1 * a * a by rw [Int.one_mul], show b * b * c = 1 * b * b * c by rw [Int.one_mul]]
  exact fok KZ [false] [pF (decide_eq_false h)] (by kernel_rfl)
def cZSide:Con:=sideC 62 c672 fun a b c _ _ _ _=>rtSide_fok a b c
def KRt:List Con:=cRightZ::cZSide::KZ
theorem rtCmp_z(a s n d b t m e:Int)(h1:Rt.right ⟨a,s,ofZ n,ofZ d⟩=true)(h2:Rt.right ⟨b,t,ofZ m,ofZ e⟩=true)(h0:0<=n*d):Fok Tryz.prog 24 [rzV a s n d,rzV b t m e] (.one (inV (cmpR (a-b) s n d t m e) lim)):=by
 have h3:0<=1*n*d:=by rw[Int.one_mul];exact h0
 have hU:sideZ (1*(0+a+1 * -1*b)*d) s (1*n*d)=sideZ ((a-b)*d) s (n*d):=by
  rw[show 1*(0+a+1 * -1*b)*d=(a-b)*d by grind,Int.one_mul]
 have hV:sideZ (0+1*(0+a+1 * -1*b)*(0+a+1 * -1*b)*d*e+1*n*e+1 * -1*(1*m*d)) (1*2*(0+a+1 * -1*b)*s*e) (1*n*d)=sideZ ((a-b)*(a-b)*d*e+n*e-m*d) (2*(a-b)*s*e) (n*d):=by
  rw[show 0+1*(0+a+1 * -1*b)*(0+a+1 * -1*b)*d*e+1*n*e+1 * -1*(1*m*d)=(a-b)*(a-b)*d*e+n*e-m*d by grind,show 1*2*(0+a+1 * -1*b)*s*e=2*(a-b)*s*e by grind,Int.one_mul]
 unfold cmpR
 rw[<- hU,<- hV]
 by_cases h:sideZ (1*(0+a+1 * -1*b)*d) s (1*n*d)≠t
 ·rw [if_pos h]
  exact fok KRt [false,false,true] [pF (nt_F h1),pF (nt_F h2),pP h3,pT (ne_T h)] (by kernel_rfl)
 ·rw [if_neg h]
  exact fok KRt [false,false,false] [pF (nt_F h1),pF (nt_F h2),pP h3,pF (ne_F h),pP h3] (by kernel_rfl)
theorem rtCmp_no(a b:Rt)(h:(a.right&&b.right)=false):Fok Tryz.prog 24 [rtV a,rtV b] (.one (inV 0 lim)):=by
 cases h1:a.right with
 | false=>exact fok [cRight] [true] [pT (nt_T h1)] (by kernel_rfl)
 | true =>
  rw[h1] at h
  exact fok [cRight] [false,true] [pF (nt_F h1),pT (nt_T h)] (by kernel_rfl)
def cCmp:Con:=cmpC 24 (fun a b _ _ h=>rtCmp_no a b h) rtCmp_z
theorem rtCmpInt_fok(a:Rt)(z:Int):Fok Tryz.prog 17 [rtV a,inV z lim] (.one (inV (cmpRt a ⟨z,0,zero,ofZ 1⟩) lim)):=fok [cCmp,cNOf] [] [] (by kernel_rfl)
def cCmpInt:Con where
 f:=17
 g:=fun | [⟨true,[.i a _,.i s _,.d (.num n),.d (.num d)]⟩,⟨false,[.i z _]⟩]=>some (.one (inV (cmpRt ⟨a,s,n,d⟩ ⟨z,0,zero,ofZ 1⟩) 1),[])|_=>none
 ok:=by
  intro args res ps h hp
  split at h<;>cases h
  rename_i a _ s _ n d z _
  exact ((rtCmpInt_fok ⟨a,s,n,d⟩ z).bd (cmpRt_bd _ _).1).pre fun W=>rvs_1 (fun _ h=>(rt_at h).1) (rvs_1 in_lim fun _ h=>h)
end
end Go.Proofs.YtceemiodpccbhaaGreat
