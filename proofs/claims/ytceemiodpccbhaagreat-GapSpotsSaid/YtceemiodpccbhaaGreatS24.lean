import Derived.Test.YtceemiodpccbhaaGreatS23
import Derived.OrdersIn
import Derived.RangeFuncNested
import Derived.RangeFuncBound
import Derived.RangeFuncCalls
import Derived.RangeFuncLeaves
import Derived.OwnWalkIn
import Derived.TacticsInMore
import Derived.LoopNIn
import Derived.LoopIn
import Derived.Shelf.Abstract
import Derived.Shelf.RegionOpen
set_option linter.unusedVariables false
set_option linter.unusedSimpArgs false

namespace Go.Proofs.YtceemiodpccbhaaGreat

set_option maxRecDepth 100000
section
open Go.RowKit
def d01Right:Con:=nRightC 121 fun a _ _ _ _ w h=>r01_Right a _ _ _ _ w h
def d01Cmp:Con:=nCmpC 122 fun a b _ _ _ _ _ _ _ _ w h1 h2=>r01_Cmp a b _ _ _ _ _ _ _ _ w h1 h2
def d01Of:Con:=nOfC 79 fun z w h1 h2=>r01_Of z w h1 h2
def d01Gcd:Con:=nBinC 124 gcdP (fun _ _=>[]) fun a b _ _ _ _ _ _ _ _ w _ h1 h2=>r01_Gcd a b _ _ _ _ _ _ _ _ w h1 h2
def d01Div:Con:=nDivC 125 fun a b _ _ _ _ _ _ _ _ w h1 h2=>r01_Div a b _ _ _ _ _ _ _ _ w h1 h2
def K2O:List Con:=[d01Right,d01Cmp,d01Of,d01Gcd,d01Div]
theorem neg_iff {a:Nm} (h:a.right=true):a.neg=decide (a.z < 0):=by
 obtain ⟨_,ht,h0⟩:=a.right_iff.1 h
 rw [Bool.eq_iff_iff,decide_eq_true_iff]
 constructor
 ·intro hn
  have hne:a.d ≠ []:=fun e=>by rw [h0 e] at hn;cases hn
  have:=tight_pos ht (List.length_pos_iff.2 hne)
  unfold Nm.z
  rw [hn,if_pos rfl]
  omega
 ·intro hz
  unfold Nm.z at hz
  split at hz
  ·assumption
  ·omega
theorem lz:ofZ 0=zero:=lit_0
theorem cmp0 {a:Nm} (h:a.right=true):cmpP a (ofZ 0)=sgn a.z:=by
 rw [lz]
 exact cmpP_zero h
theorem g01:(gcdP (ofZ 0) (ofZ 1)).1=ofZ 1:=by
 rw [lz,gcdP_right zero_right0 one_right,val_one_ofZ]
 rfl
theorem d01:(divP (ofZ 0) (gcdP (ofZ 0) (ofZ 1)).1).1=zero/\(divP (ofZ 1) (gcdP (ofZ 0) (ofZ 1)).1).1=ofZ 1:=by
 have h1:=divP_nm (a:=zero) (g:=1) zero_right0 small_one (by decide)
 have h2:=divP_nm (a:=ofZ 1) (g:=1) one_right small_one (by decide)
 rw [show ((1:Nat):Int)=1 from rfl] at h1 h2
 rw [g01,lz,h1,h2,zero_z,ofZ_z]
 exact ⟨lz,rfl⟩
theorem len8 {x:Nm} {y:Nm} (h:x=y) (h8:y.d.length<=8):decide ((x.d.length:Int) > 8)=false:=by
 subst h
 simp only [decide_eq_false_iff_not]
 omega
theorem gt8 {l:List Nat} (b:Bool) (h:decide (8 < l.length)=b):decide ((l.length:Int) > 8)=b:=by
 rw [<- h,decide_eq_decide]
 omega
theorem r2Of_fok (add s:Int) (n d:Nm) (dd:Dig d.d):Fok Tryz.prog 72 [inV add lim,inV s lim,nmV n,nmV d] (rtA (ofP add s n d)):=by
 cases h1:decide (s < -1) with
 | true =>
  rw [ofP_bad (by rw [bad_iff,h1];rfl)]
  exact fok K2O [true] [pT h1] (by kernel_rfl)
 | false =>
 cases h2:decide (s > 1) with
 | true =>
  rw [ofP_bad (by rw [bad_iff,h1,h2];rfl)]
  exact fok K2O [false,true] [pF h1,pT h2] (by kernel_rfl)
 | false =>
 cases h3:n.right with
 | false =>
  rw [ofP_bad (by rw [bad_iff,h1,h2,h3];rfl)]
  exact fok K2O [false,false,true] [pF h1,pF h2,pT (nt_T h3)] (by kernel_rfl)
 | true =>
 cases h4:d.right with
 | false =>
  rw [ofP_bad (by rw [bad_iff,h1,h2,h3,h4];rfl)]
  exact fok K2O [false,false,false,true] [pF h1,pF h2,pF (nt_F h3),pT (nt_T h4)] (by kernel_rfl)
 | true =>
 have e5:decide (cmpP n (ofZ 0) < 0)=n.neg:=by
  rw [cmp0 h3,neg_iff h3,decide_eq_decide]
  rcases sgn_cases n.z with ⟨h,g⟩ | ⟨h,g⟩ | ⟨h,g⟩<;>omega
 cases h5:n.neg with
 | true =>
  rw [ofP_bad (by rw [bad_iff,h1,h2,h3,h4,h5];rfl)]
  exact fok K2O [false,false,false,false,true] [pF h1,pF h2,pF (nt_F h3),pF (nt_F h4),pT (e5.trans h5)] (by kernel_rfl)
 | false =>
 have e6:decide (cmpP d (ofZ 0)<=0)=decide (d.z<=0):=by rw [cmp0 h4];exact sgn_le _ rfl
 cases h6:decide (d.z<=0) with
 | true =>
  rw [ofP_bad (by rw [bad_iff,h1,h2,h3,h4,h5,h6];rfl)]
  exact fok K2O [false,false,false,false,false,true] [pF h1,pF h2,pF (nt_F h3),pF (nt_F h4),pF (e5.trans h5),pT (e6.trans h6)] (by kernel_rfl)
 | false =>
 have hb:ofBad s n d=false:=by rw [bad_iff,h1,h2,h3,h4,h5,h6];rfl
 have z1:=len8 d01.1 (Nat.zero_le 8)
 have z2:=len8 d01.2 (by rw [ofZ_one_len];decide)
 cases h7:(s==0) with
 | true =>
  rw [ofP_zero hb (.inl (by simpa using h7)),<- d01.1,<- d01.2]
  exact fok K2O [false,false,false,false,false,false,true,false,false] [pF h1,pF h2,pF (nt_F h3),pF (nt_F h4),pF (e5.trans h5),pF (e6.trans h6),pT h7,pF z1,pF z2] (by kernel_rfl)
 | false =>
 have e8:(cmpP n (ofZ 0)==0)=(n.z==0):=by rw [cmp0 h3];exact sgn_z _ rfl
 cases h8:(n.z==0) with
 | true =>
  rw [ofP_zero hb (.inr (by simpa using h8)),<- d01.1,<- d01.2]
  exact fok K2O [false,false,false,false,false,false,false,true,false,false] [pF h1,pF h2,pF (nt_F h3),pF (nt_F h4),pF (e5.trans h5),pF (e6.trans h6),pF h7,pT (e8.trans h8),pF z1,pF z2] (by kernel_rfl)
 | false =>
 rw [ofP_div dd hb (fun h=>h.elim (fun h=>by rw [h] at h7;cases h7) (fun h=>by rw [h] at h8;cases h8))]
 cases h9:decide (8 < (divP n (gcdP n d).1).1.d.length) with
 | true =>
  rw [if_pos (by have:=of_decide_eq_true h9;omega)]
  exact fok K2O [false,false,false,false,false,false,false,false,true] [pF h1,pF h2,pF (nt_F h3),pF (nt_F h4),pF (e5.trans h5),pF (e6.trans h6),pF h7,pF (e8.trans h8),pT (gt8 _ h9)] (by kernel_rfl)
 | false =>
 cases h10:decide (8 < (divP d (gcdP n d).1).1.d.length) with
 | true =>
  rw [if_pos (by have:=of_decide_eq_true h10;omega)]
  exact fok K2O [false,false,false,false,false,false,false,false,false,true] [pF h1,pF h2,pF (nt_F h3),pF (nt_F h4),pF (e5.trans h5),pF (e6.trans h6),pF h7,pF (e8.trans h8),pF (gt8 _ h9),pT (gt8 _ h10)] (by kernel_rfl)
 | false =>
  rw [if_neg (by have:=of_decide_eq_false h9;have:=of_decide_eq_false h10;omega)]
  exact fok K2O [false,false,false,false,false,false,false,false,false,false] [pF h1,pF h2,pF (nt_F h3),pF (nt_F h4),pF (e5.trans h5),pF (e6.trans h6),pF h7,pF (e8.trans h8),pF (gt8 _ h9),pF (gt8 _ h10)] (by kernel_rfl)
def d02Of:Con:=ofC 72 r2Of_fok
theorem sameB_right {x y:Nm} (dx:Dig x.d) (dy:Dig y.d) (rx:x.right=true) (ry:y.right=true) (h:sameB x y=true):x=y:=by
 unfold sameB at h
 simp only [Bool.and_eq_true,beq_iff_eq] at h
 have tx:=(x.right_iff.1 rx).2.1
 have ty:=(y.right_iff.1 ry).2.1
 rw [cmpL_tight dx dy tx ty] at h
 have hv:val x.d=val y.d:=by
  have:=h.2
  unfold cmpN at this
  split at this
  ·cases this
  ·split at this
   ·assumption
   ·cases this
 cases x;cases y
 simp only at *
 rw [<- digs_val dx tx,<- digs_val dy ty,hv,h.1]
def sameR (a b:Rt):Bool:=a.add==b.add&&(a.s==b.s&&(sameB a.n b.n&&sameB a.d b.d))
theorem sameR_self (a:Rt):sameR a a=true:=by simp [sameR,sameB_self]
theorem right_same {a:Rt} (da:Dig a.n.d/\Dig a.d.d) {b:Rt} {ok:Bool} (h:ofP a.add a.s a.n a.d=(b,ok)):(ok&&sameR a b)=a.right:=by
 cases hr:a.right with
 | true =>
  obtain ⟨_,h2⟩:=right_ok da.1 da.2 hr
  rw [h] at h2
  simp only [Prod.mk.injEq] at h2
  obtain ⟨rfl,rfl⟩:=h2
  rw [sameR_self]
  rfl
 | false =>
  cases ok with
  | false=>rfl
  | true =>
   obtain ⟨kb,hb,ha⟩:=ofP_ok da.1 da.2 h
   cases hs:sameR a b with
   | false=>rfl
   | true =>
    exfalso
    have hbad:ofBad a.s a.n a.d=false:=by
     cases hq:ofBad a.s a.n a.d with
     | false=>rfl
     | true=>unfold ofP at h;rw [hq] at h;simp at h
    obtain ⟨_,_,rn,rd,_,_⟩:=ofBad_false hbad
    unfold sameR at hs
    simp only [Bool.and_eq_true,beq_iff_eq] at hs
    obtain ⟨_,h2,h3,h4⟩:=hs
    have cm:∀ {x y:Nm},Dig x.d->Dig y.d->x.right=true->y.right=true->sameB x y=true->cmpP x y=0:=fun dx dy rx ry hh=>by
     rw [sameB_right dx dy rx ry hh];exact cmpP_self ry
    have form:Dig b.n.d/\Dig b.d.d:=by
     have hb2:=h
     unfold ofP at hb2
     rw [hbad,if_neg (by simp)] at hb2
     split at hb2
     ·obtain rfl : (⟨a.add, 0, zero, ofZ 1⟩ : Rt) = b := congrArg Prod.fst hb2
      exact ⟨Dig.nil,dig_digs _⟩
     ·split at hb2
      ·simp at hb2
      ·obtain rfl := congrArg Prod.fst hb2
       exact ⟨dig_digs _,dig_digs _⟩
    have:a.right=true:=by
     unfold Rt.right
     rw [h]
     simp [h2,cm da.1 form.1 rn kb.nr h3,cm da.2 form.2 rd kb.dr h4]
    rw [hr] at this
    cases this
def d01Same:Con where
 f:=126
 g:=fun | [⟨true,[.d (.num a)]⟩,⟨true,[.d (.num b)]⟩]=>some (.one (blV (sameB a b)),[]) | _=>none
 ok:=by
  intro args res ps h _
  split at h<;>cases h
  intro W vals hv
  simp only [rvs_cons,rvs_nil,rv_t,rl_num,rl_nil] at hv
  obtain ⟨_,⟨_,⟨n,p,l,c,h1,_,rfl,rfl⟩,rfl⟩,_,rfl,_,⟨_,⟨m,q,k,d,h2,_,rfl,rfl⟩,rfl⟩,_,rfl,rfl⟩:=hv
  exact (r01_Same _ _ _ _ _ _ _ _ _ _ W h1 h2).mono fun _ _ h=>gv_bl h
theorem dsame_ok (a b:Rt):Fok Tryz.prog 73 [rtV a,rtV b] (.one (blV (sameR a b))):=by
 unfold sameR
 cases h1:(a.add==b.add) with
 | false=>exact fok [d01Same] [false] [pF h1] (by kernel_rfl)
 | true =>
  cases h2:(a.s==b.s) with
  | false=>exact fok [d01Same] [true,false] [pT h1,pF h2] (by kernel_rfl)
  | true =>
   cases h3:sameB a.n b.n with
   | false=>exact fok [d01Same] [true,true,false] [pT h1,pT h2,pF h3] (by kernel_rfl)
   | true=>exact fok [d01Same] [true,true,true] [pT h1,pT h2,pT h3] (by kernel_rfl)
def d02Same:Con where
 f:=73
 g:=fun | [⟨true,[.i a _,.i s _,.d (.num n),.d (.num d)]⟩,⟨true,[.i b _,.i t _,.d (.num m),.d (.num e)]⟩]=>some (.one (blV (sameR ⟨a,s,n,d⟩ ⟨b,t,m,e⟩)),[]) | _=>none
 ok:=by
  intro args res ps h hp
  split at h<;>cases h
  rename_i a A s S n d b B t T m e
  exact (dsame_ok ⟨a,s,n,d⟩ ⟨b,t,m,e⟩).pre fun W=>rvs_1 (fun _ h=>(rt_at h).1) (rvs_1 (fun _ h=>(rt_at h).1) fun _ h=>h)
theorem r2Right_fok (a:Rt) (da:Dig a.n.d/\Dig a.d.d):Fok Tryz.prog 30 [rtV a] (.one (blV a.right)):=by
 rw [<- right_same da (b:=(ofP a.add a.s a.n a.d).1) (ok:=(ofP a.add a.s a.n a.d).2) rfl]
 cases h1:(ofP a.add a.s a.n a.d).2 with
 | false=>exact fok [d02Of,d02Same] [false] [pF h1] (by kernel_rfl)
 | true=>exact fok [d02Of,d02Same] [true] [pT h1] (by kernel_rfl)
def d02Right:Con:=rightC 30 r2Right_fok
end

section
open Go.RowKit
def IsN (w0 W:World) (x:Nm) (v:Value) (w':World):Prop:=∃ n p l c,v=.agg #[.bool n,.slice p l c]/\NR w' n p l c x/\New w0 p/\Ext W w'
theorem RetN.isN {w0 W:World} {x:Nm} {e:Ending} {w':World} (hz:w0.heap.size<=W.heap.size) (h:RetN W x e w'):∃ v,e=.returned v/\IsN w0 W x v w':=by
 obtain ⟨n,p,l,c,rfl,h1,h2,h3⟩:=h
 exact ⟨_,rfl,n,p,l,c,rfl,h1,h2.mono hz,h3⟩
theorem F_num {P:Program} {ops:Array Oper} {S:World->Prop} {Q:Act->World->Prop} {o:Oper} {l:List Oper} {a:Act} {own:List Nat} {F:World->Prop} (w0:World) (x:Nm) (hk:fkind o=2) (hw:Region.wanted o (yielded ops a.tmps)=true)
  (hg:∀ w,F w->Gives P o a w (IsN w0 w x))
  (h:∀ n p l' c,New w0 p->WpF P ops S Q l (a.put o.dst (.agg #[.bool n,.slice p l' c])) own (fun w=>F w/\NR w n p l' c x)):WpF P ops S Q (o::l) a own F :=
 F_callN w0 x hk hw hg h
end

set_option maxHeartbeats 2000000
set_option maxRecDepth 100000
section
open Go.RowKit
attribute [local go_sem] Gives givesU
theorem subP_small {x y:Int} (hx:small x=true) (hy:small y=true) (hs:small (x - y)=true):subP (ofZ x) (ofZ y)=(ofZ (x - y),true):=by
 unfold subP fit
 rw [ofZ_right hx,ofZ_right hy,ofZ_z,ofZ_z,hs]
 rfl
theorem mulP_small' {x y:Int} (hx:small x=true) (hy:small y=true) (hs:small (x*y)=true):mulP (ofZ x) (ofZ y)=(ofZ (x*y),true) :=
 mulP_small (ofZ_right hx) (ofZ_right hy) (by rw [ofZ_z,ofZ_z]) hs
theorem meet_of (n:Int) (w:World) (h : -9223372036854775808<=n/\n<=9223372036854775807) :
  Calls Tryz.prog 195 #[.int .i64 n] w (RetN w (ofZ n)):=by
 go_enter Tryz.func195,Tryz.ntmps195
 go_wp2_with fail
 refine (num_Of n _ h.1 h.2).mono ?_
 rintro e w1 ⟨n1,p1,l1,c1,rfl,hnr,hnew,hx⟩
 have hx0:Ext w w1:=Ext.step bxx hx
 have hz_w1:w.heap.size+1<=w1.heap.size:=Nat.le_trans omm hx.size
 obtain ⟨hl_w1_0,hk_w1_0,hf_w1_0⟩:=extK hx (w.heap.size)
 go_wp2_with fail
 refine bodyPost_ret (v:=.agg #[.bool n1,.slice p1 l1 c1]) (by simp [results,Tryz.results195,go_sem, *]) rfl ?_
 exact ⟨n1,p1,l1,c1,rfl,(by repeat (first | assumption | refine NR.set ?_ (by assumption) _ (by first | (simp;done) | (simp;omega) | omega) _ | refine NR.alloc ?_ _)),hnew.mono (by simp),bxx⟩
theorem meet_mul (x y:Int) (na nb:Bool) (pa pb:Option Addr) (la ca lb cb:Nat) (w:World) (ha:NR w na pa la ca (ofZ x)) (hb:NR w nb pb lb cb (ofZ y)) (hx:small x=true) (hy:small y=true) (z:Int) (hz:x*y=z) (hs:small z=true) :
  Calls Tryz.prog 197 #[.agg #[.bool na,.slice pa la ca],.agg #[.bool nb,.slice pb lb cb]] w (RetN w (ofZ z)):=by
 subst hz
 have MP:=Lib.hid (mulP_small' hx hy hs)
 clear hx hy hs
 go_enter Tryz.func197,Tryz.ntmps197
 go_wp2_with fail
 refine (num_Mul (ofZ x) (ofZ y) _ _ _ _ _ _ _ _ _ (ha.ext bxx) (hb.ext bxx)).mono ?_
 rintro e w1 ⟨n1,p1,l1,c1,rfl,hnr,hnew,hx⟩
 rw [MP.out] at hnr ⊢
 have hx0:Ext w w1:=Ext.step bxx hx
 have hz_w1:w.heap.size+3<=w1.heap.size:=Nat.le_trans omm hx.size
 obtain ⟨hl_w1_0,hk_w1_0,hf_w1_0⟩:=extK hx (w.heap.size)
 obtain ⟨hl_w1_1,hk_w1_1,hf_w1_1⟩:=extK hx (w.heap.size+1)
 obtain ⟨hl_w1_2,hk_w1_2,hf_w1_2⟩:=extK hx (w.heap.size+2)
 go_wp2_with fail
 refine bodyPost_ret (v:=.agg #[.bool n1,.slice p1 l1 c1]) (by simp [results,Tryz.results197,go_sem, *]) rfl ?_
 exact ⟨n1,p1,l1,c1,rfl,(by repeat (first | assumption | refine NR.set ?_ (by assumption) _ (by first | (simp;done) | (simp;omega) | omega) _ | refine NR.alloc ?_ _)),hnew.mono (by simp;omega),bxx⟩
end

section
open Go.RowKit
def noDeferB (ops:Array Oper):Bool:=ops.toList.all fun o=>match o.op with | .defer _=>false | _=>true
section
variable {P:Program} {ops:Array Oper} {S:World->Prop}
theorem noDefer_spec (h:noDeferB ops=true) {i:Nat} {o:Oper} (ho:ops[i]? = some o):∀ c,o.op ≠ .defer c:=by
 intro c e
 have hm:o ∈ ops.toList:=by
  obtain ⟨hlt,rfl⟩:=Array.getElem?_eq_some_iff.1 ho
  simp
 have:=List.all_eq_true.1 h o hm
 simp [e] at this
theorem Gives.wpIn {o:Oper} {a:Act} {w:World} {R:Value->World->Prop} {K:Act->World->Prop} {Q:Exit->Act->World->Prop} {r m:Nat}
  (h:Gives P o a w R) (hnd:∀ c,o.op ≠ .defer c) (hk:∀ v w',R v w'->K (a.put o.dst v) w'):o.wpIn (Fence.wide.inRound r) m P a w K Q:=by
 refine ⟨fun _ _=>trivial,?_⟩
 rw [Oper.semAt_eq _ _ _ hnd]
 unfold Gives at h
 generalize (execOp a.eval o).run P w=x at *
 cases x with
 | ok n w' =>
  cases n<;>simp only [givesU] at h<;>simp only [Oper.uponIn]
  case value u=>exact hk _ _ h
  case skip=>exact hk _ _ h
  case enter f args =>
   refine ⟨fun hd=>by simp [Fence.wide] at hd,?_⟩
   exact (CallsIn.inRound r (callsIn_wide.2 h)).mono fun e w'' ⟨v,he,hr⟩=>by subst he;exact hk _ _ hr
 | halt x w'=>simp only [givesU] at h
theorem wpAnyIn_of_F {Q:Exit->Act->World->Prop} {r m:Nat} (hB:floatB ops=true) (hD:noDeferB ops=true):∀ (n:Nat) (zs:List (Nat × Oper)) (listed:Array Bool) (a:Act) (own:List Nat) (F:World->Prop) (w:World),zs.length=n->LeftF ops listed zs->Closed ops listed ->
  InvF S own F->F w->WpF P ops S (fun a w=>Q .normal a w) (zs.map (·.2)) a own F->wpAnyIn (Fence.wide.inRound r) m P .any ops Q n listed a w:=by
 have hB':=hB
 simp only [floatB,Bool.and_eq_true,List.all_eq_true,List.mem_range,decide_eq_true_eq] at hB'
 obtain ⟨hsel,hall⟩:=hB'
 intro n
 induction n with
 | zero =>
  intro zs listed a own F w hn hl hc hi hw h
  have:zs=[]:=List.eq_nil_of_length_eq_zero hn
  subst this
  refine ⟨?_,h w hw⟩
  rw [List.eq_nil_iff_forall_not_mem]
  intro i hr
  have h1:=mem_ready.1 hr
  obtain ⟨hu,o,ho,_⟩:=h1
  have:=(hl.mem i (Array.getElem?_eq_some_iff.1 ho).1).1 hu
  simp at this
 | succ n ih =>
  intro zs listed a own F w hn hl hc hi hw h
  have hget (i:Nat) (hlt:i < ops.size) (hu:¬ listed.getD i true=false):listed.getD i false=true:=by
   have hlt':i < listed.size:=by rw [hl.size];exact hlt
   simp [hlt'] at hu ⊢
   exact hu
  refine ⟨fun h0=>?_,fun i hr=>?_⟩
  ·exfalso
   obtain ⟨⟨i,o⟩,rest,rfl⟩:∃ z rest,zs=z::rest:=by
    cases zs with
    | nil=>simp at hn
    | cons z rest=>exact ⟨z,rest,rfl⟩
   have ho:=hl.here (i,o) (by simp)
   have hlt:i < ops.size:=(Array.getElem?_eq_some_iff.1 ho).1
   have hr:i ∈ Region.ready .any ops listed:=by
    refine mem_ready.2 ⟨(hl.mem i hlt).2 (by simp),o,ho,fun e he hb=>?_⟩
    have hd:e.on ∈ depsOf ops i:=(mem_depsOf ho).2 ⟨e,he,hb,rfl⟩
    have hei:=(hall i hlt).1 _ hd
    refine hget _ (by omega) fun hu=>?_
    have hm:=(hl.mem e.on (by omega)).1 hu
    simp only [List.map_cons,List.mem_cons] at hm
    rcases hm with hm | hm
    ·omega
    ·obtain ⟨p, hp, he'⟩ := List.mem_map.1 hm
     have:=(List.pairwise_cons.1 hl.sorted).1 p hp
     simp at this
     omega
   rw [h0] at hr
   cases hr
  ·obtain ⟨hu, o, ho, _⟩ := mem_ready.1 hr
   have hlt:i < ops.size:=(Array.getElem?_eq_some_iff.1 ho).1
   have hm:=(hl.mem i hlt).1 hu
   obtain ⟨⟨i',o'⟩,hp,hei⟩:=List.mem_map.1 hm
   simp only at hei
   subst hei
   have ho':=hl.here _ hp
   simp only at ho'
   rw [ho] at ho'
   simp only [Option.some.injEq] at ho'
   subst ho'
   obtain ⟨pre,post,rfl⟩:=List.append_of_mem hp
   have hpre:∀ k ∈ pre.map (·.2),Apart ops k o/\Before k o:=by
    intro k hk
    obtain ⟨⟨j,k'⟩,hj,rfl⟩:=List.mem_map.1 hk
    have hji:j < i':=((List.pairwise_append.1 hl.sorted).2.2) _ hj (i',o) (List.mem_cons_self ..)
    have hjk:=hl.here (j,k') (by simp [hj])
    simp only at hjk
    have hju:listed.getD j true=false:=(hl.mem j (by omega)).2 (by simp only [List.map_append,List.mem_append,List.mem_map];exact .inl ⟨_,hj,rfl⟩)
    have hno (f:Nat):reach ops f i' j=false:=by
     cases hx:reach ops f i' j with
     | false=>rfl
     | true =>
      have h1:=reach_listed hc f i' j (ready_deps hr) hx
      have hlt':j < listed.size:=by rw [hl.size];omega
      simp [hlt'] at h1 hju
      rw [h1] at hju
      cases hju
    have hpair:=(hall i' hlt).2 j hji
    simp only [pairB,ho,hjk,hno,Bool.or_false,Bool.false_or,Bool.and_eq_true] at hpair
    obtain ⟨hbe,hap⟩:=hpair
    obtain ⟨a1,a2,a3⟩:=Oper.apart_spec hap
    refine ⟨⟨a1,a3,a2,fun cs b=>Region.noSelect_spec hsel j k' cs b hjk,fun cs b=>Region.noSelect_spec hsel i' o cs b ho⟩,?_⟩
    simp only [beforeB,Bool.or_eq_true,beq_iff_eq,Bool.and_eq_true,bne_iff_ne] at hbe
    rcases hbe with (hbe | hbe) | hbe
    ·exact .inl hbe
    ·exact .inr (.inl hbe)
    ·exact .inr (.inr hbe)
   have hst:=pull (post:=post.map (·.2)) hpre hi (by simpa using h)
   have hlen:(pre++post).length=n:=by simp at hn ⊢;omega
   have next {a':Act} {own':List Nat} {F':World->Prop} {w':World} (hi':InvF S own' F') (hw':F' w') (h':WpF P ops S (fun a w=>Q .normal a w) (pre.map (·.2)++post.map (·.2)) a' own' F'):wpAnyIn (Fence.wide.inRound r) m P .any ops Q n (listed.setIfInBounds i' true) a' w' :=
    ih (pre++post) _ a' own' F' w' hlen hl.take (hc.set hr) hi' hw' (by simpa using h')
   have hnd:∀ c,o.op ≠ .defer c:=noDefer_spec hD ho
   cases hst with
   | pure v hy h =>
    unfold wpOpIn
    simp only [ho]
    rcases hy with ⟨hwant,hv⟩ | ⟨hwant,rfl⟩
    ·rw [if_pos hwant]
     refine ⟨fun _ _=>trivial,?_⟩
     rw [Oper.semAt_eq _ _ _ hnd,hv w (hi.held w hw)]
     exact next hi hw h
    ·rw [if_neg (by rw [hwant]; exact Bool.false_ne_true)]
     exact ⟨fun _ _=>trivial,next hi hw h⟩
   | flo hk hwant obj hrun h =>
    unfold wpOpIn
    simp only [ho,hwant,if_true]
    refine ⟨fun _ _=>trivial,?_⟩
    rw [Oper.semAt_eq _ _ _ hnd,hrun w (hi.held w hw)]
    have hs:∃ w':World,F w'/\w'.heap[w.heap.size]? = some obj:=⟨{ w with heap:=w.heap.push obj },hi.mono _ _ hw (below_push w obj),by simp⟩
    exact next (hi.flo obj _ hs) ⟨hi.mono _ _ hw (below_push w obj),by simp⟩ (h _ (fun hx=>Nat.lt_irrefl _ (hi.own w hw _ hx)) hs)
   | eff hk hwant I sh T hm' hg h =>
    unfold wpOpIn
    simp only [ho,hwant,if_true]
    refine (hg w hw).wpIn hnd ?_
    rintro v w' ⟨t,rfl,hb,ht⟩
    have hs:∃ w,F w/\T t w:=⟨w',hi.mono _ _ hw hb,ht⟩
    exact next (hi.eff (hm' t) hs) ⟨hi.mono _ _ hw hb,ht⟩ (h t hs)
   | sto hk hwant I sh T hm' hs hg h =>
    unfold wpOpIn
    simp only [ho,hwant,if_true]
    refine (hg w hw).wpIn hnd ?_
    rintro v w' ⟨t,rfl,hb,ht⟩
    have hx:T t w'/\∀ g ∈ own,g < w'.heap.size:=⟨ht,fun g hg=>Nat.lt_of_lt_of_le (hi.own w hw g hg) hb⟩
    exact next (InvF.sto (hm' t) (hs t) ⟨w',hx⟩) hx (h t ⟨w',hx⟩)
   | mu hk hwant B hB I sh T hm' hs hg h =>
    unfold wpOpIn
    simp only [ho,hwant,if_true]
    refine (hg w hw).wpIn hnd ?_
    rintro v w' ⟨t,rfl,hb,ht⟩
    have hx:T t w'/\∀ g ∈ own,g < w'.heap.size:=⟨ht,fun g hg=>Nat.lt_of_lt_of_le (hi.own w hw g hg) hb.1⟩
    exact next (InvF.sto (hm' t) (hs t) ⟨w',hx⟩) hx (h t ⟨w',hx⟩)
end
theorem wpIn_region_FC {P:Program} {id r m:Nat} {l:List Oper} {Q:Exit->Act->World->Prop} {a:Act} {w:World} (C:World->Prop) (hm:P.follows .mixedOrders=true) (hB:floatB l.toArray=true) (hD:noDeferB l.toArray=true) (hC:C w)
  (hmono:∀ W W',C W->Below w.heap.size w W->Below W.heap.size W W'->C W')
  (h:WpF P l.toArray (fun W=>Below w.heap.size w W/\C W) (fun a w=>Q .normal a w) l a (List.range w.heap.size) (fun W=>Below w.heap.size w W/\C W)):(Code.region id l.toArray true).wpIn (Fence.wide.inRound r) m P Q a w:=by
 refine wpIn_region_any hm ?_
 have hd:Below w.heap.size w { w with drawn:=w.drawn+1 }:=⟨rfl,rfl,rfl,Nat.le_refl _,fun _ _=>rfl⟩
 have hmono':FMono (fun W=>Below w.heap.size w W/\C W):=fun W W' h hb=>⟨h.1.trans (hb.mono h.1.size),hmono W W' h.2 h.1 hb⟩
 have hlen:(l.zipIdx.map fun p=>(p.2,p.1)).length=l.toArray.size:=by simp
 have hw0:=hmono' w _ ⟨Below.refl _ _,hC⟩ hd
 refine wpAnyIn_of_F (S:=fun W=>Below w.heap.size w W/\C W) hB hD _ (l.zipIdx.map fun p=>(p.2,p.1)) _ a (List.range w.heap.size) _ _ hlen ⟨by simp,?_,?_,?_⟩ ?_ ⟨hmono',fun _ h=>h,fun W h g hg=>Nat.lt_of_lt_of_le (List.mem_range.1 hg) h.1.size,⟨_,hw0⟩⟩ hw0 ?_
 ·intro p hp
  obtain ⟨⟨o,i⟩,hx,rfl⟩:=List.mem_map.1 hp
  have:=List.mem_zipIdx' hx
  simp [this.1,this.2]
 ·intro i hi
  have hi':i < l.length:=by simpa using hi
  simp only [List.map_map]
  constructor
  ·intro _
   refine List.mem_map.2 ⟨(l[i],i),?_,rfl⟩
   rw [List.mem_zipIdx_iff_getElem?]
   simp [hi']
  ·intro _
   simp [hi']
 ·rw [List.pairwise_map, List.pairwise_iff_getElem]
  intro i j hi hj hij
  simpa using hij
 ·intro j hj
  rcases Nat.lt_or_ge j l.length with h' | h'<;>simp [h'] at hj
 ·have : (l.zipIdx.map fun p => (p.2, p.1)).map (·.2) = l := by simp [List.map_map, Function.comp_def, List.zipIdx_map_fst]
  rw [this]
  exact h
end

set_option maxHeartbeats 8000000
set_option maxRecDepth 100000
section
open Go.RowKit Go.Shelf
attribute [local go_sem] Oper.semAt_some
attribute [local go_sem] Gives givesU
abbrev Sgn:={ x:Int // -1<=x/\x<=1 }
def sP:Sgn:=⟨1,by omega⟩
def sM:Sgn:=⟨-1,by omega⟩
def signL (neg:Bool) (l:Nat):List Sgn:=if neg then [] else if l=0 then [sP] else [sP,sM]
def KB (B:Nat) (W W':World):Prop:=∀ o,W'.cell? ⟨B,o,none⟩=W.cell? ⟨B,o,none⟩
theorem signs_stops (n:Nat) (hn:1<=n) (Bc l cp:Nat) (neg:Bool) (p:Option Addr) (w:World) (hB:Bc < w.heap.size) (c0:w.cell? ⟨Bc,0,none⟩=some (.bool neg)) (c1:w.cell? ⟨Bc,1,none⟩=some (.slice p l cp)) (hl:l<=9223372036854775807) :
  SeqStopsK Fence.wide n Tryz.prog 250 #[.pointer (some ⟨Bc,0,none⟩)] (fun x:Sgn=>#[.int .i64 x.1]) (KB Bc) (fun xs=>xs=signL neg l) (fun pre=>pre=[sP]\/pre=[sP,sM]) (if neg then 0 else 2) w:=fun L J Jx W hW _ _ hY h0=>by
 have k0:W.cell? ⟨Bc,0,none⟩=some (.bool neg):=(hW.cell (p:=⟨Bc,0,none⟩) hB).trans c0
 have k1:W.cell? ⟨Bc,1,none⟩=some (.slice p l cp):=(hW.cell (p:=⟨Bc,1,none⟩) hB).trans c1
 clear c0 c1
 refine callsIn_of_wp Tryz.func250 rfl trivial ?_ rfl
 simp only [Tryz.ntmps250,List.size_toArray,List.length_cons,List.length_nil,Nat.reduceAdd,Nat.reduceSub,Array.replicate_succ,Array.replicate_zero,List.push_toArray,List.append_toArray,List.nil_append,List.cons_append]
 cases neg with
 | true =>
  gi_wp2
  refine ⟨fun _ h=>(by cases h),?_⟩
  gi_wp2
  refine bodyPost_ret (results_none rfl _ _ _) rfl ?_
  exact ⟨⟨_,rfl⟩,.inl ⟨[],rfl,h0⟩⟩
 | false =>
  obtain ⟨f1,t1,a1,b1,hy1,hR1⟩:=hY [] sP W h0 (by simp)
  dsimp only [sP] at hy1
  gi_wp2
  refine hR1.mono ?_
  rintro e W1 (⟨rfl,hJ1,hk⟩ | ⟨rfl,hx1⟩)
  ·have m1 : W1.cell? ⟨Bc, 1, none⟩ = some (.slice p l cp) := (hk 1).trans k1
   have hJ1':=Lib.hid hJ1
   by_cases hl0:l=0
   ·have lb : ((l : Int) == 0) = true := by simp [hl0]
    have S1:Hid ([sP]=signL false l):=by show [sP]=_;simp [signL,hl0]
    clear hl0
    gi_wp2
    refine bodyPost_ret (results_none rfl _ _ _) rfl ?_
    exact ⟨⟨_,rfl⟩,.inl ⟨[sP],S1.out,hJ1'.out⟩⟩
   ·have lb : ((l : Int) == 0) = false := by simp [hl0]
    have S1:Hid ([sP,sM]=signL false l):=by show [sP,sM]=_;simp [signL,hl0]
    clear hl0
    obtain ⟨f2,t2,a2,b2,hy2,hR2⟩:=hY [sP] sM W1 hJ1 (by simp)
    dsimp only [sM] at hy2
    gi_wp2
    refine hR2.mono ?_
    rintro e W2 (⟨rfl,hJ2,hk2⟩ | ⟨rfl,hx2⟩)
    ·gi_wp2
     go_end0
     exact ⟨⟨_,rfl⟩,.inl ⟨[sP,sM],S1.out,hJ2⟩⟩
    ·gi_wp2
     go_end0
     exact ⟨⟨_,rfl⟩,.inr ⟨[sP,sM],.inr rfl,hx2⟩⟩
  ·gi_wp2
   refine bodyPost_ret (results_none rfl _ _ _) rfl ?_
   exact ⟨⟨_,rfl⟩,.inr ⟨[sP],.inl rfl,hx1⟩⟩
theorem meet_signs (n:Bool) (p:Option Addr) (l c:Nat) (w:World) :
  Calls Tryz.prog 241 #[.agg #[.bool n,.slice p l c]] w fun e w'=>e=.returned (.func (.func 250) #[] #[.pointer (some ⟨w.heap.size,0,none⟩)])/\Ext w w'/\w'.cell? ⟨w.heap.size,0,none⟩=some (.bool n)/\w'.cell? ⟨w.heap.size,1,none⟩=some (.slice p l c)/\w.heap.size < w'.heap.size:=by
 go_enter Tryz.func241,Tryz.ntmps241
 go_wp2
 go_ret
 exact ⟨rfl,bxx,by go_simp,by go_simp,by simp⟩
def SR (w:World) (g c:Nat) (l:List (Int × Int)):Prop :=
 l.length<=c/\c<=9223372036854775807/\g < w.heap.size/\∀ i x y,l[i]? = some (x,y)->∃ n1 p1 l1 c1 n2 p2 l2 c2,w.cell? ⟨g,i*4,none⟩=some (.bool n1)/\w.cell? ⟨g,i*4+1,none⟩=some (.slice p1 l1 c1)/\w.cell? ⟨g,i*4+2,none⟩=some (.bool n2)/\w.cell? ⟨g,i*4+3,none⟩=some (.slice p2 l2 c2)/\NR w n1 p1 l1 c1 (ofZ x)/\NR w n2 p2 l2 c2 (ofZ y)
theorem SR.ext {w w':World} {g c:Nat} {l:List (Int × Int)} (h:SR w g c l) (hx:Ext w w'):SR w' g c l:=by
 obtain ⟨h1,h2,h3,h4⟩:=h
 refine ⟨h1,h2,Nat.lt_of_lt_of_le h3 hx.size,fun i x y hi=>?_⟩
 obtain ⟨n1,p1,l1,c1,n2,p2,l2,c2,e0,e1,e2,e3,e4,e5⟩:=h4 i x y hi
 have k:=fun o=>hx.cell (p:=⟨g,o,none⟩) h3
 exact ⟨n1,p1,l1,c1,n2,p2,l2,c2,(k _).trans e0,(k _).trans e1,(k _).trans e2,(k _).trans e3,e4.ext hx,e5.ext hx⟩
def goodS (d s:Int) (l:List (Int × Int)):Bool:=l.all fun p=>decide (0<=sideZ p.1 (s*p.2) d)
def countL (d:Int) (l:List (Int × Int)) (ss:List Sgn):Int:=(ss.filter fun s=>goodS d s.1 l).length
def countZ (d:Int) (l:List (Int × Int)):Int:=countL d l (signL (decide (d < 0)) (digs d.natAbs).length)
def Gd (x:Int):Prop:=x.natAbs < 4294967296 ^ 20
theorem goodS_take {d s:Int} {l:List (Int × Int)} {k:Nat} {x y:Int} (h:l[k]? = some (x,y)):goodS d s (l.take (k+1))=(goodS d s (l.take k)&&decide (0<=sideZ x (s*y) d)):=by
 have hk:=(List.getElem?_eq_some_iff.1 h).1
 rw [List.take_succ_eq_append_getElem hk]
 rw [List.getElem?_eq_getElem hk] at h
 simp only [Option.some.injEq] at h
 simp [goodS,h]
theorem countL_snoc (d:Int) (l:List (Int × Int)) (ss:List Sgn) (s:Sgn):countL d l (ss++[s])=countL d l ss+if goodS d s.1 l then 1 else 0:=by
 unfold countL
 rw [List.filter_append]
 cases h:goodS d s.1 l<;>simp [h]
theorem countL_bd (d:Int) (l:List (Int × Int)) (ss:List Sgn):0<=countL d l ss/\countL d l ss<=ss.length:=by
 unfold countL
 have:=List.length_filter_le (fun s:Sgn=>goodS d s.1 l) ss
 omega
theorem Gd.small {x:Int} (h:Gd x):small x=true:=small_of_lt h (by omega)
theorem Gd.good {x:Int} (h:Gd x):goodB (ofZ x)=true:=by
 unfold goodB
 rw [ofZ_right h.small]
 have:=(digs_length_le x.natAbs 20).2 h
 exact decide_eq_true this
theorem Gd.sgn {x:Int} (h:Gd x) (s:Sgn):Gd (s.1*x):=by
 obtain ⟨s,h1,h2⟩:=s
 unfold Gd at *
 obtain rfl | rfl | rfl:s = -1\/s=0\/s=1:=by omega
 ·simpa using h
 ·simp
 ·simpa using h
theorem signP_ofZ {x y d:Int} (hx:Gd x) (hy:Gd y) (hd:Gd d) (h0:0<=d):signP (ofZ x) (ofZ y) (ofZ d)=sideZ x y d:=by
 unfold signP
 rw [hx.good,hy.good,hd.good,ofZ_z,ofZ_z,ofZ_z]
 have:(ofZ d).neg=false:=by simp [ofZ];omega
 simp [this]
theorem KeepsOthers.of_ext {W W':World} (h:Ext W W'):KeepsOthers W W':=⟨h.size,fun k o hk _=>(h.block k (Array.getElem?_eq_some_iff.1 hk).1).trans hk⟩
theorem meet_count (d:Int) (l:List (Int × Int)) (n:Bool) (p:Option Addr) (ln c g cp:Nat) (w:World) (hd:NR w n p ln c (ofZ d)) (hl:SR w g cp l) (hG:Gd d) (hGl:∀ (i:Nat) (x y:Int),l[i]? = some (x,y)->Gd x/\Gd y) (hlen:l.length<=1000) :
  Calls Tryz.prog 199 #[.agg #[.bool n,.slice p ln c],.slice (some ⟨g,0,none⟩) l.length cp] w fun e w'=>e=.returned (.int .i64 (countZ d l))/\Ext w w':=by
 have hln:ln<=9223372036854775807:=by
  have:=hd.2.1;have:=hd.2.2.le;have:=hd.2.2.max;omega
 have hnn:n=decide (d < 0):=hd.1
 have hlz:ln=(digs d.natAbs).length:=hd.2.1
 have RES:Hid (countZ d l=countL d l (signL n ln)):=by show countZ d l=_;rw [countZ,hnn,hlz]
 have ND:Hid (n=decide (d < 0)):=hnn
 clear hnn hlz
 have HGL:=Lib.hid hGl
 clear hGl
 refine (callsIn_wide (n:=6)).1 ?_
 refine callsIn_of_wp_marks Tryz.func199 rfl trivial ?_ rfl
 simp only [Tryz.ntmps199,List.size_toArray,List.length_cons,List.length_nil,Nat.reduceAdd,Nat.reduceSub,Array.replicate_succ,Array.replicate_zero,List.push_toArray,List.append_toArray,List.nil_append,List.cons_append]
 gi_wp2
 refine ⟨trivial,(callsIn_wide.2 (meet_signs n p ln c _)).mono ?_⟩
 rintro e w1 ⟨rfl,hx,b0,b1,hb⟩
 have hx0:Ext w w1:=Ext.step bxx hx
 have hs0:=hx.size
 simp at hs0 b0 b1 hb
 have e0:w1.cell? ⟨w.heap.size,0,none⟩=some (.bool n):=(hx.cell (p:=⟨w.heap.size,0,none⟩) (by simp;omega)).trans (by go_simp)
 have e1:w1.cell? ⟨w.heap.size,1,none⟩=some (.slice p ln c):=(hx.cell (p:=⟨w.heap.size,1,none⟩) (by simp;omega)).trans (by go_simp)
 have e2:w1.cell? ⟨w.heap.size+1,0,none⟩=some (.slice (some ⟨g,0,none⟩) l.length cp):=(hx.cell (p:=⟨w.heap.size+1,0,none⟩) (by simp)).trans (by go_simp)
 have e3:w1.cell? ⟨w.heap.size+1+1,0,none⟩=some (.int .i64 0):=(hx.cell (p:=⟨w.heap.size+1+1,0,none⟩) (by simp)).trans (by go_simp)
 have e4:w1.frozen? ⟨w.heap.size+1+1,0,none⟩=false:=(hx.frozen (p:=⟨w.heap.size+1+1,0,none⟩) (by simp)).trans (by go_simp)
 clear hx
 gi_wp2
 refine wpIn_rangeFunc_ownF rfl (by omega) (gf:=250) (lb:=#[.pointer (some ⟨w.heap.size+1+1+1,0,none⟩)]) rfl trivial (enters_of Tryz.func250 (by kernel_rfl) rfl)
  (signs_stops 5 (by omega) (w.heap.size+1+1+1) ln c n p w1 hb b0 b1 hln) (fun h k o=>(k o).trans (h o)) (fun W L o o' hL hW ho _ q=>World.cell?_of_block (World.putObj_heap_other (by show w.heap.size+1+1+1 ≠ L;omega))) (Below.refl _ _) (fun _=>rfl)
  (fun pre W=>((W.cell? ⟨w.heap.size,0,none⟩=some (.bool n)/\W.cell? ⟨w.heap.size,1,none⟩=some (.slice p ln c)/\W.cell? ⟨w.heap.size+1,0,none⟩=some (.slice (some ⟨g,0,none⟩) l.length cp)/\W.cell? ⟨w.heap.size+1+1,0,none⟩=some (.int .i64 (countL d l pre))/\W.frozen? ⟨w.heap.size+1+1,0,none⟩=false)/\Below w.heap.size w W)/\w1.heap.size<=W.heap.size)
  (fun _ _ _=>False)
  (OwnFrom.and (OwnFrom.and (Own.from (fun s A B row hs hg hr=>⟨cell_kept hs.1 hg hr,cell_kept hs.2.1 hg hr,cell_kept hs.2.2.1 hg hr,cell_kept hs.2.2.2.1 hg hr,(frozen_kept hs.2.2.2.1 hg hr).trans hs.2.2.2.2⟩) _) (ownFrom_below (Nat.le_refl _) (by omega))) (fun s A B row hs hg hr=>Nat.le_trans hs hg.size))
  (fun _ _ _ _ _ hs _ _=>hs)
  ⟨⟨⟨e0,e1,e2,e3,e4⟩,hx0⟩,Nat.le_refl _⟩
  (fun x=>{ tmps:=#[.agg #[.bool n,.slice p ln c],.slice (some ⟨g,0,none⟩) l.length cp,.pointer (some ⟨w.heap.size,0,none⟩),.pointer (some ⟨w.heap.size+1,0,none⟩),.int .i64 0,.pointer (some ⟨w.heap.size+1+1,0,none⟩),.int .i64 x.1,undef,undef,undef,.agg #[.bool n,.slice p ln c],.func (.func 250) #[] #[.pointer (some ⟨w.heap.size+1+1+1,0,none⟩)],.int .i64 x.1,undef,undef,undef,undef,undef,undef,undef,undef,undef,undef,undef,undef,undef,undef,undef,undef,undef,undef,undef,undef,undef,undef,undef,undef],defers:=[] }) ?assign ?body ?done ?stop
 case assign =>
  intro L x W K hK
  gi_wp2
  exact hK
 case body =>
  rintro L pre x W ⟨⟨⟨c0,c1,c2,c3,c4⟩,hB⟩,hz⟩ hpl
  have hxs:=x.2
  have hd0:Hid (0<=d):=by
   show 0<=d
   have:=ND.out
   cases n with
   | true=>simp at hpl
   | false=>simpa using this.symm
  have hn2:pre.length < 2:=by
   cases n with
   | true=>simp at hpl
   | false=>simpa using hpl
  clear hpl
  have hzW:w.heap.size+1+1+1<=W.heap.size:=by omega
  have HM:=Lib.hid hlen
  clear hlen
  have hm:(l.length:Int)<=1000:=by have:=HM.out;omega
  gi_wp2
  gi_loopw [7,15] (fun gd i wr=>∃ k:Nat,k<=l.length/\i=.int .i64 (k:Int)/\gd=.bool (goodS d x.1 (l.take k))/\Ext W wr) (fun _ i _=>l.length - (intOf i).toNat)
  case atStart=>exact ⟨0,Nat.zero_le _,rfl,rfl,Below.refl _ _⟩
  case round =>
   obtain ⟨k,hk,rfl,rfl,hx⟩:=hrel
   have hbx:Ext w wr:=Ext.step hB hx
   have hzr:=hx.size
   have f0:wr.cell? ⟨w.heap.size,0,none⟩=some (.bool n):=(hx.cell (p:=⟨w.heap.size,0,none⟩) (show w.heap.size < W.heap.size by omega)).trans c0
   have f1:wr.cell? ⟨w.heap.size,1,none⟩=some (.slice p ln c):=(hx.cell (p:=⟨w.heap.size,1,none⟩) (show w.heap.size < W.heap.size by omega)).trans c1
   have hlr:w.heap.size < wr.heap.size:=by omega
   by_cases hlt:k < l.length
   ·obtain ⟨⟨xx, yy⟩, XY⟩ : ∃ xy, Hid (l[k]? = some xy) := ⟨l[k], List.getElem?_eq_getElem hlt⟩
    obtain ⟨n1,p1,l1,c1',n2,p2,l2,c2',e0',e1',e2',e3',e4',e5'⟩:=(hl.ext hbx).2.2.2 k xx yy XY.out
    have hgr:g < wr.heap.size:=(hl.ext hbx).2.2.1
    obtain ⟨gx,gy⟩:=HGL.out k xx yy XY.out
    have GT:=Lib.hid (goodS_take (d:=d) (s:=x.1) XY.out)
    cases hgd:goodS d x.1 (l.take k) with
    | false =>
     rw [hgd] at GT
     have GT:=Lib.hid GT.out
     clear hgd
     gi_wp2
     first | refine wp_region_FC (fun W=>W.cell? ⟨w.heap.size,0,none⟩=some (.bool n)/\W.cell? ⟨w.heap.size,1,none⟩=some (.slice p ln c)/\W.cell? ⟨wr.heap.size,0,none⟩=some (.bool n1)/\W.cell? ⟨wr.heap.size,1,none⟩=some (.slice p1 l1 c1')/\W.cell? ⟨wr.heap.size,2,none⟩=some (.bool n2)/\W.cell? ⟨wr.heap.size,3,none⟩=some (.slice p2 l2 c2')) (by kernel_rfl) (by kernel_rfl) ?_ ?_ ?_ | refine wp_region_FCs (fun W=>W.cell? ⟨w.heap.size,0,none⟩=some (.bool n)/\W.cell? ⟨w.heap.size,1,none⟩=some (.slice p ln c)/\W.cell? ⟨wr.heap.size,0,none⟩=some (.bool n1)/\W.cell? ⟨wr.heap.size,1,none⟩=some (.slice p1 l1 c1')/\W.cell? ⟨wr.heap.size,2,none⟩=some (.bool n2)/\W.cell? ⟨wr.heap.size,3,none⟩=some (.slice p2 l2 c2')) ?_ ?_ ?_ | refine wpIn_region_FC (fun W=>W.cell? ⟨w.heap.size,0,none⟩=some (.bool n)/\W.cell? ⟨w.heap.size,1,none⟩=some (.slice p ln c)/\W.cell? ⟨wr.heap.size,0,none⟩=some (.bool n1)/\W.cell? ⟨wr.heap.size,1,none⟩=some (.slice p1 l1 c1')/\W.cell? ⟨wr.heap.size,2,none⟩=some (.bool n2)/\W.cell? ⟨wr.heap.size,3,none⟩=some (.slice p2 l2 c2')) (by kernel_rfl) (by kernel_rfl) (by kernel_rfl) ?_ ?_ ?_
     ·go_simp
     ·(intro W W' h hx hb;have hs:=hx.size;(try simp at hs);have hbc:∀ b o,b < W.heap.size->W'.cell? ⟨b,o,none⟩=W.cell? ⟨b,o,none⟩:=fun b o h=>hb.cell (p:=⟨b,o,none⟩) h;(try dsimp only at h ⊢);simp (disch:=omega) only [hbc];exact h)
     repeat (first | refine F_s ?_ | refine F_r ?_)
     rintro W2 ⟨hx2,hc⟩
     have hx3:Ext W W2:=Ext.step bxx hx2
     clear hc hx2
     gi_wp2
     exact ⟨⟨k+1,by omega,rfl,by rw [GT.out];rfl,hx3⟩,by simp [intOf];omega⟩
    | true =>
     rw [hgd] at GT
     have GT:=Lib.hid GT.out
     clear hgd
     obtain ⟨z,Z⟩:∃ z,Hid (x.1*yy=z):=⟨_,rfl⟩
     have gz:Gd z:=by rw [<- Z.out];exact gy.sgn x
     obtain ⟨sd,SDD⟩:∃ q,Hid (sideZ xx z d=q):=⟨_,rfl⟩
     have RS:=fun (na nb nc:Bool) (pa pb pc:Option Addr) (la ca lb cb lc cc:Nat) (w:World) ha hb hc=>root_Sign (ofZ xx) (ofZ z) (ofZ d) na nb nc pa pb pc la ca lb cb lc cc w ha hb hc
     rw [signP_ofZ gx gz hG hd0.out,SDD.out] at RS
     have RS:=Lib.hid RS
     have SX:=Lib.hid (show small x.1=true from small_of_lt (k:=1) (by omega) (by omega))
     have SY:=Lib.hid gy.small
     have SZ:=Lib.hid gz.small
     rw [Z.out,SDD.out] at GT
     have hdr:=hd.ext hbx
     clear gx gy gz
     gi_wp2
     first | refine wp_region_FC (fun W=>W.cell? ⟨w.heap.size,0,none⟩=some (.bool n)/\W.cell? ⟨w.heap.size,1,none⟩=some (.slice p ln c)/\W.cell? ⟨wr.heap.size,0,none⟩=some (.bool n1)/\W.cell? ⟨wr.heap.size,1,none⟩=some (.slice p1 l1 c1')/\W.cell? ⟨wr.heap.size,2,none⟩=some (.bool n2)/\W.cell? ⟨wr.heap.size,3,none⟩=some (.slice p2 l2 c2')) (by kernel_rfl) (by kernel_rfl) ?_ ?_ ?_ | refine wp_region_FCs (fun W=>W.cell? ⟨w.heap.size,0,none⟩=some (.bool n)/\W.cell? ⟨w.heap.size,1,none⟩=some (.slice p ln c)/\W.cell? ⟨wr.heap.size,0,none⟩=some (.bool n1)/\W.cell? ⟨wr.heap.size,1,none⟩=some (.slice p1 l1 c1')/\W.cell? ⟨wr.heap.size,2,none⟩=some (.bool n2)/\W.cell? ⟨wr.heap.size,3,none⟩=some (.slice p2 l2 c2')) ?_ ?_ ?_ | refine wpIn_region_FC (fun W=>W.cell? ⟨w.heap.size,0,none⟩=some (.bool n)/\W.cell? ⟨w.heap.size,1,none⟩=some (.slice p ln c)/\W.cell? ⟨wr.heap.size,0,none⟩=some (.bool n1)/\W.cell? ⟨wr.heap.size,1,none⟩=some (.slice p1 l1 c1')/\W.cell? ⟨wr.heap.size,2,none⟩=some (.bool n2)/\W.cell? ⟨wr.heap.size,3,none⟩=some (.slice p2 l2 c2')) (by kernel_rfl) (by kernel_rfl) (by kernel_rfl) ?_ ?_ ?_
     ·go_simp
     ·(intro W W' h hx hb;have hs:=hx.size;(try simp at hs);have hbc:∀ b o,b < W.heap.size->W'.cell? ⟨b,o,none⟩=W.cell? ⟨b,o,none⟩:=fun b o h=>hb.cell (p:=⟨b,o,none⟩) h;(try dsimp only at h ⊢);simp (disch:=omega) only [hbc];exact h)
     repeat (first | refine F_s ?_ | refine F_r ?_)
     refine F_num { w with heap:=#[] } (ofZ x.1) (by rfl) (by rfl) (by intro W hW;(try dsimp only at hW);go_simp;exact (meet_of x.1 _ (by omega)).mono fun _ _ h=>RetN.isN (Nat.zero_le _) h) ?_;intro n5 p5 l5 c5 _;refine F_put ?_
     repeat (first | refine F_s ?_ | refine F_r ?_)
     refine F_num { w with heap:=#[] } (ofZ z) (by rfl) (by rfl) (by intro W hW;(try dsimp only at hW);go_simp;exact (meet_mul x.1 yy _ _ _ _ _ _ _ _ _ hW.2 ((e5'.alloc _).ext hW.1.1) SX.out SY.out z Z.out SZ.out).mono fun _ _ h=>RetN.isN (Nat.zero_le _) h) ?_;intro n6 p6 l6 c6 _;refine F_put ?_
     repeat (first | refine F_s ?_ | refine F_r ?_)
     refine F_c (.int .i64 sd) (fun W hW=>RS.out _ _ _ _ _ _ _ _ _ _ _ _ _ ((e4'.alloc _).ext hW.1.1.1) hW.2 ((hdr.alloc _).ext hW.1.1.1)) ?_
     repeat (first | refine F_s ?_ | refine F_r ?_)
     rintro W2 ⟨⟨⟨hx2,hc⟩,_⟩,_⟩
     have hx3:Ext W W2:=Ext.step bxx hx2
     clear hc hx2
     gi_wp2
     exact ⟨⟨k+1,by omega,rfl,by rw [GT.out];rfl,hx3⟩,by simp [intOf];omega⟩
   ·obtain rfl : k = l.length := by omega
    have f2:wr.cell? ⟨w.heap.size+1+1,0,none⟩=some (.int .i64 (countL d l pre)):=(hx.cell (p:=⟨w.heap.size+1+1,0,none⟩) (show w.heap.size+1+1 < W.heap.size by omega)).trans c3
    have f3:wr.frozen? ⟨w.heap.size+1+1,0,none⟩=false:=(hx.frozen (p:=⟨w.heap.size+1+1,0,none⟩) (show w.heap.size+1+1 < W.heap.size by omega)).trans c4
    have f4:wr.cell? ⟨w.heap.size+1,0,none⟩=some (.slice (some ⟨g,0,none⟩) l.length cp):=(hx.cell (p:=⟨w.heap.size+1,0,none⟩) (show w.heap.size+1 < W.heap.size by omega)).trans c2
    have kb:∀ W',(∀ o,W'.cell? ⟨w.heap.size+1+1+1,o,none⟩=wr.cell? ⟨w.heap.size+1+1+1,o,none⟩)->KB (w.heap.size+1+1+1) W W':=fun W' h o=>(h o).trans (hx.cell (p:=⟨w.heap.size+1+1+1,o,none⟩) (show w.heap.size+1+1+1 < W.heap.size by omega))
    have KBH:=Lib.hid kb
    have CS:=Lib.hid (countL_snoc d l pre x)
    have cbd:=countL_bd d l pre
    rw [List.take_of_length_le (Nat.le_refl _)]
    clear kb c0 c1 c2 c3 c4
    obtain ⟨q,Q⟩:∃ q,Hid (countL d l pre=q):=⟨_,rfl⟩
    rw [Q.out] at f2 cbd CS
    cases hgd:goodS d x.1 l with
    | false =>
     rw [hgd] at CS
     clear hgd
     gi_wp2
     refine ⟨KeepsOthers.of_ext hx,KBH.out _ (fun _=>rfl),⟨⟨f0,f1,f4,?_,f3⟩,hbx⟩,by omega⟩
     rw [CS.out,f2]
     simp
    | true =>
     rw [hgd] at CS
     clear hgd
     gi_wp2
     refine ⟨(KeepsOthers.of_ext hx).trans (KeepsOthers.setCell _ _ _),KBH.out _ (fun o=>?_),⟨⟨?_,?_,?_,?_,?_⟩,?_⟩,?_⟩
     ·go_simp
     ·go_simp
     ·go_simp
     ·go_simp
     ·rw [CS.out];go_simp
     ·go_simp
     ·exact bxx
     ·simp;omega
 case done =>
  rintro D xs W hD rfl ⟨⟨⟨c0,c1,c2,c3,c4⟩,hB⟩,hz⟩ hK
  gi_wp2
  refine ⟨by simp,.inl ⟨_,_,rfl,run_takeDeferred hK,?_⟩⟩
  exact ⟨_,results_tmp rfl _ _ _,by rw [RES.out];rfl,hB.trans (belowK_b (w:=w) (Nat.le_refl _) W D _ _ (by omega) hK rfl rfl)⟩
 case stop =>
  rintro D c' pre W _ _ h _
  exact h.elim
end

section
open Go.RowKit
def crI (px py qx qy rx ry:Int):Int:=(qx - px)*(ry - py) - (qy - py)*(rx - px)
def linesZ (px py qx qy rx ry sx sy:Int):Int :=
 if (qx - px)*(sy - ry) - (qy - py)*(sx - rx) ≠ 0 then
  if 0 < sideI (crI px py qx qy rx ry)*sideI (crI px py qx qy sx sy) then 0
  else if 0 < sideI (crI rx ry sx sy px py)*sideI (crI rx ry sx sy qx qy) then 0 else 1
 else if sideI (crI px py qx qy rx ry) ≠ 0 then 0
 else if max 0 (min ((rx - px)*(qx - px)+(ry - py)*(qy - py)) ((sx - px)*(qx - px)+(sy - py)*(qy - py))) < min ((qx - px)*(qx - px)+(qy - py)*(qy - py)) (max ((rx - px)*(qx - px)+(ry - py)*(qy - py)) ((sx - px)*(qx - px)+(sy - py)*(qy - py))) then -1
 else if max 0 (min ((rx - px)*(qx - px)+(ry - py)*(qy - py)) ((sx - px)*(qx - px)+(sy - py)*(qy - py)))=min ((qx - px)*(qx - px)+(qy - py)*(qy - py)) (max ((rx - px)*(qx - px)+(ry - py)*(qy - py)) ((sx - px)*(qx - px)+(sy - py)*(qy - py))) then 1 else 0
theorem sideI_bd (n:Int) : -1<=sideI n/\sideI n<=1:=by unfold sideI;(repeat' split)<;>omega
def Wd (k:Nat) (x:Int):Prop:=x.natAbs < 4294967296 ^ k
theorem Wd.mul {a b:Nat} {x y:Int} (hx:Wd a x) (hy:Wd b y):Wd (a+b) (x*y):=by
 unfold Wd at *
 rw [Int.natAbs_mul,Nat.pow_add]
 rcases Nat.eq_zero_or_pos y.natAbs with h | h
 ·rw [h,Nat.mul_zero];exact Nat.mul_pos (Nat.pow_pos (by omega)) (Nat.pow_pos (by omega))
 ·exact Nat.lt_of_lt_of_le (Nat.mul_lt_mul_of_pos_right hx h) (Nat.mul_le_mul_left _ (Nat.le_of_lt hy))
theorem Wd.sub {a:Nat} {x y:Int} (hx:Wd a x) (hy:Wd a y):Wd (a+1) (x - y):=by
 unfold Wd at *
 rw [Nat.pow_succ]
 omega
theorem Wd.mono {a b:Nat} {x:Int} (hx:Wd a x) (h:a<=b):Wd b x:=Nat.lt_of_lt_of_le hx (Nat.pow_le_pow_right (by omega) h)
theorem Wd.small {a:Nat} {x:Int} (hx:Wd a x) (h:a<=64):small x=true:=small_of_lt hx h
theorem Wd.gd {a:Nat} {x:Int} (hx:Wd a x) (h:a<=20):Gd x:=hx.mono h
theorem Wd.of64 {x:Int} (h:I64 x):Wd 2 x:=by unfold Wd I64 at *;omega
structure LA where
 (S h F r:Int)
 (u1 u2 v1 v2:Int)
def LA.delta (a:LA):Int:=a.h*a.h - a.S*(a.F - a.r*a.r)
def LA.list (a:LA):List (Int × Int):=[(0 - a.h,1),(a.S - (0 - a.h),-1),(a.S*a.u1 - a.h*a.u2,a.u2),(a.S*a.v1 - a.h*a.v2,a.v2)]
structure AA where
 (S r q:Int)
 (du dv ds dt pu pv ps pt:Int)
def AA.k (a:AA):Int:=a.S - (a.q*a.q - a.r*a.r)
def AA.delta (a:AA):Int:=4*a.S*(a.r*a.r) - a.k*a.k
def AA.list (a:AA):List (Int × Int):=[(a.k*a.du,a.pu),(a.k*a.dv,a.pv),((a.k - 2*a.S)*a.ds,a.ps),((a.k - 2*a.S)*a.dt,a.pt)]
def one (a b:Bool):Int:=if a&&b then 1 else 0
def sameZ (rq a b c d:Bool):Int:=if one a rq+one b rq+one c rq+one d rq=2 then -1 else one a rq+one b rq+one c rq+one d rq
end
end Go.Proofs.YtceemiodpccbhaaGreat
