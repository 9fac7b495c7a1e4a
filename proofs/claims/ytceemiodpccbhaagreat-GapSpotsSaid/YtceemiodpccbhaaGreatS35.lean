import Derived.Test.YtceemiodpccbhaaGreatS34
set_option linter.unusedVariables false
set_option linter.unusedSimpArgs false

namespace Go.Proofs.YtceemiodpccbhaaGreat

set_option maxRecDepth 100000
section
open Go.RowKit
def toShF (l:List It):Option (Sh × List Prop) :=
 match l with
 | [i,.fs _ m n z,k]=>(match asI i,asI k with
  | some x,some y=>if z=7/\(m.all fun i=>i.n==1)=true/\((List.range n).all fun i=>isEd ((m.drop (i*7)).take 7))=true then some (⟨x.1,n,fun i=>edAt ((m.drop (i*7)).take 7),y.1⟩,[]) else none
  | _,_=>none)
 | l=>toSh l
theorem toShF_rep {V W:World} {r:Nat->Nat} {k:Nat} {l:List It} {s:Sh} {ps:List Prop} {x:Value} (h:toShF l=some (s,ps)) (hp:All ps) (hr:RepV V W r k ⟨true,l⟩ x):RepV V W r k (shpV s) x:=by
 unfold toShF at h
 split at h
 ·rename_i i o m n z k
  split at h
  ·rename_i x y hx hy
   split at h
   ·rename_i hc
    obtain ⟨rfl,c1,c2⟩:=hc
    cases h
    have ht:toSh [i,.fs o m n 7,k]=some (⟨x.1,n,fun i=>edAt ((m.drop (i*7)).take 7),y.1⟩,[∀ i,i < n->isEd ((m.drop (i*7)).take 7)=true]):=by
     unfold toSh toRo
     simp only [hx,hy,c1,and_self,if_true]
    exact toSh_rep ht ⟨fun i hi=>List.all_eq_true.1 c2 i (List.mem_range.2 hi),trivial⟩ hr
   ·cases h
  ·cases h
 ·exact toSh_rep h hp hr
def sh2F (f:FuncId) (g:Sh->Sh->AV) (h:∀ s u,Fok Tryz.prog f [shpV s,shpV u] (g s u)):Con where
 f:=f
 g:=fun | [⟨true,l⟩,⟨true,m⟩]=>(match toShF l,toShF m with | some z,some y=>some (g z.1 y.1,z.2++y.2) | _,_=>none) | _=>none
 ok:=by
  intro args res ps h' hp
  split at h'<;>try cases h'
  split at h'<;>cases h'
  rename_i he hq
  obtain ⟨p1,p2⟩:=All.app hp
  exact (h _ _).pre fun W=>rvs_1 (fun v hv=>toShF_rep he p1 hv) (rvs_1 (fun v hv=>toShF_rep hq p2 hv) rvs_0)
def sh3F (f:FuncId) (g:Sh->Sh->Int->AV) (h:∀ s u z,Fok Tryz.prog f [shpV s,shpV u,inV z lim] (g s u z)):Con where
 f:=f
 g:=fun | [⟨true,l⟩,⟨true,m⟩,⟨false,[.i z _]⟩]=>(match toShF l,toShF m with | some x,some y=>some (g x.1 y.1 z,x.2++y.2) | _,_=>none) | _=>none
 ok:=by
  intro args res ps h' hp
  split at h'<;>try cases h'
  split at h'<;>cases h'
  rename_i he hq
  obtain ⟨p1,p2⟩:=All.app hp
  exact (h _ _ _).pre fun W=>rvs_1 (fun v hv=>toShF_rep he p1 hv) (rvs_1 (fun v hv=>toShF_rep hq p2 hv) (rvs_1 in_lim rvs_0))
def cGapF:Con:=sh2F 14 (fun s u=>ofV (ofQ s u)) gapOf_fok
def cmpG (g:Gp) (z:Int):Int:=cmpRt g.d ⟨z,0,zero,ofZ 1⟩
def touchQ (a b:Sh):Bool:=(ofQ a b).2&&decide (cmpG (ofQ a b).1 0<=0)
def leastB (a b:Sh) (z:Int):Bool:=(ofQ a b).2&&decide (cmpG (ofQ a b).1 z >= 0)
def bordS (s:Sh):Sh:=⟨1,s.n,s.e,0⟩
def borderQ (a b:Sh):Gp × Bool:=if a.k ≠ 2\/chkS a ≠ 0 then (Gp.no,false) else ofQ (bordS a) b
def holdsQ (a b:Sh) (z:Int):Bool :=
 if (borderQ a b).2=false\/(borderQ a b).1.m=true\/cmpG (borderQ a b).1 z < 0 then false else insS a (b.e 0).ax (b.e 0).ay&&!(aroB b a)
def KTo:List Con:=[cGapF,cCmpInt]
theorem touch_fok (s u:Sh):Fok Tryz.prog 19 [shpV s,shpV u] (.one (blV (touchQ s u))):=by
 cases h:(ofQ s u).2 with
 | false=>exact Fok.bb (show touchQ s u=false by unfold touchQ;rw [h];rfl) (fok KTo [false] [pEd s,pEd u,pF h] (by kernel_rfl))
 | true=>exact Fok.bb (show touchQ s u=decide (cmpG (ofQ s u).1 0<=0) by unfold touchQ;rw [h];rfl) (fok KTo [true] [pEd s,pEd u,pT h] (by kernel_rfl))
theorem least2_fok (s u:Sh) (z:Int):Fok Tryz.prog 27 [shpV s,shpV u,inV z lim] (.one (blV (leastB s u z))):=by
 cases h:(ofQ s u).2 with
 | false=>exact Fok.bb (show leastB s u z=false by unfold leastB;rw [h];rfl) (fok KTo [false] [pEd s,pEd u,pF h] (by kernel_rfl))
 | true=>exact Fok.bb (show leastB s u z=decide (cmpG (ofQ s u).1 z >= 0) by unfold leastB;rw [h];rfl) (fok KTo [true] [pEd s,pEd u,pT h] (by kernel_rfl))
def cTouch:Con:=sh2F 19 (fun s u=>.one (blV (touchQ s u))) touch_fok
def cLeastG:Con:=sh3F 27 (fun s u z=>.one (blV (leastB s u z))) least2_fok
def KBo:List Con:=[cGapF,cShChk]
theorem nz_b {z:Int} (h:z ≠ 0):(!(z==0))=true:=by simpa using h
theorem z_b {z:Int} (h:z=0):(!(z==0))=false:=by simpa using h
theorem border_fok (s u:Sh):Fok Tryz.prog 33 [shpV s,shpV u] (ofV (borderQ s u)):=by
 unfold borderQ
 by_cases h1:s.k ≠ 2
 ·rw [if_pos (.inl h1)]
  exact fok KBo [true] [pT (ne_T h1)] (by kernel_rfl)
 by_cases h2:chkS s ≠ 0
 ·rw [if_pos (.inr h2)]
  exact fok KBo [false,true] [pF (ne_F h1),pEd s,pT (nz_b h2)] (by kernel_rfl)
 ·rw [if_neg (fun g => g.elim h1 h2)]
  exact fok KBo [false,false] [pF (ne_F h1),pEd s,pF (z_b (Classical.not_not.1 h2)),pEd s,pEd u] (by kernel_rfl)
def cBord:Con:=sh2F 33 (fun s u=>ofV (borderQ s u)) border_fok
def cAro:Con where
 f:=47
 g:=fun | [⟨true,l⟩,⟨true,m⟩]=>(match toShF l,toShF m with | some z,some y=>some (.one (blV (aroB z.1 y.1)),z.2++(y.2++[z.1.n<=1000,0 < y.1.n])) | _,_=>none) | _=>none
 ok:=by
  intro args res ps h' hp
  split at h'<;>try cases h'
  split at h'<;>cases h'
  rename_i he hq
  obtain ⟨p1,p2⟩:=All.app hp
  obtain ⟨p2,p3⟩:=All.app p2
  exact (around_fok _ _ p3.1 p3.2.1).pre fun W=>rvs_1 (fun v hv=>toShF_rep he p1 hv) (rvs_1 (fun v hv=>toShF_rep hq p2 hv) rvs_0)
def KHo:List Con:=[cBord,cAro,cIns,cCmpInt]
theorem ofQ_ok {a b:Sh} (h:(ofQ a b).2=true):chkS a=0/\chkS b=0:=by
 unfold ofQ at h
 split at h
 ·cases h
 ·rename_i hn
  exact ⟨Classical.not_not.1 fun g=>hn (.inl g),Classical.not_not.1 fun g=>hn (.inr g)⟩
theorem borderQ_ok {a b:Sh} (h:(borderQ a b).2=true):(a.k=2/\chkS a=0)/\chkS (bordS a)=0/\chkS b=0:=by
 unfold borderQ at h
 split at h
 ·cases h
 ·rename_i hn
  exact ⟨⟨Classical.not_not.1 fun g=>hn (.inl g),Classical.not_not.1 fun g=>hn (.inr g)⟩,ofQ_ok h⟩
theorem holds_fok (s u:Sh) (z:Int):Fok Tryz.prog 25 [shpV s,shpV u,inV z lim] (.one (blV (holdsQ s u z))):=by
 cases h1:(borderQ s u).2 with
 | false=>exact Fok.bb (show holdsQ s u z=false by unfold holdsQ;rw [if_pos (.inl h1)]) (fok KHo [true] [pEd s,pEd u,pT (not_T h1)] (by kernel_rfl))
 | true =>
  cases h2:(borderQ s u).1.m with
  | true=>exact Fok.bb (show holdsQ s u z=false by unfold holdsQ;rw [if_pos (.inr (.inl h2))]) (fok KHo [false,true] [pEd s,pEd u,pF (not_F h1),pT h2] (by kernel_rfl))
  | false =>
   by_cases h3:cmpG (borderQ s u).1 z < 0
   ·exact Fok.bb (show holdsQ s u z=false by unfold holdsQ;rw [if_pos (.inr (.inr h3))]) (fok KHo [false,false,true] [pEd s,pEd u,pF (not_F h1),pF h2,pT (decide_eq_true h3)] (by kernel_rfl))
   ·obtain ⟨⟨_, k1⟩, _, k2⟩ := borderQ_ok h1
    have g1:=chk_good k1
    have g2:=chk_good k2
    have n1:=g1.n40
    have n2:=g2.n40
    have m1:=g1.n1
    have m2:=g2.n1
    have e0:holdsQ s u z=(insS s (u.e 0).ax (u.e 0).ay&&!(aroB u s)):=by unfold holdsQ;rw [if_neg (by simp [h1,h2,h3])]
    cases h4:insS s (u.e 0).ax (u.e 0).ay with
    | false=>exact Fok.bb (show holdsQ s u z=false by rw [e0,h4];rfl) (fok KHo [false,false,false,false] [pEd s,pEd u,pF (not_F h1),pF h2,pF (decide_eq_false h3),pP (show 0<=(0:Int)/\(0:Int) < u.n by omega),pEd s,pP (show s.n<=1000 by omega),pF h4] (by kernel_rfl))
    | true=>exact Fok.bb (show holdsQ s u z=!(aroB u s) by rw [e0,h4];rfl) (fok KHo [false,false,false,true] [pEd s,pEd u,pF (not_F h1),pF h2,pF (decide_eq_false h3),pP (show 0<=(0:Int)/\(0:Int) < u.n by omega),pEd s,pP (show s.n<=1000 by omega),pT h4,pEd u,pEd s,pP (show u.n<=1000 by omega),pP (show 0 < s.n by omega)] (by kernel_rfl))
def cHolds:Con:=sh3F 25 (fun s u z=>.one (blV (holdsQ s u z))) holds_fok
end

set_option maxHeartbeats 2000000
set_option maxRecDepth 100000
section
open Go.RowKit
attribute [local go_sem] Gives givesU
def DrawH (w:World) (B:Nat) (v:Value) (d:List Value) (T:TypeId) (k:Nat):Prop:=w.heap[B]? = some (.cells (v::.int .i64 (k:Nat)::d).toArray T)
theorem DrawH.at {w:World} {B len cp k:Nat} {a:Option Addr} {d:List Value} {T:TypeId} (h:DrawH w B (.slice a len cp) d T k):DrawAt w B a len cp k:=by
 unfold DrawH at h
 refine ⟨(Array.getElem?_eq_some_iff.1 h).1,?_,?_,fun o=>by simp [World.frozen?,h]⟩
 ·rw [cell_of_row _ _ _ _ _ _ h];simp
 ·rw [cell_of_row _ _ _ _ _ _ h];simp
theorem DrawH.ext {w w':World} {B k:Nat} {v:Value} {d:List Value} {T:TypeId} (h:DrawH w B v d T k) (hx:Ext w w'):DrawH w' B v d T k:=heap_ext h hx
theorem DrawH.set {w:World} {B k:Nat} {v:Value} {d:List Value} {T:TypeId} (h:DrawH w B v d T k) (j:Nat):DrawH (w.setCell ⟨B,1,none⟩ (.int .i64 (j:Nat))) B v d T j:=by
 unfold DrawH at *
 have hB:=(Array.getElem?_eq_some_iff.1 h).1
 have e:=(Array.getElem?_eq_some_iff.1 h).2
 rw [Array.getElem?_eq_some_iff]
 refine ⟨by simpa [World.setCell] using hB,?_⟩
 simp only [World.setCell,Array.getElem_modify,if_true,e]
 simp
theorem r01_NextH (L:List Int) (B:Nat) (a:Option Addr) (len cp k:Nat) (n:Int) (d:List Value) (T:TypeId) (w:World) (hH:DrawH w B (.slice a len cp) d T k) (hL:Ints w a len L) (hne:0 < len->∀ x,a=some x->x.block ≠ B) (hn:0 < n/\n<=4294967296) (hk:k<=len) :
  Calls Tryz.prog 34 #[.pointer (some ⟨B,0,none⟩),.int .i64 n] w fun e w'=>e=.returned (.int .i64 (nextV L k n))/\DrawH w' B (.slice a len cp) d T (nextK L k)/\Past B w w':=by
 have hd:=hH.at
 obtain ⟨hB,c0,c1,hf⟩:=hd
 obtain ⟨hl,hm,hrow⟩:=hL
 by_cases hlt:k < len
 ·have e1 : nextV L k n = modZ (L[k]?.getD 0) n := by unfold nextV; rw [if_pos (by omega)]
  have e2:nextK L k=k+1:=by unfold nextK;rw [if_pos (by omega)]
  rw [e1,e2]
  obtain ⟨b,o,rfl,hb,hc⟩:=hrow (by omega)
  have hck:=hc k hlt
  have hbB:b ≠ B:=hne (by omega) _ rfl
  obtain ⟨x,X⟩:∃ x,L[k]?.getD 0=x:=⟨_,rfl⟩
  rw [X] at hck ⊢
  have MC:=Lib.hid (fun w=>r01_Mod x n w hn)
  replace hH:=Lib.hid hH
  clear e1 e2 hc hrow hl hne X hn
  have w1:IntKind.i64.wrap ((k:Int)+1)=((k+1:Nat):Int):=by rw [wrap_in];rfl;unfold I64;omega
  have w2:IntKind.i64.wrap (((k+1:Nat):Int) - 1)=(k:Int):=by rw [wrap_in];omega;unfold I64;omega
  have g1:decide ((len:Int)<=(k:Int))=false:=by rw [decide_eq_false_iff_not];omega
  have i0:(0:Int)<=(k:Int):=by omega
  have i1:(k:Int) < (len:Int):=by omega
  go_enter Tryz.func34,Tryz.ntmps34
  have w3:IntKind.i64.wrap (k:Int)=(k:Int):=by rw [wrap_in];unfold I64;omega
  have ts:(k:Int).toNat=k:=by omega
  go_wp2_with fail
  refine wp_FSc (fun W=>W.cell? ⟨B,0,none⟩=some (.slice (some ⟨b,o,none⟩) len cp)/\W.cell? ⟨B,1,none⟩=some (.int .i64 k)) ?_
  repeat (first | refine F_s ?_ | refine F_r ?_)
  rintro W ⟨hx,hc0,hc1⟩
  have hdW:DrawAt W B (some ⟨b,o,none⟩) len cp k:=DrawAt.ext ⟨hB,c0,c1,hf⟩ hx
  have hfW:=hdW.2.2.2
  have hkW:W.cell? ⟨b,o+k,none⟩=some (.int .i64 x):=(hx.cell (p:=⟨b,o+k,none⟩) hb).trans hck
  have hBW:B < W.heap.size:=Nat.lt_of_lt_of_le hB hx.size
  have hbW:b < W.heap.size:=Nat.lt_of_lt_of_le hb hx.size
  have hxs:=hx.size
  clear hdW
  have HD:=Lib.hid (hH.out.ext hx)
  have HX:Hid (Ext w W):=hx
  clear hx
  go_wp2_with fail
  refine wp_FSc (fun W=>W.cell? ⟨B,0,none⟩=some (.slice (some ⟨b,o,none⟩) len cp)/\W.cell? ⟨B,1,none⟩=some (.int .i64 (k+1:Nat))/\W.cell? ⟨b,o+k,none⟩=some (.int .i64 x)) ?_
  repeat (first | refine F_s ?_ | refine F_r ?_)
  refine F_c (.int .i64 (modZ x n)) (fun W hW=>MC.out _) ?_
  repeat (first | refine F_s ?_ | refine F_r ?_)
  rintro W2 ⟨hx2,hc2⟩
  go_wp2
  go_ret
  exact ⟨rfl,(HD.out.set _).ext hx2,((Past.of_ext HX.out).step (Past.set W 1 _)).step (Past.of_ext hx2)⟩
 ·have e1 : nextV L k n = 0 := by unfold nextV; rw [if_neg (by omega)]
  have e2:nextK L k=k:=by unfold nextK;rw [if_neg (by omega)]
  rw [e1,e2]
  have g1:decide ((len:Int)<=(k:Int))=true:=by rw [decide_eq_true_iff];omega
  have hdh:=Lib.hid hH
  clear hH
  clear e1 e2 hl hne hn hrow
  go_enter Tryz.func34,Tryz.ntmps34
  go_wp2_with fail
  refine wp_FSc (fun W=>W.cell? ⟨B,0,none⟩=some (.slice a len cp)/\W.cell? ⟨B,1,none⟩=some (.int .i64 k)) ?_
  repeat (first | refine F_s ?_ | refine F_r ?_)
  rintro W ⟨hx,hc0,hc1⟩
  go_wp2
  go_ret
  exact ⟨rfl,hdh.out.ext hx,Past.of_ext hx⟩
theorem ints_ne {w:World} {L:List Int} {v:Value} {B:Nat} (h:IntsC w L v) (hne:∀ a len c,v=.slice a len c->0 < len->∀ x,a=some x->x.block ≠ B):∃ a len c,v=.slice a len c/\Ints w a len L/\(0 < len->∀ x,a=some x->x.block ≠ B):=by
 obtain ⟨a,len,c,e,h1,h2,h3⟩:=h
 exact ⟨a,len,c,e,h1,hne a len c e⟩
theorem nextK_le {L:List Int} {k:Nat} (h:k<=L.length):nextK L k<=L.length:=by unfold nextK;split<;>omega
def xNext:Eff where
 f:=34
 g:=fun L k args=>match args with | [⟨false,[.i n _]⟩]=>if 0 < n/\n<=4294967296 then some (⟨false,[.i (nextV L k n) n.natAbs]⟩,nextK L k,[]) else none | _=>none
 ok:=by
  intro L k args res k' ps h hp W B v d T vals hg hL hne hk hv
  simp only at h
  split at h<;>(try (cases h;done))
  split at h<;>cases h
  rename_i n A hn
  simp only [rvs_cons,rvs_nil,rv_i] at hv
  obtain ⟨_,⟨_,rfl⟩,_,rfl,rfl⟩:=hv
  obtain ⟨a,len,c,rfl,h1,h2⟩:=ints_ne hL hne
  refine (r01_NextH L B a len c k n d T W hg h1 h2 hn (by rw [h1.1];exact hk)).mono fun e w' ⟨e1,h3,h4⟩=>⟨_,e1,?_,h3,nextK_le hk,h4⟩
  have:=nextV_bd L k hn.1
  exact rv_i.2 ⟨⟨by omega,by unfold I64;omega⟩,rfl⟩
end

section
open Go.RowKit
def nK (L:List Int):Nat->Nat
 | 0=>0
 | n+1=>nextK L (nK L n)
def nV (L:List Int) (n:Nat) (m:Int):Int:=nextV L (nK L n) m
theorem nV_bd (L:List Int) (n:Nat) {m:Int} (h:0 < m):0<=nV L n m/\nV L n m < m:=nextV_bd _ _ h
end

set_option maxRecDepth 100000
section
open Go.RowKit
def c40:Nat:=1099511627776
abbrev p4:Pf:=⟨(4:Int) ≠ 0,by decide⟩
def moV (ax ay n:Int) (m:Bool) (A:Nat):V1:=⟨true,[.i ax A,.i ay A,.i n A,.v (.bool m)]⟩
def ptL (p:Int × Int):V1:=⟨true,[.i p.1 lim,.i p.2 lim]⟩
def applyQ (ax ay n:Int) (m:Bool) (x y:Int):Int × Int:=applyP ax ay (modZ n 4) m x y
theorem tn0 {n x y ax ay:Int} {m:Bool} (h:modZ n 4=0):applyQ ax ay n m x y=((if m then 0 - x else x)+ax,y+ay):=by
 unfold applyQ applyP;rw [h];cases m<;>simp [rot,mir]
theorem tn1 {n x y ax ay:Int} {m:Bool} (h:modZ n 4=1):applyQ ax ay n m x y=(0 - y+ax,(if m then 0 - x else x)+ay):=by
 unfold applyQ applyP;rw [h];cases m<;>simp [rot,mir]
theorem tn2 {n x y ax ay:Int} {m:Bool} (h:modZ n 4=2):applyQ ax ay n m x y=(0 - (if m then 0 - x else x)+ax,0 - y+ay):=by
 unfold applyQ applyP;rw [h];cases m<;>simp [rot,mir]
theorem tn3 {n x y ax ay:Int} {m:Bool} (h:modZ n 4=3):applyQ ax ay n m x y=(y+ax,0 - (if m then 0 - x else x)+ay):=by
 unfold applyQ applyP;rw [h];cases m<;>simp [rot,mir]
theorem dapply_ok (ax ay n x y:Int) (m:Bool):Fok Tryz.prog 76 [moV ax ay n m c40,ptV x y c40] (.one (ptL (applyQ ax ay n m x y))):=by
 have hb:=modZ_bd n (m:=4) (by omega)
 by_cases h1:modZ n 4=1
 ·rw [tn1 h1]
  cases m with
  | true=>exact fok [] [true,true] [pT rfl,p4,p4,pT (bq_T h1)] (by kernel_rfl)
  | false=>exact fok [] [false,true] [pF rfl,p4,p4,pT (bq_T h1)] (by kernel_rfl)
 by_cases h2:modZ n 4=2
 ·rw [tn2 h2]
  cases m with
  | true=>exact fok [] [true,false,true] [pT rfl,p4,p4,pF (bq_F h1),pT (bq_T h2)] (by kernel_rfl)
  | false=>exact fok [] [false,false,true] [pF rfl,p4,p4,pF (bq_F h1),pT (bq_T h2)] (by kernel_rfl)
 by_cases h3:modZ n 4=3
 ·rw [tn3 h3]
  cases m with
  | true=>exact fok [] [true,false,false,true] [pT rfl,p4,p4,pF (bq_F h1),pF (bq_F h2),pT (bq_T h3)] (by kernel_rfl)
  | false=>exact fok [] [false,false,false,true] [pF rfl,p4,p4,pF (bq_F h1),pF (bq_F h2),pT (bq_T h3)] (by kernel_rfl)
 ·rw [tn0 (by omega)]
  cases m with
  | true=>exact fok [] [true,false,false,false] [pT rfl,p4,p4,pF (bq_F h1),pF (bq_F h2),pF (bq_F h3)] (by kernel_rfl)
  | false=>exact fok [] [false,false,false,false] [pF rfl,p4,p4,pF (bq_F h1),pF (bq_F h2),pF (bq_F h3)] (by kernel_rfl)
theorem rot_bd (t:Nat) {x y:Int} {D E:Nat} (h1:x.natAbs<=D) (h2:y.natAbs<=E):(rot t (x,y)).1.natAbs<=D+E/\(rot t (x,y)).2.natAbs<=D+E:=by
 induction t with
 | zero=>exact ⟨by simp only [rot];omega,by simp only [rot];omega⟩
 | succ t ih =>
  obtain ⟨a,b⟩:=ih
  simp only [rot]
  omega
theorem applyQ_bd {ax ay n x y:Int} {m:Bool} {A B D E:Nat} (a1:ax.natAbs<=A) (a2:ay.natAbs<=B) (h1:x.natAbs<=D) (h2:y.natAbs<=E):(applyQ ax ay n m x y).1.natAbs<=A+B+D+E/\(applyQ ax ay n m x y).2.natAbs<=A+B+D+E:=by
 unfold applyQ applyP mir
 cases m
 ·obtain ⟨u1, u2⟩ := rot_bd (modZ n 4).toNat h1 h2
  simp only [Bool.false_eq_true,if_false]
  omega
 ·obtain ⟨u1, u2⟩ := rot_bd (D := D) (modZ n 4).toNat (x := -x) (by omega) h2
  simp only [if_true]
  omega
def appC (f:FuncId) (S:Int->List Prop) (H:∀ (ax ay n x y:Int) (m:Bool),All (S n)->Fok Tryz.prog f [moV ax ay n m c40,ptV x y c40] (.one (ptL (applyQ ax ay n m x y)))):Con where
 f:=f
 g:=fun | [⟨true,[.i ax A,.i ay B,.i n C,.v (.bool m)]⟩,⟨true,[.i x D,.i y E]⟩]=>if (A<=c40/\B<=c40/\C<=c40)/\D<=c40/\E<=c40 then some (.one ⟨true,[.i (applyQ ax ay n m x y).1 (A+B+D+E),.i (applyQ ax ay n m x y).2 (A+B+D+E)]⟩,S n) else none | _=>none
 ok:=by
  intro args res ps h hp
  split at h<;>try cases h
  split at h<;>cases h
  rename_i ax A ay B n C m x D y E hb
  intro W vals hv
  have hv2:=hv
  simp only [rvs_cons,rvs_nil,rv_t,rl_i,rl_v,rl_nil] at hv2
  obtain ⟨_,⟨_,⟨⟨a1,i1⟩,_,rfl,⟨a2,i2⟩,_,rfl,⟨a3,i3⟩,_,rfl,_,_,rfl,rfl⟩,rfl⟩,_,rfl,_,⟨_,⟨⟨a4,i4⟩,_,rfl,⟨a5,i5⟩,_,rfl,rfl⟩,rfl⟩,_,rfl,rfl⟩:=hv2
  have hb2:=hb
  unfold c40 at hb2
  obtain ⟨q1,q2⟩:=applyQ_bd (n:=n) (m:=m) a1 a2 a4 a5
  refine (H ax ay n x y m hp W _ (rvs_cons.2 ⟨_,rv_t.2 ⟨_,rl_i.2 ⟨⟨by omega,i1⟩,_,rfl,rl_i.2 ⟨⟨by omega,i2⟩,_,rfl,rl_i.2 ⟨⟨by omega,i3⟩,_,rfl,rl_v.2 ⟨rfl,_,rfl,rfl⟩⟩⟩⟩,rfl⟩,_,rfl,rvs_cons.2 ⟨_,rv_t.2 ⟨_,rl_i.2 ⟨⟨by omega,i4⟩,_,rfl,rl_i.2 ⟨⟨by omega,i5⟩,_,rfl,rfl⟩⟩,rfl⟩,_,rfl,rfl⟩⟩)).mono fun e w' ⟨v,e1,h1,h2⟩=>⟨v,e1,?_,h2⟩
  simp only [RepA,ptL,rv_t,rl_i,rl_nil] at h1 ⊢
  obtain ⟨cs,⟨⟨_,g1⟩,_,rfl,⟨_,g2⟩,_,rfl,rfl⟩,e2⟩:=h1
  exact ⟨_,⟨⟨q1,g1⟩,_,rfl,⟨q2,g2⟩,_,rfl,rfl⟩,e2⟩
def dApply:Con:=appC 76 (fun _=>[]) fun ax ay n x y m _=>dapply_ok ax ay n x y m
end

section
open Go.RowKit
def lnEd (ax ay bx by':Int):Ed:=⟨1,ax,ay,bx,by',0,0⟩
def rowE (l:List Ed) (i:Nat):Ed:=(l[i]?).getD ⟨0,0,0,0,0,0,0⟩
def shL' (k:Int) (l:List Ed) (r:Int):Sh:=⟨k,l.length,rowE l,r⟩
def rectS (x0 y0 x1 y1:Int):Sh:=shL' 2 [lnEd x0 y0 x1 y0,lnEd x1 y0 x1 y1,lnEd x1 y1 x0 y1,lnEd x0 y1 x0 y0] 0
def discS (x y r:Int):Sh:=shL' 1 [lnEd x y x y] r
def quartE (px py r t:Int) (right:Bool):Ed :=
 let c:=applyQ 0 0 t false r 0
 let v:=applyQ 0 0 (if right then 3 else 1) false (px - (px+c.1)) (py - (py+c.2))
 ⟨if right then 3 else 2,px,py,px+c.1+v.1,py+c.2+v.2,px+c.1,py+c.2⟩
def roundS (px py r w h:Int):Sh :=
 shL' 2 [lnEd (px+r) py (px+r+w) py,⟨2,px+r+w,py,px+r+w+r,py+r,px+r+w,py+r⟩,
  lnEd (px+r+w+r) (py+r) (px+r+w+r) (py+r+h),⟨2,px+r+w+r,py+r+h,px+r+w,py+r+h+r,px+r+w,py+r+h⟩,
  lnEd (px+r+w) (py+r+h+r) (px+r) (py+r+h+r),⟨2,px+r,py+r+h+r,px,py+r+h,px+r,py+r+h⟩,
  lnEd px (py+r+h) px (py+r),⟨2,px,py+r,px+r,py,px+r,py+r⟩] 0
def pathB (L:List Int) (a:Nat):Bool:=decide (nV L (a+2) 2=1)
def pathE (L:List Int) (a:Nat) (px py:Int):Ed :=
 if pathB L a then quartE px py (1+nV L (a+3) 9) (nV L (a+4) 4) (decide (nV L (a+5) 2=1))
 else lnEd px py (max 0 (px+nV L a 21 - 10)) (max 0 (py+nV L (a+1) 21 - 10))
def pathN (L:List Int) (a:Nat):Nat:=if pathB L a then a+6 else a+3
def pathL (L:List Int):Nat->Nat->Int->Int->List Ed
 | 0,_,_,_=>[]
 | n+1,a,px,py=>pathE L a px py::pathL L n (pathN L a) (pathE L a px py).bx (pathE L a px py).by'
def madeS (L:List Int):Sh :=
 let x:=nV L 0 50
 let y:=nV L 1 50
 if nV L 2 6=0 then rectS x y (x+1+nV L 3 20) (y+1+nV L 4 20)
 else if nV L 2 6=1 then roundS x y (1+nV L 3 6) (1+nV L 4 9) (1+nV L 5 9)
 else if nV L 2 6=2 then shL' 2 [lnEd x y (x+1+nV L 3 20) (y+nV L 4 9),lnEd (x+1+nV L 3 20) (y+nV L 4 9) (x+nV L 5 9) (y+10+nV L 6 20),lnEd (x+nV L 5 9) (y+10+nV L 6 20) x y] 0
 else if nV L 2 6=3 then discS x y (nV L 3 9)
 else shL' 1 (pathL L (1+nV L 4 3).toNat 5 x y) (nV L 3 6)
end

section
open Go.RowKit
def moveE (e:Ed) (x y t:Int) (m:Bool):Ed :=
 ⟨if m then (fam e.k).k else e.k,(applyP x y t m e.ax e.ay).1,(applyP x y t m e.ax e.ay).2,(applyP x y t m e.bx e.by').1,(applyP x y t m e.bx e.by').2,
  if e.k=1 then e.cx else (applyP x y t m e.cx e.cy).1,if e.k=1 then e.cy else (applyP x y t m e.cx e.cy).2⟩
end

set_option maxHeartbeats 2000000
set_option maxRecDepth 100000
section
open Go.RowKit
attribute [local go_sem] Gives givesU
theorem vec_turns8 (ax ay t:Int) (m:Bool) (w:World) (h : -8<=t/\t<=8) :
  Calls Tryz.prog 164 #[.agg #[.int .i64 ax,.int .i64 ay,.int .i64 t,.bool m]] w fun e w'=>e=.returned (.int .i64 (modZ t 4))/\Ext w w':=by
 obtain rfl | rfl | rfl | rfl | rfl | rfl | rfl | rfl | rfl | rfl | rfl | rfl | rfl | rfl | rfl | rfl | rfl:t = -8\/t = -7\/t = -6\/t = -5\/t = -4\/t = -3\/t = -2\/t = -1\/t=0\/t=1\/t=2\/t=3\/t=4\/t=5\/t=6\/t=7\/t=8:=by omega
 all_goals
  go_enter Tryz.func164,Tryz.ntmps164
  go_wp2
  go_ret
  exact ⟨rfl,bxx⟩
def cTurns8:Con where
 f:=164
 g:=fun | [⟨true,[.i _ _,.i _ _,.i n _,.v (.bool _)]⟩]=>some (.one (inV (modZ n 4) 3),[-8<=n/\n<=8]) | _=>none
 ok:=by
  intro args res ps h hp
  split at h<;>cases h
  rename_i n _ _
  intro W vals hv
  simp only [rvs_cons,rvs_nil,rv_t,rl_i,rl_v,rl_nil] at hv
  obtain ⟨_,⟨_,⟨_,_,rfl,_,_,rfl,_,_,rfl,_,_,rfl,rfl⟩,rfl⟩,_,rfl,rfl⟩:=hv
  have hb:=modZ_bd n (m:=4) (by omega)
  exact (vec_turns8 _ _ _ _ W hp.1).mono fun _ _ h=>gv_in ⟨by omega,by unfold I64;omega⟩ h
def KV:List Con:=[cTurns8]
theorem tn3' {n x y ax ay:Int} {m:Bool} (h:modZ n 4=3):applyQ ax ay n m x y=(0 - (0 - y)+ax,0 - (if m then 0 - x else x)+ay):=by
 rw [tn3 h];congr 1;omega
theorem vApply_ok (ax ay n x y:Int) (m:Bool) (hn : -8<=n/\n<=8):Fok Tryz.prog 104 [moV ax ay n m c40,ptV x y c40] (.one (ptL (applyQ ax ay n m x y))):=by
 have hb:=modZ_bd n (m:=4) (by omega)
 have q:∀ k b,decide (k < modZ n 4)=b->decide (k < modZ n 4)=b:=fun _ _ h=>h
 by_cases h0:modZ n 4=0
 ·have f0 : decide (0 < modZ n 4) = false := by rw [h0]; rfl
  rw [tn0 h0]
  cases m with
  | true=>exact fok KV [true,false] [pT rfl,pP hn,pF f0] (by kernel_rfl)
  | false=>exact fok KV [false,false] [pF rfl,pP hn,pF f0] (by kernel_rfl)
 have t0:decide (0 < modZ n 4)=true:=by simp;omega
 by_cases h1:modZ n 4=1
 ·have f1 : decide (0 + 1 < modZ n 4) = false := by rw [h1]; rfl
  rw [tn1 h1]
  cases m with
  | true=>exact fok KV [true,true,false] [pT rfl,pP hn,pT t0,pF f1] (by kernel_rfl)
  | false=>exact fok KV [false,true,false] [pF rfl,pP hn,pT t0,pF f1] (by kernel_rfl)
 have t1:decide (0+1 < modZ n 4)=true:=by simp;omega
 by_cases h2:modZ n 4=2
 ·have f2 : decide (0 + 1 + 1 < modZ n 4) = false := by rw [h2]; rfl
  rw [tn2 h2]
  cases m with
  | true=>exact fok KV [true,true,true,false] [pT rfl,pP hn,pT t0,pT t1,pF f2] (by kernel_rfl)
  | false=>exact fok KV [false,true,true,false] [pF rfl,pP hn,pT t0,pT t1,pF f2] (by kernel_rfl)
 have h3:modZ n 4=3:=by omega
 have t2:decide (0+1+1 < modZ n 4)=true:=by rw [h3];rfl
 have f3:decide (0+1+1+1 < modZ n 4)=false:=by rw [h3];rfl
 rw [tn3' h3]
 cases m with
 | true=>exact fok KV [true,true,true,true,false] [pT rfl,pP hn,pT t0,pT t1,pT t2,pF f3] (by kernel_rfl)
 | false=>exact fok KV [false,true,true,true,false] [pF rfl,pP hn,pT t0,pT t1,pT t2,pF f3] (by kernel_rfl)
def cVApply:Con:=appC 104 (fun n=>[-8<=n/\n<=8]) fun ax ay n x y m h=>vApply_ok ax ay n x y m h.1
def KMv:List Con:=[cOfE,cVApply]
theorem nz_F {k:Int} (h:k=1):(k != 1)=false:=by rw [h];rfl
theorem nz_T {k:Int} (h:¬ k=1):(k != 1)=true:=by simpa using h
theorem move_fok (e:Ed) (x y n:Int) (m:Bool) (he:e.ok=true) (hn : -8<=n/\n<=8):Fok Tryz.prog 55 [edV e 3 c26,moV x y n m c26] (.one (edV (moveE e x y (modZ n 4) m) lim lim)):=by
 have hf:(fam e.k).k=1 <-> e.k=1:=by rcases kind_of he with k | k | k<;>rw [k]<;>decide
 unfold moveE
 cases m with
 | true =>
  by_cases hk:e.k=1
  ·simp only [if_pos hk]
   exact fok KMv [true,false] [pT rfl,pF (nz_F (hf.2 hk)),pP hn,pP hn] (by kernel_rfl)
  ·simp only [if_neg hk]
   exact fok KMv [true,true] [pT rfl,pT (nz_T fun h=>hk (hf.1 h)),pP hn,pP hn,pP hn] (by kernel_rfl)
 | false =>
  by_cases hk:e.k=1
  ·simp only [if_pos hk]
   exact fok KMv [false,false] [pF rfl,pF (nz_F hk),pP hn,pP hn] (by kernel_rfl)
  ·simp only [if_neg hk]
   exact fok KMv [false,true] [pF rfl,pT (nz_T hk),pP hn,pP hn,pP hn] (by kernel_rfl)
end

set_option maxRecDepth 100000
section
open Go.RowKit
def edsOf (m:List It) (n:Nat):List Ed:=(List.range n).map fun i=>edAt ((m.drop (i*7)).take 7)
def shOf (z:AV × List Mb):Option (Int × List Ed × Int) :=
 match z.1 with
 | .one ⟨true,[i,.sl b n c,k]⟩=>(match asI i,argI (z.2.map some) (.sl b n c),asI k with
  | some x,some (.fs _ m n c),some y=>if c=7/\(m.all fun i=>i.n==1)=true/\((List.range n).all fun i=>isEd ((m.drop (i*7)).take 7))=true then some (x.1,edsOf m n,y.1) else none
  | _,_,_=>none)
 | _=>none
theorem rowC_congr {R:List It->List Value->Prop} {V:World} {z n:Nat} {f g:Nat->List It} {v:Value} (h:∀ i,i < n->f i=g i):RowC R V z n f v->RowC R V z n g v
 | ⟨a,c,e,h1,h2,h3⟩=>⟨a,c,e,h1,h2,fun i hi=>by rw [<- h i hi];exact h3 i hi⟩
theorem rowE_eds (m:List It) (n i:Nat) (h:i < n):rowE (edsOf m n) i=edAt ((m.drop (i*7)).take 7):=by
 unfold rowE edsOf
 simp [h]
theorem shOf_rep {V W:World} {r:Nat->Nat} {cm:Nat->List Value} {z:AV × List Mb} {x:Int × List Ed × Int} {v:Value} (h:shOf z=some x) (hM:RM V r cm (z.2.map some) W) (hv:RepA W W r z.2.length z.1 v):RepV W W (fun _=>0) 0 (shpV (shL' x.1 x.2.1 x.2.2)) v:=by
 obtain ⟨z1,ms⟩:=z
 unfold shOf at h
 split at h
 ·rename_i i b n c k hz
  subst hz
  split at h
  ·rename_i x o m n' c' y hx ha hy
   split at h
   ·rename_i hc
    obtain ⟨rfl,c1,c2⟩:=hc
    cases h
    obtain ⟨cs,⟨a0,_,rfl,q0,a1,_,rfl,q1,a2,_,rfl,q2,rfl⟩,h2,h3⟩:=hv
    have k1:=argI_rep hM ha (show RepI V W r (ms.map some).length (.sl b n c) a1 by rw [List.length_map];exact q1)
    have k0:=asI_lim hx q0
    have k2:=asI_lim hy q2
    obtain ⟨rfl,p0⟩:=k0
    obtain ⟨rfl,p2⟩:=k2
    have ht:toRo (.fs o m n' 7)=some (n',fun i=>(m.drop (i*7)).take 7):=by
     unfold toRo
     simp only [c1,and_self,if_true]
    obtain ⟨v',rfl,hro⟩:=toRo_rep ht (fun i hi=>by rw [List.all_eq_true] at c2;exact c2 i (List.mem_range.2 hi)) k1
    refine ⟨_,⟨[_],_,rfl,⟨rfl,p0⟩,[_],_,rfl,⟨_,rfl,?_⟩,[_],[],rfl,⟨rfl,p2⟩,rfl⟩,h2,nofun⟩
    have hl:(edsOf m n').length=n':=by unfold edsOf;simp
    show RowC (RepF W) W 7 (edsOf m n').length _ _
    rw [hl]
    exact rowC_congr (fun i hi=>congrArg edI (rowE_eds m n' i hi).symm) hro
   ·cases h
  ·cases h
 ·cases h
theorem fokS {f:FuncId} {args:List V1} {k:Int} {l:List Ed} {r:Int} (X:List Eff) (K:List Con) (q:List Bool) (pf:List Pf) (h:((aFun Tryz.prog (env X) (tab K) 40 f args q).bind fun z=>(shOf z.1).map fun y=>(y,z.2))=some ((k,l,r),pf.map Pf.p,[])):Fok Tryz.prog f args (.one (shpV (shL' k l r))):=by
 cases hz:aFun Tryz.prog (env X) (tab K) 40 f args q with
 | none=>rw [hz] at h;cases h
 | some z =>
  obtain ⟨z0,z2,z3⟩:=z
  rw [hz] at h
  cases hs:shOf z0 with
  | none=>simp [hs] at h
  | some y =>
   simp only [Option.bind_some,hs,Option.map_some,Option.some.injEq,Prod.mk.injEq] at h
   obtain ⟨rfl,rfl,rfl⟩:=h
   have hB:=(aFun_ok prog_nm EQ_ok (env_ok X) MT_ok WR_ok (tab_ok K) 40).ok f args q _ _ [] hz (all_pf pf)
   intro W vals hv
   refine (hB W vals hv).mono ?_
   rintro e w' ⟨v,r,cm,rfl,hM,hr⟩
   refine ⟨v,rfl,?_,hM.ext⟩
   exact shOf_rep hs hM hr
def qV (e:Ed) (A B:Nat):V1:=⟨true,[.i e.k 3,.i e.ax A,.i e.ay B,.i e.bx (A+64),.i e.by' (B+64),.i e.cx (A+64),.i e.cy (B+64)]⟩
theorem quart_fok (px py r t:Int) (g:Bool):Fok Tryz.prog 39 [ptV px py 1000,inV r 16,inV t 16,blV g] (.one (edV (quartE px py r t g) lim lim)):=by
 unfold quartE
 cases g with
 | true=>exact fok [dApply] [true] [pT rfl] (by kernel_rfl)
 | false=>exact fok [dApply] [false] [pF rfl] (by kernel_rfl)
theorem quart_bd {px py r t:Int} {g:Bool} {A B:Nat} (h1:px.natAbs<=A) (h2:py.natAbs<=B) (h3:r.natAbs<=16):((quartE px py r t g).k.natAbs<=3/\(quartE px py r t g).ax.natAbs<=A/\(quartE px py r t g).ay.natAbs<=B)/\((quartE px py r t g).bx.natAbs<=A+64/\(quartE px py r t g).by'.natAbs<=B+64)/\(quartE px py r t g).cx.natAbs<=A+64/\(quartE px py r t g).cy.natAbs<=B+64:=by
 obtain ⟨u1,u2⟩:=applyQ_bd (ax:=0) (ay:=0) (n:=t) (x:=r) (y:=0) (m:=false) (A:=0) (B:=0) (D:=16) (E:=0) (by decide) (by decide) h3 (by decide)
 unfold quartE
 simp only
 generalize applyQ 0 0 t false r 0=c at *
 obtain ⟨v1,v2⟩:=applyQ_bd (ax:=0) (ay:=0) (n:=if g then 3 else 1) (x:=px - (px+c.1)) (y:=py - (py+c.2)) (m:=false) (A:=0) (B:=0) (D:=16) (E:=16) (by decide) (by decide) (by omega) (by omega)
 generalize applyQ 0 0 (if g then 3 else 1) false (px - (px+c.1)) (py - (py+c.2))=v at *
 refine ⟨⟨by split<;>decide,h1,h2⟩,⟨by omega,by omega⟩,by omega,by omega⟩
def dQuart:Con where
 f:=39
 g:=fun | [⟨true,[.i px A,.i py B]⟩,⟨false,[.i r C]⟩,⟨false,[.i t D]⟩,⟨false,[.v (.bool g)]⟩]=>if (A<=1000/\B<=1000)/\C<=16/\D<=16 then some (.one (qV (quartE px py r t g) A B),[]) else none | _=>none
 ok:=by
  intro args res ps h hp
  split at h<;>try cases h
  split at h<;>cases h
  rename_i px A py B r C t D g hb
  intro W vals hv
  have hv2:=hv
  simp only [rvs_cons,rvs_nil,rv_t,rv_i,rv_v,rl_i,rl_nil] at hv2
  obtain ⟨_,⟨_,⟨⟨a1,i1⟩,_,rfl,⟨a2,i2⟩,_,rfl,rfl⟩,rfl⟩,_,rfl,_,⟨⟨a3,i3⟩,rfl⟩,_,rfl,_,⟨⟨a4,i4⟩,rfl⟩,_,rfl,_,⟨ok,rfl⟩,_,rfl,rfl⟩:=hv2
  obtain ⟨⟨q1,q2,q3⟩,⟨q4,q5⟩,q6,q7⟩:=quart_bd (t:=t) (g:=g) a1 a2 (show r.natAbs<=16 by omega)
  refine (quart_fok px py r t g W _ (rvs_cons.2 ⟨_,rv_t.2 ⟨_,rl_i.2 ⟨⟨by omega,i1⟩,_,rfl,rl_i.2 ⟨⟨by omega,i2⟩,_,rfl,rfl⟩⟩,rfl⟩,_,rfl,rvs_cons.2 ⟨_,rv_i.2 ⟨⟨by omega,i3⟩,rfl⟩,_,rfl,rvs_cons.2 ⟨_,rv_i.2 ⟨⟨by omega,i4⟩,rfl⟩,_,rfl,rvs_cons.2 ⟨_,rv_v.2 ⟨ok,rfl⟩,_,rfl,rfl⟩⟩⟩⟩)).mono fun e w' ⟨v,e1,h1,h2⟩=>⟨v,e1,?_,h2⟩
  simp only [RepA,edV,qV,rv_t,rl_i,rl_nil] at h1 ⊢
  obtain ⟨cs,⟨⟨_,g1⟩,_,rfl,⟨_,g2⟩,_,rfl,⟨_,g3⟩,_,rfl,⟨_,g4⟩,_,rfl,⟨_,g5⟩,_,rfl,⟨_,g6⟩,_,rfl,⟨_,g7⟩,_,rfl,rfl⟩,e2⟩:=h1
  exact ⟨_,⟨⟨q1,g1⟩,_,rfl,⟨q2,g2⟩,_,rfl,⟨q3,g3⟩,_,rfl,⟨q4,g4⟩,_,rfl,⟨q5,g5⟩,_,rfl,⟨q6,g6⟩,_,rfl,⟨q7,g7⟩,_,rfl,rfl⟩,e2⟩
end

set_option maxHeartbeats 4000000
set_option maxRecDepth 100000
section
open Go.RowKit
def sanL:List It:=[.k 1,.k 0,.k 0,.k 4,.k 0,.k 0,.k 0,.k 1,.k 4,.k 0,.k 4,.k 4,.k 0,.k 0,.k 1,.k 4,.k 4,.k 0,.k 4,.k 0,.k 0,.k 1,.k 0,.k 4,.k 0,.k 0,.k 0,.k 0]
def frS (k:Int) (l:List It) (n:Nat) (r:Int):Sh:=⟨k,n,fun i=>edAt ((l.drop (i*7)).take 7),r⟩
def sanO:Sh:=frS 2 sanL 4 0
def sanP:Sh:=shL' 1 [lnEd 2 2 2 2] 1
def sanM:List (Option Mb):=List.replicate 15 none++[some ⟨70,sanL⟩,some ⟨24,[.k 2,.sl 15 4 7,.k 0]⟩]
def sanD0:Ds:=⟨[(5,.eq (blV true)),(10,.eq (blV true)),(13,.eq (blV true)),(14,.eq (ptrN 16))],sanM⟩
def sanD1:Ds:=⟨[(5,.eq (blV true)),(10,.eq (blV true)),(13,.eq (blV true)),(14,.eq (ptrN 16)),(15,.eq (ptrN 17)),(16,.eq (blV (borderQ sanO sanP).2))],sanM++[some ⟨42,gpL (borderQ sanO sanP).1⟩]⟩
noncomputable def sR:List Oper:=match lpC 10 (2*10+1) with | .region _ ops _=>ops.toList | _=>[]
noncomputable def sO (i : Nat) : Oper := ((sR)[i]?).getD ⟨none, .move (.tmp 0), 0, "", #[], none⟩
theorem path_fok (x0 y0 x1 y1 r:Int):Fok Tryz.prog 31 [inV x0 lim,inV y0 lim,inV x1 lim,inV y1 lim,inV r lim] (.one (shpV (shL' 1 [lnEd x0 y0 x1 y1] r))):=fokS [] [] [] [] (by kernel_rfl)
theorem shpV_mono (s:Sh) (v:Value):FMono fun W=>RepV W W (fun _=>0) 0 (shpV s) v:=fun W W' h hb=>by
 obtain ⟨p,c,rfl,h1⟩:=ShAt.of h
 exact (h1.ext hb).rep
theorem gpC_val {W:World} {g:Gp} {b:Bool} {v:Value} (h:RepA W W (fun _=>0) 0 (ofV (g,b)) v):∃ cs,v=.tuple #[.agg cs.toArray,.bool b]/\GpC W g cs:=by
 obtain ⟨_,rfl,h⟩:=h
 obtain ⟨_,hx,_,rfl,h2⟩:=rvs_cons.1 h
 obtain ⟨_,hy,_,rfl,h3⟩:=rvs_cons.1 h2
 cases h3
 obtain ⟨cs,hr,rfl⟩:=rv_t.1 hx
 exact ⟨cs,by rw [(rv_v.1 hy).2],gpC_ofL hr⟩
theorem gpL_rl {V W:World} {r:Nat->Nat} {k:Nat} {g:Gp} {cs:List Value} (h:GpC W g cs):RepL V W r k (gpL g) cs:=by
 obtain ⟨n,p,l,c,m,q,k,d,rfl,h1,h2,⟨i1,i2⟩,⟨j1,j2,j3,j4,j5,j6,j7⟩,k1,k2,k3,k4,k5,k6,k7⟩:=h
 exact ⟨[_],_,rfl,⟨rfl,rfl⟩,[_],_,rfl,⟨rfl,lim64 i1⟩,[_],_,rfl,⟨rfl,lim64 i2⟩,[_,_],_,rfl,⟨_,_,_,_,rfl,h1⟩,[_,_],_,rfl,⟨_,_,_,_,rfl,h2⟩,[_],_,rfl,⟨rfl,lim64 j1⟩,[_],_,rfl,⟨rfl,lim64 j2⟩,[_],_,rfl,⟨rfl,lim64 j3⟩,[_],_,rfl,⟨rfl,lim64 j4⟩,[_],_,rfl,⟨rfl,lim64 j5⟩,[_],_,rfl,⟨rfl,lim64 j6⟩,[_],_,rfl,⟨rfl,lim64 j7⟩,[_],_,rfl,⟨rfl,lim64 k1⟩,[_],_,rfl,⟨rfl,lim64 k2⟩,[_],_,rfl,⟨rfl,lim64 k3⟩,[_],_,rfl,⟨rfl,lim64 k4⟩,[_],_,rfl,⟨rfl,lim64 k5⟩,[_],_,rfl,⟨rfl,lim64 k6⟩,[_],[],rfl,⟨rfl,lim64 k7⟩,rfl⟩
theorem san_10:OrcOk Tryz.prog (lpC 10 (2*10+1)) ⟨nF 10,sanD0,.nm,sanD1⟩:=by
 intro V a w Q hJ hQ
 obtain ⟨r,cm,⟨hM,hd⟩,hsz,hT⟩:=hJ
 have hn:a.tmps.size=134:=hsz.trans (by kernel_rfl)
 have t14:RepV V w r 17 (ptrN 16) (a.tmps.getD 14 undef):=hT 14 (.one (ptrN 16)) (by kernel_rfl)
 have e14:a.tmps.getD 14 undef=.pointer (some ⟨r 16,0,none⟩):=by simpa using t14.scal.2
 obtain ⟨h15,q15⟩:=hM.blk 15 ⟨70,sanL⟩ (by kernel_rfl)
 obtain ⟨h16,c,dd,e16,rl,hnd⟩:=hM.blk 16 ⟨24,[.k 2,.sl 15 4 7,.k 0]⟩ (by kernel_rfl)
 have A:∀ W,Ext w W->RepV W W (fun _=>0) 0 (shpV sanO) (.agg c.toArray):=fun W hW =>
  toShF_rep (l:=[.k 2,.fs 0 sanL 4 7,.k 0]) (ps:=[]) (by kernel_rfl) trivial ⟨c,argL_rep (hM.step hW) (show argL sanM [.k 2,.sl 15 4 7,.k 0]=some [.k 2,.fs 0 sanL 4 7,.k 0] by kernel_rfl) (rl.imp (RepI.ext hW)),rfl,nofun⟩
 have hc3:c.length=3:=by
  obtain ⟨_,_,rfl,⟨rfl,_⟩,_,_,rfl,⟨_,_,_,_,rfl,_⟩,_,_,rfl,⟨rfl,_⟩,rfl⟩:=rl
  rfl
 refine wp_as (c':=Code.region 10 sR.toArray true) (by kernel_rfl) ?_
 refine wp_region_F (fun W=>Ext w W) (by kernel_rfl) (by kernel_rfl) (fun W W' h hb=>Ext.step h hb) (fun W h=>h.size) (Below.refl _ _) ?_
 rw [show sR=[sO 0,sO 1,sO 2,sO 3,sO 4,sO 5,sO 6,sO 7,sO 8] by kernel_rfl]
 have d0:(sO 0).dst=some 87:=by kernel_rfl
 have d1:(sO 1).dst=some 88:=by kernel_rfl
 have d2:(sO 2).dst=some 89:=by kernel_rfl
 have d3:(sO 3).dst=some 86:=by kernel_rfl
 have d4:(sO 4).dst=some 90:=by kernel_rfl
 have d5:(sO 5).dst=some 91:=by kernel_rfl
 have d6:(sO 6).dst=some 15:=by kernel_rfl
 have d7:(sO 7).dst=none:=by kernel_rfl
 have d8:(sO 8).dst=some 16:=by kernel_rfl
 refine F_run (v:=.agg c.toArray) (by kernel_rfl) (fun W hW=>?_) ?_
 ·have := ex_load (P := Tryz.prog) (o := sO 0) (a := a) (w := W) (t := 24) (x := .tmp 14) (j := 0) (n := 3) (b := true) (cs := cm 16) (by kernel_rfl) e14 (heap_ext h16 hW) (by kernel_rfl) (by kernel_rfl) (by rw [e16, List.length_append]; omega) nofun
  rw [List.drop_zero,e16,List.take_left' hc3] at this
  exact this
 rw [d0]
 refine F_callE (I:=Value) (fun v=>v) (fun v W=>RepV W W (fun _=>0) 0 (shpV sanP) v) (shpV_mono sanP) (by kernel_rfl) (by kernel_rfl) (fun W hW=>?_) fun v1 hv1=>?_
 ·have en:(execOp (a.put (some 87) (.agg c.toArray)).eval (sO 1)).run Tryz.prog W=.ok (.enter 31 #[.int .i64 2,.int .i64 2,.int .i64 2,.int .i64 2,.int .i64 1]) W:=by
   have:=run_enter (P:=Tryz.prog) (o:=sO 1) (a:=a.put (some 87) (.agg c.toArray)) (f:=31) (x:=.func 31) (caps:=#[]) (cl:={ callee:=.value (.func 31),args:=#[.const (.int .i64 2),.const (.int .i64 2),.const (.int .i64 2),.const (.int .i64 2),.const (.int .i64 1)],argTypes:=#[3,3,3,3,3] }) prog_nm Tryz.func31 rfl (by kernel_rfl) rfl rfl W
   rw [this]
   simp only [List.map_toArray,List.map_cons,List.map_nil]
   rfl
  refine gives_enter en ((path_fok 2 2 2 2 1 W [.int .i64 2,.int .i64 2,.int .i64 2,.int .i64 2,.int .i64 1] ?_).mono ?_)
  ·have i2 : ∀ z : Int, I64 z -> RepV W W (fun _ => 0) 0 (inV z lim) (.int .i64 z) := fun z hz => rv_i.2 ⟨lim64 hz, rfl⟩
   have b2:I64 2:=by unfold I64;omega
   have b1:I64 1:=by unfold I64;omega
   exact rvs_cons.2 ⟨_,i2 2 b2,_,rfl,rvs_cons.2 ⟨_,i2 2 b2,_,rfl,rvs_cons.2 ⟨_,i2 2 b2,_,rfl,rvs_cons.2 ⟨_,i2 2 b2,_,rfl,rvs_cons.2 ⟨_,i2 1 b1,_,rfl,rfl⟩⟩⟩⟩⟩
  ·rintro e W' ⟨v, rfl, hv, hx⟩
   exact ⟨v,rfl,v,rfl,hx,hv⟩
 rw [d1]
 refine F_callE (I:=List Value) (fun cs=>.tuple #[.agg cs.toArray,.bool (borderQ sanO sanP).2]) (fun cs W=>GpC W (borderQ sanO sanP).1 cs) (fun cs W W' h hb=>h.ext hb) (by kernel_rfl) (by kernel_rfl) (fun W hW=>?_) fun cs hcs=>?_
 ·have en:(execOp ((a.put (some 87) (.agg c.toArray)).put (some 88) v1).eval (sO 2)).run Tryz.prog W=.ok (.enter 33 #[.agg c.toArray,v1]) W:=by
   have:=run_enter (P:=Tryz.prog) (o:=sO 2) (a:=(a.put (some 87) (.agg c.toArray)).put (some 88) v1) (f:=33) (x:=.func 33) (caps:=#[]) (cl:={ callee:=.value (.func 33),args:=#[.tmp 87,.tmp 88],argTypes:=#[24,24] }) prog_nm Tryz.func33 rfl (by kernel_rfl) rfl rfl W
   rw [this]
   simp only [List.map_toArray,List.map_cons,List.map_nil]
   rw [show ((a.put (some 87) (.agg c.toArray)).put (some 88) v1).eval (.tmp 87)=.agg c.toArray from (put_ne (by decide)).trans (put_lt (by rw [hn];decide)),show ((a.put (some 87) (.agg c.toArray)).put (some 88) v1).eval (.tmp 88)=v1 from put_lt (by rw [put_size,hn];decide)]
   rfl
  refine gives_enter en ((border_fok sanO sanP W _ (rvs_cons.2 ⟨_,A W hW.1,_,rfl,rvs_cons.2 ⟨_,hW.2,_,rfl,rfl⟩⟩)).mono ?_)
  rintro e W' ⟨v,rfl,hv,hx⟩
  obtain ⟨cs,rfl,hg⟩:=gpC_val hv
  exact ⟨_,rfl,cs,rfl,hx,hg⟩
 rw [d2]
 obtain ⟨W0,hW0⟩:=hcs
 obtain ⟨h21,h1c⟩:=hW0.2.one
 have hnc:=hW0.2.nd
 clear hW0
 obtain ⟨ok,hok⟩:∃ ok,(borderQ sanO sanP).2=ok:=⟨_,rfl⟩
 obtain ⟨G,hG⟩:∃ G,(borderQ sanO sanP).1=G:=⟨_,rfl⟩
 rw [hok,hG]
 refine F_run (v:=.tuple #[.agg cs.toArray,.bool ok]) (by kernel_rfl) (fun W _=>?_) ?_
 ·have := ex_move (P := Tryz.prog) (o := sO 3) (a := ((a.put (some 87) (.agg c.toArray)).put (some 88) v1).put (some 89) (.tuple #[.agg cs.toArray, .bool ok])) (x := .tmp 89) (by kernel_rfl) W
  rw [show ∀ b:Act,b.eval (.tmp 89)=b.tmps.getD 89 undef from fun _=>rfl,put_lt (by rw [put_size,put_size,hn];decide)] at this
  exact this
 rw [d3]
 have s86:((((a.put (some 87) (.agg c.toArray)).put (some 88) v1).put (some 89) (.tuple #[.agg cs.toArray,.bool ok])).put (some 86) (.tuple #[.agg cs.toArray,.bool ok])).tmps.size=134:=by simp [put_size,hn]
 have e86:((((a.put (some 87) (.agg c.toArray)).put (some 88) v1).put (some 89) (.tuple #[.agg cs.toArray,.bool ok])).put (some 86) (.tuple #[.agg cs.toArray,.bool ok])).tmps.getD 86 undef=.tuple #[.agg cs.toArray,.bool ok]:=put_lt (by simp [put_size,hn])
 have off86:∀ t,t ≠ 86->t ≠ 87->t ≠ 88->t ≠ 89->((((a.put (some 87) (.agg c.toArray)).put (some 88) v1).put (some 89) (.tuple #[.agg cs.toArray,.bool ok])).put (some 86) (.tuple #[.agg cs.toArray,.bool ok])).tmps.getD t undef=a.tmps.getD t undef:=fun t h1 h2 h3 h4=>by rw [put_ne (Ne.symm h1),put_ne (Ne.symm h4),put_ne (Ne.symm h3),put_ne (Ne.symm h2)]
 have hd86:((((a.put (some 87) (.agg c.toArray)).put (some 88) v1).put (some 89) (.tuple #[.agg cs.toArray,.bool ok])).put (some 86) (.tuple #[.agg cs.toArray,.bool ok])).defers=[]:=hd
 generalize (((a.put (some 87) (.agg c.toArray)).put (some 88) v1).put (some 89) (.tuple #[.agg cs.toArray,.bool ok])).put (some 86) (.tuple #[.agg cs.toArray,.bool ok])=b at *
 refine F_run (v:=.agg cs.toArray) (by kernel_rfl) (fun W _=>ex_extract (x:=.tmp 86) (j:=0) (vs:=[.agg cs.toArray,.bool ok]) (by kernel_rfl) e86 rfl W) ?_
 rw [d4]
 refine F_run (v:=.bool ok) (by kernel_rfl) (fun W _=>ex_extract (x:=.tmp 86) (j:=1) (vs:=[.agg cs.toArray,.bool ok]) (by kernel_rfl) (by show (b.put (some 90) _).tmps.getD 86 undef=_;rw [put_ne (by decide)];exact e86) rfl W) ?_
 rw [d5]
 refine F_alloc (.cells zGp.toArray 42) (by kernel_rfl) (by kernel_rfl) (fun W _=>?_) (fun g hg=>?_) (by intro g;kernel_rfl)
 ·obtain ⟨i, i1, i2⟩ := info_of (P := Tryz.prog) (t := 42) (z := .agg zGp.toArray) (by kernel_rfl)
  exact ex_alloc (by kernel_rfl) i1 i2 W
 rw [d6]
 have hgw:w.heap.size<=g:=Nat.le_of_not_lt fun h=>hg (List.mem_range.2 h)
 have sB:((b.put (some 90) (.agg cs.toArray)).put (some 91) (.bool ok)).tmps.size=134:=by simp [put_size,s86]
 refine F_store (fun W=>Ext w W/\GpC W G cs/\W.heap[g]? = some (.cells cs.toArray 42)) (fun W W' h hb=>⟨Ext.step h.1 hb,h.2.1.ext hb,heap_ext h.2.2 hb⟩) (fun _ h=>h.1) (by kernel_rfl) (by kernel_rfl) (fun W hW=>?_) ?_
 ·obtain ⟨⟨⟨x1, _⟩, hg1⟩, hgg⟩ := hW
  obtain ⟨o1,o2⟩:=onlyB_setRow (cs':=(zGp.take 0++(cs++zGp.drop (0+cs.length))).toArray) hgg
  have ec:zGp.take 0++(cs++zGp.drop (0+cs.length))=cs:=by rw [List.take_zero,List.nil_append,Nat.zero_add,List.drop_eq_nil_of_le (by rw [h21];decide),List.append_nil]
  refine gives_skip (W:=W.setRow g (zGp.take 0++(cs++zGp.drop (0+cs.length))).toArray) (ex_store (t:=42) (vs:=cs) (x:=.tmp 15) (y:=.tmp 90) (n:=21) (by kernel_rfl) ?_ hgg ?_ (by kernel_rfl) h21 (by rw [h21];decide) h1c) ⟨rfl,by rw [o1.size];exact Nat.le_refl _,x1.trans (o1.below hgw),hg1.only o1 hgg,by rw [o2,ec]⟩
  ·exact put_lt (by rw [sB];decide)
  ·rw [show ∀ c : Act, c.eval (.tmp 90) = c.tmps.getD 90 undef from fun _ => rfl, put_ne (by decide), put_ne (by decide), put_lt (by rw [s86]; decide)]
   rfl
 rw [d7,put_none]
 refine F_run (v:=.bool ok) (by kernel_rfl) (fun W _=>?_) ?_
 ·have := ex_assign (P := Tryz.prog) (o := sO 8) (a := ((b.put (some 90) (.agg cs.toArray)).put (some 91) (.bool ok)).put (some 15) (.pointer (some ⟨g, 0, none⟩))) (x := .tmp 91) (by kernel_rfl) W
  rw [show ∀ c:Act,c.eval (.tmp 91)=c.tmps.getD 91 undef from fun _=>rfl,put_ne (by decide),put_lt (by simp [put_size,s86])] at this
  exact this
 rw [d8]
 rintro W ⟨⟨x1,hg1,hgg⟩,_⟩
 have hM':=hM.step x1
 have hno:∀ b x,mb (mkS (nF 10) sanD0).m b=some x->r b ≠ g:=fun b x hb e=>by
  have:=(Array.getElem?_eq_some_iff.1 (hM.blk b x hb).1).1
  omega
 have hM2:=hM'.new (T:=42) (l:=gpL G) hgg (RepL.pre (gpL_rl hg1)) (by have:=hM.ext.size;omega) hno
 have hd1:sanD1=⟨[(5,.eq (blV true)),(10,.eq (blV true)),(13,.eq (blV true)),(14,.eq (ptrN 16)),(15,.eq (ptrN 17)),(16,.eq (blV ok))],sanM++[some ⟨42,gpL G⟩]⟩:=by unfold sanD1;rw [hok,hG]
 rw [hd1] at hQ
 have off:∀ t,t ≠ 86->t ≠ 87->t ≠ 88->t ≠ 89->t ≠ 90->t ≠ 91->t ≠ 15->t ≠ 16->((((b.put (some 90) (.agg cs.toArray)).put (some 91) (.bool ok)).put (some 15) (.pointer (some ⟨g,0,none⟩))).put (some 16) (.bool ok)).tmps.getD t undef=a.tmps.getD t undef:=fun t h1 h2 h3 h4 h5 h6 h7 h8=>by
  rw [put_ne (Ne.symm h8),put_ne (Ne.symm h7),put_ne (Ne.symm h6),put_ne (Ne.symm h5)]
  exact off86 t h1 h2 h3 h4
 have up':∀ {v:V1} {x:Value},RepV V w r 17 v x->RepV V W (up r 17 g) 18 v x:=fun {v x} h=>by
  obtain ⟨cs',k1,k2⟩:=h
  exact ⟨cs',k1.imp fun i cs h=>RepI.grow (Nat.le_succ _) (fun b hb=>up_old hb) i cs (RepI.ext x1 i cs h),k2⟩
 refine hQ _ _ ⟨up r 17 g,upM cm 17 cs,⟨hM2,hd86⟩,?_,fun i v hv=>?_⟩
 ·show (Act.put _ _ _).tmps.size = _
  rw [put_size,put_size,sB]
  kernel_rfl
 ·rcases Tr.sets_get (Tm.get_lt hv).2 with rfl | ⟨x, hx', rfl⟩
  ·trivial
  ·simp only [List.mem_cons, List.not_mem_nil, or_false, Prod.mk.injEq] at hx'
   rcases hx' with ⟨rfl,rfl⟩ | ⟨rfl,rfl⟩ | ⟨rfl,rfl⟩ | ⟨rfl,rfl⟩ | ⟨rfl,rfl⟩ | ⟨rfl,rfl⟩
   ·rw [off 5 (by decide) (by decide) (by decide) (by decide) (by decide) (by decide) (by decide) (by decide)];exact up' (hT 5 (.one (blV true)) (by kernel_rfl))
   ·rw [off 10 (by decide) (by decide) (by decide) (by decide) (by decide) (by decide) (by decide) (by decide)];exact up' (hT 10 (.one (blV true)) (by kernel_rfl))
   ·rw [off 13 (by decide) (by decide) (by decide) (by decide) (by decide) (by decide) (by decide) (by decide)];exact up' (hT 13 (.one (blV true)) (by kernel_rfl))
   ·rw [off 14 (by decide) (by decide) (by decide) (by decide) (by decide) (by decide) (by decide) (by decide)];exact up' t14
   ·rw [put_ne (by decide), put_lt (by rw [sB]; decide)]
    exact RepI.val (i:=.p 17 0) ⟨Nat.lt_succ_self _,by simp [up]⟩
   ·rw [put_lt (by rw [put_size, sB]; decide)]
    exact rv_v.2 ⟨rfl,rfl⟩
end
end Go.Proofs.YtceemiodpccbhaaGreat
