import Derived.Test.YtceemiodpccbhaaGreatQ28
set_option linter.unusedVariables false
set_option linter.unusedSimpArgs false

namespace Go.Proofs.YtceemiodpccbhaaGreat
open Go.RowKit

set_option maxHeartbeats 4000000
set_option maxRecDepth 100000
section
open Go.RowKit Go.Shelf
attribute [local go_sem] Oper.semAt_some
attribute [local go_sem] Gives givesU
theorem gapOf_yes(a b:Sh)(h1:chkS a=0)(h2:chkS b=0):Fok Tryz.prog 14 [shpV a,shpV b] (ofV (ofG a b,true)):=by
 intro w vals hv
 obtain⟨va,ha,_,rfl,hv1⟩:=rvs_cons.1 hv
 obtain⟨vb,hb,_,rfl,hv2⟩:=rvs_cons.1 hv1
 cases hv2
 obtain⟨p,c,rfl,Ha⟩:=ShAt.of ha
 obtain⟨q,d,rfl,Hb⟩:=ShAt.of hb
 have ga:=chk_good h1
 have gb:=chk_good h2
 have na:1<=a.n/\a.n<=1000:=⟨ga.n1,by have:=ga.n40;omega⟩
 have nb:1<=b.n/\b.n<=1000:=⟨gb.n1,by have:=gb.n40;omega⟩
 have C1:=Lib.hid (rightC' a Ha)
 have C2:=Lib.hid (rightC' b Hb)
 have C3:=Lib.hid (aroundC a b Ha Hb na.2 (by omega))
 have C4:=Lib.hid (aroundC b a Hb Ha nb.2 (by omega))
 have HA:=Lib.hid Ha
 have HB:=Lib.hid Hb
 have NA:=Lib.hid na
 have NB:=Lib.hid nb
 clear ha hb hv hv1 Ha Hb ga gb na nb
 have b1:(chkS a==0)=true:=by simpa using h1
 have b2:(chkS b==0)=true:=by simpa using h2
 clear h1 h2
 have z0:∀w:World,(w.alloc (.cells zGp.toArray 42)).heap[w.heap.size]? = some (.cells zGp.toArray 42):=fun w=>World.alloc_heap_new _ _
 have hx0:Ext w (((w.alloc (.cells #[.int .i64 a.k,.slice p a.n c,.int .i64 a.r] 24)).alloc (.cells #[.int .i64 b.k,.slice q b.n d,.int .i64 b.r] 24)).alloc (.cells zGp.toArray 42)):=bxx
 have P0:PS w (((w.alloc (.cells #[.int .i64 a.k,.slice p a.n c,.int .i64 a.r] 24)).alloc (.cells #[.int .i64 b.k,.slice q b.n d,.int .i64 b.r] 24)).alloc (.cells zGp.toArray 42)) a b p q c d :=
  ⟨hx0,(below_alloc _ _).trans ((below_alloc _ _).mono (by simp)) |> heap_ext (World.alloc_heap_new _ _),heap_ext (by have:=World.alloc_heap_new (w.alloc (.cells #[.int .i64 a.k,.slice p a.n c,.int .i64 a.r] 24)) (.cells #[.int .i64 b.k,.slice q b.n d,.int .i64 b.r] 24);simpa[shC3] using this) (below_alloc _ _),by have:=z0 ((w.alloc (.cells #[.int .i64 a.k,.slice p a.n c,.int .i64 a.r] 24)).alloc (.cells #[.int .i64 b.k,.slice q b.n d,.int .i64 b.r] 24));simpa using this⟩
 have HP:=Lib.hid P0
 clear hx0 z0 P0
 refine (callsIn_wide (n:=6)).1 ?_
 refine callsIn_of_wp_marks Tryz.func14 rfl trivial ?_ rfl
 refine wpIn_wide.2 ?_
 simp only[Tryz.ntmps14,List.size_toArray,List.length_cons,List.length_nil,Nat.reduceAdd,Nat.reduceSub,Array.replicate_succ,Array.replicate_zero,List.push_toArray,List.append_toArray,List.nil_append,List.cons_append]
 go_wp2_with fail
 go_step3
 go_wp2_with fail
 refine (C1.out _ HP.out.ex).mono ?_
 rintro e W1 ⟨rfl,hx1⟩
 rw[b1]
 have P1:=Lib.hid (HP.out.step hx1)
 clear hx1
 obtain⟨⟨k0,k1,k2⟩,k3,k4,k5⟩:=P1.out.cells
 have kz:=P1.out.sz
 go_wp2_with fail
 refine (C2.out _ P1.out.ex).mono ?_
 rintro e W2 ⟨rfl,hx2⟩
 rw[b2]
 have P2:=Lib.hid (P1.out.step hx2)
 clear hx2 k0 k1 k2 k3 k4 k5 kz
 obtain⟨⟨k0,k1,k2⟩,k3,k4,k5⟩:=P2.out.cells
 have kz:=P2.out.sz
 go_wp2_with fail
 rename_i K1 HK1 K2 HK2
 have FIN:=Lib.hid (fun (A:Act) (W:World) (m0:Bool) (B6:Nat) (hm:(aroB a b||aroB b a)=m0) hsz hd h2 h3 h4 h6 ps g6 hB6=>HK1 A W (wp_as (c':=rest4) (by kernel_rfl) (rest4_ok w W A a b p q c d B6 m0 HA.out HB.out NA.out NB.out hm hsz hd h2 h3 h4 h6 ps g6 hB6)))
 clear HK1
 cases h3:aroB a b with
 | true =>
  rw[h3] at C3 FIN
  refine (C3.out _ P2.out.ex).mono ?_
  rintro e W3 ⟨rfl,hx3⟩
  have P3:=Lib.hid (P2.out.step hx3)
  clear hx3 k0 k1 k2 k3 k4 k5 kz C1 C2 C3 C4
  go_wp2
  exact FIN.out _ _ true W3.heap.size rfl rfl rfl rfl rfl rfl rfl (P3.out.step (below_alloc _ _)) (World.alloc_heap_new _ _) P3.out.sz
 | false =>
  rw[h3] at C3 FIN
  refine (C3.out _ P2.out.ex).mono ?_
  rintro e W3 ⟨rfl,hx3⟩
  have P3:=Lib.hid (P2.out.step hx3)
  clear hx3 k0 k1 k2 k3 k4 k5 kz C1 C2 C3
  obtain⟨⟨k0,k1,k2⟩,k3,k4,k5⟩:=P3.out.cells
  have kz:=P3.out.sz
  go_wp2_with fail
  refine (C4.out _ P3.out.ex).mono ?_
  rintro e W4 ⟨rfl,hx4⟩
  have P4:=Lib.hid (P3.out.step hx4)
  clear hx4 k0 k1 k2 k3 k4 k5 kz C4
  go_wp2
  exact FIN.out _ _ (aroB b a) W4.heap.size rfl rfl rfl rfl rfl rfl rfl (P4.out.step (below_alloc _ _)) (World.alloc_heap_new _ _) P4.out.sz
theorem gapOf_fok(a b:Sh):Fok Tryz.prog 14 [shpV a,shpV b] (ofV (ofQ a b)):=by
 by_cases h:chkS a≠0\/chkS b≠0
 ·unfold ofQ
  rw[if_pos h]
  exact gapOf_no a b h
 ·unfold ofQ
  rw[if_neg h]
  have h1:chkS a=0:=Classical.not_not.1 fun g=>h (.inl g)
  have h2:chkS b=0:=Classical.not_not.1 fun g=>h (.inr g)
  have:=gapOf_yes a b h1 h2
  unfold ofG at this
  split at this
  ·rename_i hm
   rw[if_pos hm];exact this
  ·rename_i hm
   rw[if_neg hm];exact this
end

set_option maxRecDepth 100000
section
def toShF(l:List It):Option (Sh×List Prop) :=
 match l with
 | [i,.fs _ m n z,k]=>(match asI i,asI k with
  | some x,some y=>if z=7/\(m.all fun i=>i.n==1)=true/\((List.range n).all fun i=>isEd ((m.drop (i*7)).take 7))=true then some (⟨x.1,n,fun i=>edAt ((m.drop (i*7)).take 7),y.1⟩,[]) else none
  | _,_=>none)
 | l=>toSh l
theorem toShF_rep{V W:World}{r:Nat->Nat}{k:Nat}{l:List It}{s:Sh}{ps:List Prop}{x:Value}(h:toShF l=some (s,ps))(hp:All ps)(hr:RepV V W r k ⟨true,l⟩ x):RepV V W r k (shpV s) x:=by
 unfold toShF at h
 split at h
 ·rename_i i o m n z k
  split at h
  ·rename_i x y hx hy
   split at h
   ·rename_i hc
    obtain⟨rfl,c1,c2⟩:=hc
    cases h
    have ht:toSh [i,.fs o m n 7,k]=some (⟨x.1,n,fun i=>edAt ((m.drop (i*7)).take 7),y.1⟩,[∀i,i<n->isEd ((m.drop (i*7)).take 7)=true]):=by
     unfold toSh toRo
     simp only[hx,hy,c1,and_self,if_true]
    exact toSh_rep ht ⟨fun i hi=>List.all_eq_true.1 c2 i (List.mem_range.2 hi),trivial⟩ hr
   ·cases h
  ·cases h
 ·exact toSh_rep h hp hr
def sh2F(f:FuncId)(g:Sh->Sh->AV)(h:∀s u,Fok Tryz.prog f [shpV s,shpV u] (g s u)):Con where
 f:=f
 g:=fun | [⟨true,l⟩,⟨true,m⟩]=>(match toShF l,toShF m with|some z,some y=>some (g z.1 y.1,z.2++y.2)|_,_=>none)|_=>none
 ok:=by
  intro args res ps h' hp
  split at h'<;>try cases h'
  split at h'<;>cases h'
  rename_i he hq
  obtain⟨p1,p2⟩:=All.app hp
  exact (h _ _).pre fun W=>rvs_1 (fun v hv=>toShF_rep he p1 hv) (rvs_1 (fun v hv=>toShF_rep hq p2 hv) rvs_0)
def sh3F(f:FuncId)(g:Sh->Sh->Int->AV)(h:∀s u z,Fok Tryz.prog f [shpV s,shpV u,inV z lim] (g s u z)):Con where
 f:=f
 g:=fun | [⟨true,l⟩,⟨true,m⟩,⟨false,[.i z _]⟩]=>(match toShF l,toShF m with|some x,some y=>some (g x.1 y.1 z,x.2++y.2)|_,_=>none)|_=>none
 ok:=by
  intro args res ps h' hp
  split at h'<;>try cases h'
  split at h'<;>cases h'
  rename_i he hq
  obtain⟨p1,p2⟩:=All.app hp
  exact (h _ _ _).pre fun W=>rvs_1 (fun v hv=>toShF_rep he p1 hv) (rvs_1 (fun v hv=>toShF_rep hq p2 hv) (rvs_1 in_lim rvs_0))
def cGapF:Con:=sh2F 14 (fun s u=>ofV (ofQ s u)) gapOf_fok
def cmpG(g:Gp)(z:Int):Int:=cmpRt g.d ⟨z,0,zero,ofZ 1⟩
def touchQ(a b:Sh):Bool:=(ofQ a b).2&&decide (cmpG (ofQ a b).1 0<=0)
def leastB(a b:Sh)(z:Int):Bool:=(ofQ a b).2&&decide (cmpG (ofQ a b).1 z >= 0)
def bordS(s:Sh):Sh:=⟨1,s.n,s.e,0⟩
def borderQ(a b:Sh):Gp×Bool:=if a.k≠2\/chkS a≠0 then (Gp.no,false) else ofQ (bordS a) b
def holdsQ(a b:Sh)(z:Int):Bool :=
 if (borderQ a b).2=false\/(borderQ a b).1.m=true\/cmpG (borderQ a b).1 z<0 then false else insS a (b.e 0).ax (b.e 0).ay&&!(aroB b a)
def KTo:List Con:=[cGapF,cCmpInt]
theorem touch_fok(s u:Sh):Fok Tryz.prog 19 [shpV s,shpV u] (.one (blV (touchQ s u))):=by
 cases h:(ofQ s u).2 with
 | false=>exact Fok.bb (show touchQ s u=false by unfold touchQ;rw[h];rfl) (fok KTo [false] [pEd s,pEd u,pF h] (by kernel_rfl))
 | true=>exact Fok.bb (show touchQ s u=decide (cmpG (ofQ s u).1 0<=0) by unfold touchQ;rw[h];rfl) (fok KTo [true] [pEd s,pEd u,pT h] (by kernel_rfl))
theorem least2_fok(s u:Sh)(z:Int):Fok Tryz.prog 27 [shpV s,shpV u,inV z lim] (.one (blV (leastB s u z))):=by
 cases h:(ofQ s u).2 with
 | false=>exact Fok.bb (show leastB s u z=false by unfold leastB;rw[h];rfl) (fok KTo [false] [pEd s,pEd u,pF h] (by kernel_rfl))
 | true=>exact Fok.bb (show leastB s u z=decide (cmpG (ofQ s u).1 z >= 0) by unfold leastB;rw[h];rfl) (fok KTo [true] [pEd s,pEd u,pT h] (by kernel_rfl))
def cTouch:Con:=sh2F 19 (fun s u=>.one (blV (touchQ s u))) touch_fok
def cLeastG:Con:=sh3F 27 (fun s u z=>.one (blV (leastB s u z))) least2_fok
def KBo:List Con:=[cGapF,cShChk]
theorem nz_b{z:Int}(h:z≠0):(!(z==0))=true:=by simpa using h
theorem z_b{z:Int}(h:z=0):(!(z==0))=false:=by simpa using h
theorem border_fok(s u:Sh):Fok Tryz.prog 33 [shpV s,shpV u] (ofV (borderQ s u)):=by
 unfold borderQ
 by_cases h1:s.k≠2
 ·rw [if_pos (.inl h1)]
  exact fok KBo [true] [pT (ne_T h1)] (by kernel_rfl)
 by_cases h2:chkS s≠0
 ·rw [if_pos (.inr h2)]
  exact fok KBo [false,true] [pF (ne_F h1),pEd s,pT (nz_b h2)] (by kernel_rfl)
 ·rw [if_neg (fun g => g.elim h1 h2)]
  exact fok KBo [false,false] [pF (ne_F h1),pEd s,pF (z_b (Classical.not_not.1 h2)),pEd s,pEd u] (by kernel_rfl)
def cBord:Con:=sh2F 33 (fun s u=>ofV (borderQ s u)) border_fok
def cAro:Con where
 f:=47
 g:=fun | [⟨true,l⟩,⟨true,m⟩]=>(match toShF l,toShF m with|some z,some y=>some (.one (blV (aroB z.1 y.1)),z.2++(y.2++[z.1.n<=1000,0<y.1.n]))|_,_=>none)|_=>none
 ok:=by
  intro args res ps h' hp
  split at h'<;>try cases h'
  split at h'<;>cases h'
  rename_i he hq
  obtain⟨p1,p2⟩:=All.app hp
  obtain⟨p2,p3⟩:=All.app p2
  exact (around_fok _ _ p3.1 p3.2.1).pre fun W=>rvs_1 (fun v hv=>toShF_rep he p1 hv) (rvs_1 (fun v hv=>toShF_rep hq p2 hv) rvs_0)
def KHo:List Con:=[cBord,cAro,cIns,cCmpInt]
theorem ofQ_ok{a b:Sh}(h:(ofQ a b).2=true):chkS a=0/\chkS b=0:=by
 unfold ofQ at h
 split at h
 ·cases h
 ·rename_i hn
  exact⟨Classical.not_not.1 fun g=>hn (.inl g),Classical.not_not.1 fun g=>hn (.inr g)⟩
theorem borderQ_ok{a b:Sh}(h:(borderQ a b).2=true):(a.k=2/\chkS a=0)/\chkS (bordS a)=0/\chkS b=0:=by
 unfold borderQ at h
 split at h
 ·cases h
 ·rename_i hn
  exact⟨⟨Classical.not_not.1 fun g=>hn (.inl g),Classical.not_not.1 fun g=>hn (.inr g)⟩,ofQ_ok h⟩
theorem holds_fok(s u:Sh)(z:Int):Fok Tryz.prog 25 [shpV s,shpV u,inV z lim] (.one (blV (holdsQ s u z))):=by
 cases h1:(borderQ s u).2 with
 | false=>exact Fok.bb (show holdsQ s u z=false by unfold holdsQ;rw[if_pos (.inl h1)]) (fok KHo [true] [pEd s,pEd u,pT (not_T h1)] (by kernel_rfl))
 | true =>
  cases h2:(borderQ s u).1.m with
  | true=>exact Fok.bb (show holdsQ s u z=false by unfold holdsQ;rw[if_pos (.inr (.inl h2))]) (fok KHo [false,true] [pEd s,pEd u,pF (not_F h1),pT h2] (by kernel_rfl))
  | false =>
   by_cases h3:cmpG (borderQ s u).1 z<0
   ·exact Fok.bb (show holdsQ s u z=false by unfold holdsQ;rw[if_pos (.inr (.inr h3))]) (fok KHo [false,false,true] [pEd s,pEd u,pF (not_F h1),pF h2,pT (decide_eq_true h3)] (by kernel_rfl))
   ·obtain ⟨⟨_, k1⟩, _, k2⟩ := borderQ_ok h1
    have g1:=chk_good k1
    have g2:=chk_good k2
    have n1:=g1.n40
    have n2:=g2.n40
    have m1:=g1.n1
    have m2:=g2.n1
    have e0:holdsQ s u z=(insS s (u.e 0).ax (u.e 0).ay&&!(aroB u s)):=by unfold holdsQ;rw[if_neg (by simp[h1,h2,h3])]
    cases h4:insS s (u.e 0).ax (u.e 0).ay with
    | false=>exact Fok.bb (show holdsQ s u z=false by rw[e0,h4];rfl) (fok KHo [false,false,false,false] [pEd s,pEd u,pF (not_F h1),pF h2,pF (decide_eq_false h3),pP (show 0<=(0:Int)/\(0:Int)<u.n by omega),pEd s,pP (show s.n<=1000 by omega),pF h4] (by kernel_rfl))
    | true=>exact Fok.bb (show holdsQ s u z=!(aroB u s) by rw[e0,h4];rfl) (fok KHo [false,false,false,true] [pEd s,pEd u,pF (not_F h1),pF h2,pF (decide_eq_false h3),pP (show 0<=(0:Int)/\(0:Int)<u.n by omega),pEd s,pP (show s.n<=1000 by omega),pT h4,pEd u,pEd s,pP (show u.n<=1000 by omega),pP (show 0<s.n by omega)] (by kernel_rfl))
def cHolds:Con:=sh3F 25 (fun s u z=>.one (blV (holdsQ s u z))) holds_fok
end

set_option maxHeartbeats 2000000
set_option maxRecDepth 100000
section
attribute [local go_sem] Gives givesU
def DrawH(w:World)(B:Nat)(v:Value)(d:List Value)(T:TypeId)(k:Nat):Prop:=w.heap[B]? = some (.cells (v::.int .i64 (k:Nat)::d).toArray T)
theorem DrawH.at{w:World}{B len cp k:Nat}{a:Option Addr}{d:List Value}{T:TypeId}(h:DrawH w B (.slice a len cp) d T k):DrawAt w B a len cp k:=by
 unfold DrawH at h
 refine⟨(Array.getElem?_eq_some_iff.1 h).1,?_,?_,fun o=>by simp[World.frozen?,h]⟩
 ·rw[cell_of_row _ _ _ _ _ _ h];simp
 ·rw[cell_of_row _ _ _ _ _ _ h];simp
theorem DrawH.ext{w w':World}{B k:Nat}{v:Value}{d:List Value}{T:TypeId}(h:DrawH w B v d T k)(hx:Ext w w'):DrawH w' B v d T k:=heap_ext h hx
theorem DrawH.set{w:World}{B k:Nat}{v:Value}{d:List Value}{T:TypeId}(h:DrawH w B v d T k)(j:Nat):DrawH (w.setCell ⟨B,1,none⟩ (.int .i64 (j:Nat))) B v d T j:=by
 unfold DrawH at *
 have hB:=(Array.getElem?_eq_some_iff.1 h).1
 have e:=(Array.getElem?_eq_some_iff.1 h).2
 rw[Array.getElem?_eq_some_iff]
 refine⟨by simpa[World.setCell] using hB,?_⟩
 simp only[World.setCell,Array.getElem_modify,if_true,e]
 simp
theorem r01_NextH(L:List Int)(B:Nat)(a:Option Addr)(len cp k:Nat)(n:Int)(d:List Value)(T:TypeId)(w:World)(hH:DrawH w B (.slice a len cp) d T k)(hL:Ints w a len L)(hne:0<len->∀x,a=some x->x.block≠B)(hn:0<n/\n<=4294967296)(hk:k<=len) :
  Calls Tryz.prog 34 #[.pointer (some ⟨B,0,none⟩),.int .i64 n] w fun e w'=>e=.returned (.int .i64 (nextV L k n))/\DrawH w' B (.slice a len cp) d T (nextK L k)/\Past B w w':=by
 have hd:=hH.at
 obtain⟨hB,c0,c1,hf⟩:=hd
 obtain⟨hl,hm,hrow⟩:=hL
 by_cases hlt:k<len
 ·have e1 : nextV L k n = modZ (L[k]?.getD 0) n := by unfold nextV; rw [if_pos (by omega)]
  have e2:nextK L k=k+1:=by unfold nextK;rw[if_pos (by omega)]
  rw[e1,e2]
  obtain⟨b,o,rfl,hb,hc⟩:=hrow (by omega)
  have hck:=hc k hlt
  have hbB:b≠B:=hne (by omega) _ rfl
  obtain⟨x,X⟩:∃x,L[k]?.getD 0=x:=⟨_,rfl⟩
  rw[X] at hck ⊢
  have MC:=Lib.hid (fun w=>r01_Mod x n w hn)
  replace hH:=Lib.hid hH
  clear e1 e2 hc hrow hl hne X hn
  have w1:IntKind.i64.wrap ((k:Int)+1)=((k+1:Nat):Int):=by rw[wrap_in];rfl;unfold I64;omega
  have w2:IntKind.i64.wrap (((k+1:Nat):Int)-1)=(k:Int):=by rw[wrap_in];omega;unfold I64;omega
  have g1:decide ((len:Int)<=(k:Int))=false:=by rw[decide_eq_false_iff_not];omega
  have i0:(0:Int)<=(k:Int):=by omega
  have i1:(k:Int)<(len:Int):=by omega
  go_enter Tryz.func34,Tryz.ntmps34
  have w3:IntKind.i64.wrap (k:Int)=(k:Int):=by rw[wrap_in];unfold I64;omega
  have ts:(k:Int).toNat=k:=by omega
  go_wp2_with fail
  refine wp_FSc (fun W=>W.cell? ⟨B,0,none⟩=some (.slice (some ⟨b,o,none⟩) len cp)/\W.cell? ⟨B,1,none⟩=some (.int .i64 k)) ?_
  repeat (first|refine F_s ?_|refine F_r ?_)
  rintro W ⟨hx,hc0,hc1⟩
  have hdW:DrawAt W B (some ⟨b,o,none⟩) len cp k:=DrawAt.ext ⟨hB,c0,c1,hf⟩ hx
  have hfW:=hdW.2.2.2
  have hkW:W.cell? ⟨b,o+k,none⟩=some (.int .i64 x):=(hx.cell (p:=⟨b,o+k,none⟩) hb).trans hck
  have hBW:B<W.heap.size:=Nat.lt_of_lt_of_le hB hx.size
  have hbW:b<W.heap.size:=Nat.lt_of_lt_of_le hb hx.size
  have hxs:=hx.size
  clear hdW
  have HD:=Lib.hid (hH.out.ext hx)
  have HX:Hid (Ext w W):=hx
  clear hx
  go_wp2_with fail
  refine wp_FSc (fun W=>W.cell? ⟨B,0,none⟩=some (.slice (some ⟨b,o,none⟩) len cp)/\W.cell? ⟨B,1,none⟩=some (.int .i64 (k+1:Nat))/\W.cell? ⟨b,o+k,none⟩=some (.int .i64 x)) ?_
  repeat (first|refine F_s ?_|refine F_r ?_)
  refine F_c (.int .i64 (modZ x n)) (fun W hW=>MC.out _) ?_
  repeat (first|refine F_s ?_|refine F_r ?_)
  rintro W2 ⟨hx2,hc2⟩
  go_wp2
  go_ret
  exact⟨rfl,(HD.out.set _).ext hx2,((Past.of_ext HX.out).step (Past.set W 1 _)).step (Past.of_ext hx2)⟩
 ·have e1 : nextV L k n = 0 := by unfold nextV; rw [if_neg (by omega)]
  have e2:nextK L k=k:=by unfold nextK;rw[if_neg (by omega)]
  rw[e1,e2]
  have g1:decide ((len:Int)<=(k:Int))=true:=by rw[decide_eq_true_iff];omega
  have hdh:=Lib.hid hH
  clear hH
  clear e1 e2 hl hne hn hrow
  go_enter Tryz.func34,Tryz.ntmps34
  go_wp2_with fail
  refine wp_FSc (fun W=>W.cell? ⟨B,0,none⟩=some (.slice a len cp)/\W.cell? ⟨B,1,none⟩=some (.int .i64 k)) ?_
  repeat (first|refine F_s ?_|refine F_r ?_)
  rintro W ⟨hx,hc0,hc1⟩
  go_wp2
  go_ret
  exact⟨rfl,hdh.out.ext hx,Past.of_ext hx⟩
theorem ints_ne{w:World}{L:List Int}{v:Value}{B:Nat}(h:IntsC w L v)(hne:∀a len c,v=.slice a len c->0<len->∀x,a=some x->x.block≠B):∃a len c,v=.slice a len c/\Ints w a len L/\(0<len->∀x,a=some x->x.block≠B):=by
 obtain⟨a,len,c,e,h1,h2,h3⟩:=h
 exact⟨a,len,c,e,h1,hne a len c e⟩
theorem nextK_le{L:List Int}{k:Nat}(h:k<=L.length):nextK L k<=L.length:=by unfold nextK;split<;>omega
def xNext:Eff where
 f:=34
 g:=fun L k args=>match args with | [⟨false,[.i n _]⟩]=>if 0<n/\n<=4294967296 then some (⟨false,[.i (nextV L k n) n.natAbs]⟩,nextK L k,[]) else none|_=>none
 ok:=by
  intro L k args res k' ps h hp W B v d T vals hg hL hne hk hv
  simp only at h
  split at h<;>(try (cases h;done))
  split at h<;>cases h
  rename_i n A hn
  simp only[rvs_cons,rvs_nil,rv_i] at hv
  obtain⟨_,⟨_,rfl⟩,_,rfl,rfl⟩:=hv
  obtain⟨a,len,c,rfl,h1,h2⟩:=ints_ne hL hne
  refine (r01_NextH L B a len c k n d T W hg h1 h2 hn (by rw[h1.1];exact hk)).mono fun e w' ⟨e1,h3,h4⟩=>⟨_,e1,?_,h3,nextK_le hk,h4⟩
  have:=nextV_bd L k hn.1
  exact rv_i.2 ⟨⟨by omega,by unfold I64;omega⟩,rfl⟩
end
def nK(L:List Int):Nat->Nat
 | 0=>0
 | n+1=>nextK L (nK L n)
def nV(L:List Int)(n:Nat)(m:Int):Int:=nextV L (nK L n) m
theorem nV_bd(L:List Int)(n:Nat){m:Int}(h:0<m):0<=nV L n m/\nV L n m<m:=nextV_bd _ _ h

set_option maxRecDepth 100000
section
def c40:Nat:=1099511627776
abbrev p4:Pf:=⟨(4:Int)≠0,by decide⟩
def moV(ax ay n:Int)(m:Bool)(A:Nat):V1:=⟨true,[.i ax A,.i ay A,.i n A,.v (.bool m)]⟩
def ptL(p:Int×Int):V1:=⟨true,[.i p.1 lim,.i p.2 lim]⟩
def applyQ(ax ay n:Int)(m:Bool)(x y:Int):Int×Int:=applyP ax ay (modZ n 4) m x y
theorem tn0{n x y ax ay:Int}{m:Bool}(h:modZ n 4=0):applyQ ax ay n m x y=((if m then 0-x else x)+ax,y+ay):=by
 unfold applyQ applyP;rw[h];cases m<;>simp[rot,mir]
theorem tn1{n x y ax ay:Int}{m:Bool}(h:modZ n 4=1):applyQ ax ay n m x y=(0-y+ax,(if m then 0-x else x)+ay):=by
 unfold applyQ applyP;rw[h];cases m<;>simp[rot,mir]
theorem tn2{n x y ax ay:Int}{m:Bool}(h:modZ n 4=2):applyQ ax ay n m x y=(0-(if m then 0-x else x)+ax,0-y+ay):=by
 unfold applyQ applyP;rw[h];cases m<;>simp[rot,mir]
theorem tn3{n x y ax ay:Int}{m:Bool}(h:modZ n 4=3):applyQ ax ay n m x y=(y+ax,0-(if m then 0-x else x)+ay):=by
 unfold applyQ applyP;rw[h];cases m<;>simp[rot,mir]
theorem dapply_ok(ax ay n x y:Int)(m:Bool):Fok Tryz.prog 76 [moV ax ay n m c40,ptV x y c40] (.one (ptL (applyQ ax ay n m x y))):=by
 have hb:=modZ_bd n (m:=4) (by omega)
 by_cases h1:modZ n 4=1
 ·rw [tn1 h1]
  cases m with
  | true=>exact fok [] [true,true] [pT rfl,p4,p4,pT (bq_T h1)] (by kernel_rfl)
  | false=>exact fok [] [false,true] [pF rfl,p4,p4,pT (bq_T h1)] (by kernel_rfl)
 by_cases h2:modZ n 4=2
 ·rw [tn2 h2]
  cases m with
  | true=>exact fok [] [true,false,true] [pT rfl,p4,p4,pF (bq_F h1),pT (bq_T h2)] (by kernel_rfl)
  | false=>exact fok [] [false,false,true] [pF rfl,p4,p4,pF (bq_F h1),pT (bq_T h2)] (by kernel_rfl)
 by_cases h3:modZ n 4=3
 ·rw [tn3 h3]
  cases m with
  | true=>exact fok [] [true,false,false,true] [pT rfl,p4,p4,pF (bq_F h1),pF (bq_F h2),pT (bq_T h3)] (by kernel_rfl)
  | false=>exact fok [] [false,false,false,true] [pF rfl,p4,p4,pF (bq_F h1),pF (bq_F h2),pT (bq_T h3)] (by kernel_rfl)
 ·rw [tn0 (by omega)]
  cases m with
  | true=>exact fok [] [true,false,false,false] [pT rfl,p4,p4,pF (bq_F h1),pF (bq_F h2),pF (bq_F h3)] (by kernel_rfl)
  | false=>exact fok [] [false,false,false,false] [pF rfl,p4,p4,pF (bq_F h1),pF (bq_F h2),pF (bq_F h3)] (by kernel_rfl)
theorem rot_bd(t:Nat){x y:Int}{D E:Nat}(h1:x.natAbs<=D)(h2:y.natAbs<=E):(rot t (x,y)).1.natAbs<=D+E/\(rot t (x,y)).2.natAbs<=D+E:=by
 induction t with
 | zero=>exact⟨by simp only[rot];omega,by simp only[rot];omega⟩
 | succ t ih =>
  obtain⟨a,b⟩:=ih
  simp only[rot]
  omega
theorem applyQ_bd{ax ay n x y:Int}{m:Bool}{A B D E:Nat}(a1:ax.natAbs<=A)(a2:ay.natAbs<=B)(h1:x.natAbs<=D)(h2:y.natAbs<=E):(applyQ ax ay n m x y).1.natAbs<=A+B+D+E/\(applyQ ax ay n m x y).2.natAbs<=A+B+D+E:=by
 unfold applyQ applyP mir
 cases m
 ·obtain ⟨u1, u2⟩ := rot_bd (modZ n 4).toNat h1 h2
  simp only[Bool.false_eq_true,if_false]
  omega
 ·obtain ⟨u1, u2⟩ := rot_bd (D := D) (modZ n 4).toNat (x := -x) (by omega) h2
  simp only[if_true]
  omega
def appC(f:FuncId)(S:Int->List Prop)(H:∀(ax ay n x y:Int) (m:Bool),All (S n)->Fok Tryz.prog f [moV ax ay n m c40,ptV x y c40] (.one (ptL (applyQ ax ay n m x y)))):Con where
 f:=f
 g:=fun | [⟨true,[.i ax A,.i ay B,.i n C,.v (.bool m)]⟩,⟨true,[.i x D,.i y E]⟩]=>if (A<=c40/\B<=c40/\C<=c40)/\D<=c40/\E<=c40 then some (.one ⟨true,[.i (applyQ ax ay n m x y).1 (A+B+D+E),.i (applyQ ax ay n m x y).2 (A+B+D+E)]⟩,S n) else none|_=>none
 ok:=by
  intro args res ps h hp
  split at h<;>try cases h
  split at h<;>cases h
  rename_i ax A ay B n C m x D y E hb
  intro W vals hv
  have hv2:=hv
  simp only[rvs_cons,rvs_nil,rv_t,rl_i,rl_v,rl_nil] at hv2
  obtain⟨_,⟨_,⟨⟨a1,i1⟩,_,rfl,⟨a2,i2⟩,_,rfl,⟨a3,i3⟩,_,rfl,_,_,rfl,rfl⟩,rfl⟩,_,rfl,_,⟨_,⟨⟨a4,i4⟩,_,rfl,⟨a5,i5⟩,_,rfl,rfl⟩,rfl⟩,_,rfl,rfl⟩:=hv2
  have hb2:=hb
  unfold c40 at hb2
  obtain⟨q1,q2⟩:=applyQ_bd (n:=n) (m:=m) a1 a2 a4 a5
  refine (H ax ay n x y m hp W _ (rvs_cons.2 ⟨_,rv_t.2 ⟨_,rl_i.2 ⟨⟨by omega,i1⟩,_,rfl,rl_i.2 ⟨⟨by omega,i2⟩,_,rfl,rl_i.2 ⟨⟨by omega,i3⟩,_,rfl,rl_v.2 ⟨rfl,_,rfl,rfl⟩⟩⟩⟩,rfl⟩,_,rfl,rvs_cons.2 ⟨_,rv_t.2 ⟨_,rl_i.2 ⟨⟨by omega,i4⟩,_,rfl,rl_i.2 ⟨⟨by omega,i5⟩,_,rfl,rfl⟩⟩,rfl⟩,_,rfl,rfl⟩⟩)).mono fun e w' ⟨v,e1,h1,h2⟩=>⟨v,e1,?_,h2⟩
  simp only[RepA,ptL,rv_t,rl_i,rl_nil] at h1 ⊢
  obtain⟨cs,⟨⟨_,g1⟩,_,rfl,⟨_,g2⟩,_,rfl,rfl⟩,e2⟩:=h1
  exact⟨_,⟨⟨q1,g1⟩,_,rfl,⟨q2,g2⟩,_,rfl,rfl⟩,e2⟩
def dApply:Con:=appC 76 (fun _=>[]) fun ax ay n x y m _=>dapply_ok ax ay n x y m
end
def lnEd(ax ay bx by':Int):Ed:=⟨1,ax,ay,bx,by',0,0⟩
def rowE(l:List Ed)(i:Nat):Ed:=(l[i]?).getD ⟨0,0,0,0,0,0,0⟩
def shL'(k:Int)(l:List Ed)(r:Int):Sh:=⟨k,l.length,rowE l,r⟩
def rectS(x0 y0 x1 y1:Int):Sh:=shL' 2 [lnEd x0 y0 x1 y0,lnEd x1 y0 x1 y1,lnEd x1 y1 x0 y1,lnEd x0 y1 x0 y0] 0
def discS(x y r:Int):Sh:=shL' 1 [lnEd x y x y] r
def quartE(px py r t:Int)(right:Bool):Ed :=
 let c:=applyQ 0 0 t false r 0
 let v:=applyQ 0 0 (if right then 3 else 1) false (px-(px+c.1)) (py-(py+c.2))
 ⟨if right then 3 else 2,px,py,px+c.1+v.1,py+c.2+v.2,px+c.1,py+c.2⟩
def roundS(px py r w h:Int):Sh :=
 shL' 2 [lnEd (px+r) py (px+r+w) py,⟨2,px+r+w,py,px+r+w+r,py+r,px+r+w,py+r⟩,
  lnEd (px+r+w+r) (py+r) (px+r+w+r) (py+r+h),⟨2,px+r+w+r,py+r+h,px+r+w,py+r+h+r,px+r+w,py+r+h⟩,
  lnEd (px+r+w) (py+r+h+r) (px+r) (py+r+h+r),⟨2,px+r,py+r+h+r,px,py+r+h,px+r,py+r+h⟩,
  lnEd px (py+r+h) px (py+r),⟨2,px,py+r,px+r,py,px+r,py+r⟩] 0
def pathB(L:List Int)(a:Nat):Bool:=decide (nV L (a+2) 2=1)
def pathE(L:List Int)(a:Nat)(px py:Int):Ed :=
 if pathB L a then quartE px py (1+nV L (a+3) 9) (nV L (a+4) 4) (decide (nV L (a+5) 2=1))
 else lnEd px py (max 0 (px+nV L a 21-10)) (max 0 (py+nV L (a+1) 21-10))
def pathN(L:List Int)(a:Nat):Nat:=if pathB L a then a+6 else a+3
def pathL(L:List Int):Nat->Nat->Int->Int->List Ed
 | 0,_,_,_=>[]
 | n+1,a,px,py=>pathE L a px py::pathL L n (pathN L a) (pathE L a px py).bx (pathE L a px py).by'
def madeS(L:List Int):Sh :=
 let x:=nV L 0 50
 let y:=nV L 1 50
 if nV L 2 6=0 then rectS x y (x+1+nV L 3 20) (y+1+nV L 4 20)
 else if nV L 2 6=1 then roundS x y (1+nV L 3 6) (1+nV L 4 9) (1+nV L 5 9)
 else if nV L 2 6=2 then shL' 2 [lnEd x y (x+1+nV L 3 20) (y+nV L 4 9),lnEd (x+1+nV L 3 20) (y+nV L 4 9) (x+nV L 5 9) (y+10+nV L 6 20),lnEd (x+nV L 5 9) (y+10+nV L 6 20) x y] 0
 else if nV L 2 6=3 then discS x y (nV L 3 9)
 else shL' 1 (pathL L (1+nV L 4 3).toNat 5 x y) (nV L 3 6)
def moveE(e:Ed)(x y t:Int)(m:Bool):Ed :=
 ⟨if m then (fam e.k).k else e.k,(applyP x y t m e.ax e.ay).1,(applyP x y t m e.ax e.ay).2,(applyP x y t m e.bx e.by').1,(applyP x y t m e.bx e.by').2,
  if e.k=1 then e.cx else (applyP x y t m e.cx e.cy).1,if e.k=1 then e.cy else (applyP x y t m e.cx e.cy).2⟩

set_option maxHeartbeats 2000000
set_option maxRecDepth 100000
section
attribute [local go_sem] Gives givesU
theorem vec_turns8(ax ay t:Int)(m:Bool)(w:World)(h : -8<=t/\t<=8) :
  Calls Tryz.prog 164 #[.agg #[.int .i64 ax,.int .i64 ay,.int .i64 t,.bool m]] w fun e w'=>e=.returned (.int .i64 (modZ t 4))/\Ext w w':=by
 obtain rfl|rfl|rfl|rfl|rfl|rfl|rfl|rfl|rfl|rfl|rfl|rfl|rfl|rfl|rfl|rfl|rfl:t = -8\/t = -7\/t = -6\/t = -5\/t = -4\/t = -3\/t = -2\/t = -1\/t=0\/t=1\/t=2\/t=3\/t=4\/t=5\/t=6\/t=7\/t=8:=by omega
 all_goals
  go_enter Tryz.func164,Tryz.ntmps164
  go_wp2
  go_ret
  exact⟨rfl,bxx⟩
def cTurns8:Con where
 f:=164
 g:=fun | [⟨true,[.i _ _,.i _ _,.i n _,.v (.bool _)]⟩]=>some (.one (inV (modZ n 4) 3),[-8<=n/\n<=8])|_=>none
 ok:=by
  intro args res ps h hp
  split at h<;>cases h
  rename_i n _ _
  intro W vals hv
  simp only[rvs_cons,rvs_nil,rv_t,rl_i,rl_v,rl_nil] at hv
  obtain⟨_,⟨_,⟨_,_,rfl,_,_,rfl,_,_,rfl,_,_,rfl,rfl⟩,rfl⟩,_,rfl,rfl⟩:=hv
  have hb:=modZ_bd n (m:=4) (by omega)
  exact (vec_turns8 _ _ _ _ W hp.1).mono fun _ _ h=>gv_in ⟨by omega,by unfold I64;omega⟩ h
def KV:List Con:=[cTurns8]
theorem tn3'{n x y ax ay:Int}{m:Bool}(h:modZ n 4=3):applyQ ax ay n m x y=(0-(0-y)+ax,0-(if m then 0-x else x)+ay):=by
 rw[tn3 h];congr 1;omega
theorem vApply_ok(ax ay n x y:Int)(m:Bool)(hn : -8<=n/\n<=8):Fok Tryz.prog 104 [moV ax ay n m c40,ptV x y c40] (.one (ptL (applyQ ax ay n m x y))):=by
 have hb:=modZ_bd n (m:=4) (by omega)
 have q:∀k b,decide (k<modZ n 4)=b->decide (k<modZ n 4)=b:=fun _ _ h=>h
 by_cases h0:modZ n 4=0
 ·have f0 : decide (0 < modZ n 4) = false := by rw [h0]; rfl
  rw[tn0 h0]
  cases m with
  | true=>exact fok KV [true,false] [pT rfl,pP hn,pF f0] (by kernel_rfl)
  | false=>exact fok KV [false,false] [pF rfl,pP hn,pF f0] (by kernel_rfl)
 have t0:decide (0<modZ n 4)=true:=by simp;omega
 by_cases h1:modZ n 4=1
 ·have f1 : decide (0 + 1 < modZ n 4) = false := by rw [h1]; rfl
  rw[tn1 h1]
  cases m with
  | true=>exact fok KV [true,true,false] [pT rfl,pP hn,pT t0,pF f1] (by kernel_rfl)
  | false=>exact fok KV [false,true,false] [pF rfl,pP hn,pT t0,pF f1] (by kernel_rfl)
 have t1:decide (0+1<modZ n 4)=true:=by simp;omega
 by_cases h2:modZ n 4=2
 ·have f2 : decide (0 + 1 + 1 < modZ n 4) = false := by rw [h2]; rfl
  rw[tn2 h2]
  cases m with
  | true=>exact fok KV [true,true,true,false] [pT rfl,pP hn,pT t0,pT t1,pF f2] (by kernel_rfl)
  | false=>exact fok KV [false,true,true,false] [pF rfl,pP hn,pT t0,pT t1,pF f2] (by kernel_rfl)
 have h3:modZ n 4=3:=by omega
 have t2:decide (0+1+1<modZ n 4)=true:=by rw[h3];rfl
 have f3:decide (0+1+1+1<modZ n 4)=false:=by rw[h3];rfl
 rw[tn3' h3]
 cases m with
 | true=>exact fok KV [true,true,true,true,false] [pT rfl,pP hn,pT t0,pT t1,pT t2,pF f3] (by kernel_rfl)
 | false=>exact fok KV [false,true,true,true,false] [pF rfl,pP hn,pT t0,pT t1,pT t2,pF f3] (by kernel_rfl)
def cVApply:Con:=appC 104 (fun n=>[-8<=n/\n<=8]) fun ax ay n x y m h=>vApply_ok ax ay n x y m h.1
def KMv:List Con:=[cOfE,cVApply]
theorem nz_F{k:Int}(h:k=1):(k != 1)=false:=by rw[h];rfl
theorem nz_T{k:Int}(h:¬k=1):(k != 1)=true:=by simpa using h
theorem move_fok(e:Ed)(x y n:Int)(m:Bool)(he:e.ok=true)(hn : -8<=n/\n<=8):Fok Tryz.prog 55 [edV e 3 c26,moV x y n m c26] (.one (edV (moveE e x y (modZ n 4) m) lim lim)):=by
 have hf:(fam e.k).k=1 <-> e.k=1:=by rcases kind_of he with k|k|k<;>rw[k]<;>decide
 unfold moveE
 cases m with
 | true =>
  by_cases hk:e.k=1
  ·simp only [if_pos hk]
   exact fok KMv [true,false] [pT rfl,pF (nz_F (hf.2 hk)),pP hn,pP hn] (by kernel_rfl)
  ·simp only [if_neg hk]
   exact fok KMv [true,true] [pT rfl,pT (nz_T fun h=>hk (hf.1 h)),pP hn,pP hn,pP hn] (by kernel_rfl)
 | false =>
  by_cases hk:e.k=1
  ·simp only [if_pos hk]
   exact fok KMv [false,false] [pF rfl,pF (nz_F hk),pP hn,pP hn] (by kernel_rfl)
  ·simp only [if_neg hk]
   exact fok KMv [false,true] [pF rfl,pT (nz_T hk),pP hn,pP hn,pP hn] (by kernel_rfl)
end

set_option maxRecDepth 100000
section
def edsOf(m:List It)(n:Nat):List Ed:=(List.range n).map fun i=>edAt ((m.drop (i*7)).take 7)
def shOf(z:AV×List Mb):Option (Int×List Ed×Int) :=
 match z.1 with
 | .one ⟨true,[i,.sl b n c,k]⟩=>(match asI i,argI (z.2.map some) (.sl b n c),asI k with
  | some x,some (.fs _ m n c),some y=>if c=7/\(m.all fun i=>i.n==1)=true/\((List.range n).all fun i=>isEd ((m.drop (i*7)).take 7))=true then some (x.1,edsOf m n,y.1) else none
  | _,_,_=>none)
 | _=>none
theorem rowC_congr{R:List It->List Value->Prop}{V:World}{z n:Nat}{f g:Nat->List It}{v:Value}(h:∀i,i<n->f i=g i):RowC R V z n f v->RowC R V z n g v
 | ⟨a,c,e,h1,h2,h3⟩=>⟨a,c,e,h1,h2,fun i hi=>by rw[<- h i hi];exact h3 i hi⟩
theorem rowE_eds(m:List It)(n i:Nat)(h:i<n):rowE (edsOf m n) i=edAt ((m.drop (i*7)).take 7):=by
 unfold rowE edsOf
 simp[h]
theorem shOf_rep{V W:World}{r:Nat->Nat}{cm:Nat->List Value}{z:AV×List Mb}{x:Int×List Ed×Int}{v:Value}(h:shOf z=some x)(hM:RM V r cm (z.2.map some) W)(hv:RepA W W r z.2.length z.1 v):RepV W W (fun _=>0) 0 (shpV (shL' x.1 x.2.1 x.2.2)) v:=by
 obtain⟨z1,ms⟩:=z
 unfold shOf at h
 split at h
 ·rename_i i b n c k hz
  subst hz
  split at h
  ·rename_i x o m n' c' y hx ha hy
   split at h
   ·rename_i hc
    obtain⟨rfl,c1,c2⟩:=hc
    cases h
    obtain⟨cs,⟨a0,_,rfl,q0,a1,_,rfl,q1,a2,_,rfl,q2,rfl⟩,h2,h3⟩:=hv
    have k1:=argI_rep hM ha (show RepI V W r (ms.map some).length (.sl b n c) a1 by rw[List.length_map];exact q1)
    have k0:=asI_lim hx q0
    have k2:=asI_lim hy q2
    obtain⟨rfl,p0⟩:=k0
    obtain⟨rfl,p2⟩:=k2
    have ht:toRo (.fs o m n' 7)=some (n',fun i=>(m.drop (i*7)).take 7):=by
     unfold toRo
     simp only[c1,and_self,if_true]
    obtain⟨v',rfl,hro⟩:=toRo_rep ht (fun i hi=>by rw[List.all_eq_true] at c2;exact c2 i (List.mem_range.2 hi)) k1
    refine⟨_,⟨[_],_,rfl,⟨rfl,p0⟩,[_],_,rfl,⟨_,rfl,?_⟩,[_],[],rfl,⟨rfl,p2⟩,rfl⟩,h2,nofun⟩
    have hl:(edsOf m n').length=n':=by unfold edsOf;simp
    show RowC (RepF W) W 7 (edsOf m n').length _ _
    rw[hl]
    exact rowC_congr (fun i hi=>congrArg edI (rowE_eds m n' i hi).symm) hro
   ·cases h
  ·cases h
 ·cases h
theorem fokS{f:FuncId}{args:List V1}{k:Int}{l:List Ed}{r:Int}(X:List Eff)(K:List Con)(q:List Bool)(pf:List Pf)(h:((aFun Tryz.prog (env X) (tab K) 40 f args q).bind fun z=>(shOf z.1).map fun y=>(y,z.2))=some ((k,l,r),pf.map Pf.p,[])):Fok Tryz.prog f args (.one (shpV (shL' k l r))):=by
 cases hz:aFun Tryz.prog (env X) (tab K) 40 f args q with
 | none=>rw[hz] at h;cases h
 | some z =>
  obtain⟨z0,z2,z3⟩:=z
  rw[hz] at h
  cases hs:shOf z0 with
  | none=>simp[hs] at h
  | some y =>
   simp only[Option.bind_some,hs,Option.map_some,Option.some.injEq,Prod.mk.injEq] at h
   obtain⟨rfl,rfl,rfl⟩:=h
   have hB:=(aFun_ok prog_nm EQ_ok (env_ok X) MT_ok WR_ok (tab_ok K) 40).ok f args q _ _ [] hz (all_pf pf)
   intro W vals hv
   refine (hB W vals hv).mono ?_
   rintro e w' ⟨v,r,cm,rfl,hM,hr⟩
   refine⟨v,rfl,?_,hM.ext⟩
   exact shOf_rep hs hM hr
def qV(e:Ed)(A B:Nat):V1:=⟨true,[.i e.k 3,.i e.ax A,.i e.ay B,.i e.bx (A+64),.i e.by' (B+64),.i e.cx (A+64),.i e.cy (B+64)]⟩
theorem quart_fok(px py r t:Int)(g:Bool):Fok Tryz.prog 39 [ptV px py 1000,inV r 16,inV t 16,blV g] (.one (edV (quartE px py r t g) lim lim)):=by
 unfold quartE
 cases g with
 | true=>exact fok [dApply] [true] [pT rfl] (by kernel_rfl)
 | false=>exact fok [dApply] [false] [pF rfl] (by kernel_rfl)
theorem quart_bd{px py r t:Int}{g:Bool}{A B:Nat}(h1:px.natAbs<=A)(h2:py.natAbs<=B)(h3:r.natAbs<=16):((quartE px py r t g).k.natAbs<=3/\(quartE px py r t g).ax.natAbs<=A/\(quartE px py r t g).ay.natAbs<=B)/\((quartE px py r t g).bx.natAbs<=A+64/\(quartE px py r t g).by'.natAbs<=B+64)/\(quartE px py r t g).cx.natAbs<=A+64/\(quartE px py r t g).cy.natAbs<=B+64:=by
 obtain⟨u1,u2⟩:=applyQ_bd (ax:=0) (ay:=0) (n:=t) (x:=r) (y:=0) (m:=false) (A:=0) (B:=0) (D:=16) (E:=0) (by decide) (by decide) h3 (by decide)
 unfold quartE
 simp only
 generalize applyQ 0 0 t false r 0=c at *
 obtain⟨v1,v2⟩:=applyQ_bd (ax:=0) (ay:=0) (n:=if g then 3 else 1) (x:=px-(px+c.1)) (y:=py-(py+c.2)) (m:=false) (A:=0) (B:=0) (D:=16) (E:=16) (by decide) (by decide) (by omega) (by omega)
 generalize applyQ 0 0 (if g then 3 else 1) false (px-(px+c.1)) (py-(py+c.2))=v at *
 refine⟨⟨by split<;>decide,h1,h2⟩,⟨by omega,by omega⟩,by omega,by omega⟩
def dQuart:Con where
 f:=39
 g:=fun | [⟨true,[.i px A,.i py B]⟩,⟨false,[.i r C]⟩,⟨false,[.i t D]⟩,⟨false,[.v (.bool g)]⟩]=>if (A<=1000/\B<=1000)/\C<=16/\D<=16 then some (.one (qV (quartE px py r t g) A B),[]) else none|_=>none
 ok:=by
  intro args res ps h hp
  split at h<;>try cases h
  split at h<;>cases h
  rename_i px A py B r C t D g hb
  intro W vals hv
  have hv2:=hv
  simp only[rvs_cons,rvs_nil,rv_t,rv_i,rv_v,rl_i,rl_nil] at hv2
  obtain⟨_,⟨_,⟨⟨a1,i1⟩,_,rfl,⟨a2,i2⟩,_,rfl,rfl⟩,rfl⟩,_,rfl,_,⟨⟨a3,i3⟩,rfl⟩,_,rfl,_,⟨⟨a4,i4⟩,rfl⟩,_,rfl,_,⟨ok,rfl⟩,_,rfl,rfl⟩:=hv2
  obtain⟨⟨q1,q2,q3⟩,⟨q4,q5⟩,q6,q7⟩:=quart_bd (t:=t) (g:=g) a1 a2 (show r.natAbs<=16 by omega)
  refine (quart_fok px py r t g W _ (rvs_cons.2 ⟨_,rv_t.2 ⟨_,rl_i.2 ⟨⟨by omega,i1⟩,_,rfl,rl_i.2 ⟨⟨by omega,i2⟩,_,rfl,rfl⟩⟩,rfl⟩,_,rfl,rvs_cons.2 ⟨_,rv_i.2 ⟨⟨by omega,i3⟩,rfl⟩,_,rfl,rvs_cons.2 ⟨_,rv_i.2 ⟨⟨by omega,i4⟩,rfl⟩,_,rfl,rvs_cons.2 ⟨_,rv_v.2 ⟨ok,rfl⟩,_,rfl,rfl⟩⟩⟩⟩)).mono fun e w' ⟨v,e1,h1,h2⟩=>⟨v,e1,?_,h2⟩
  simp only[RepA,edV,qV,rv_t,rl_i,rl_nil] at h1 ⊢
  obtain⟨cs,⟨⟨_,g1⟩,_,rfl,⟨_,g2⟩,_,rfl,⟨_,g3⟩,_,rfl,⟨_,g4⟩,_,rfl,⟨_,g5⟩,_,rfl,⟨_,g6⟩,_,rfl,⟨_,g7⟩,_,rfl,rfl⟩,e2⟩:=h1
  exact⟨_,⟨⟨q1,g1⟩,_,rfl,⟨q2,g2⟩,_,rfl,⟨q3,g3⟩,_,rfl,⟨q4,g4⟩,_,rfl,⟨q5,g5⟩,_,rfl,⟨q6,g6⟩,_,rfl,⟨q7,g7⟩,_,rfl,rfl⟩,e2⟩
end
end Go.Proofs.YtceemiodpccbhaaGreat
