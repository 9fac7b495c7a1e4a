import Derived.Test.YtceemiodpccbhaaGreatD30
set_option linter.unusedVariables false
set_option linter.unusedSimpArgs false

namespace Go.Proofs.YtceemiodpccbhaaGreat

set_option maxRecDepth 100000
section
open Go.RowKit
def toShF (l:List It):Option (Sh × List Prop) :=
 match l with
 | [i,.fs _ m n z,k]=>(match asI i,asI k with
  | some x,some y=>if z=7/\(m.all fun i=>i.n==1)=true/\((List.range n).all fun i=>isEd ((m.drop (i*7)).take 7))=true then some (⟨x.1,n,fun i=>edAt ((m.drop (i*7)).take 7),y.1⟩,[]) else none
  | _,_=>none)
 | l=>toSh l
theorem toShF_rep {V W:World} {r:Nat->Nat} {k:Nat} {l:List It} {s:Sh} {ps:List Prop} {x:Value} (h:toShF l=some (s,ps)) (hp:All ps) (hr:RepV V W r k ⟨true,l⟩ x):RepV V W r k (shpV s) x:=by
 unfold toShF at h
 split at h
 ·rename_i i o m n z k
  split at h
  ·rename_i x y hx hy
   split at h
   ·rename_i hc
    obtain ⟨rfl,c1,c2⟩:=hc
    cases h
    have ht:toSh [i,.fs o m n 7,k]=some (⟨x.1,n,fun i=>edAt ((m.drop (i*7)).take 7),y.1⟩,[∀ i,i < n->isEd ((m.drop (i*7)).take 7)=true]):=by
     unfold toSh toRo
     simp only [hx,hy,c1,and_self,if_true]
    exact toSh_rep ht ⟨fun i hi=>List.all_eq_true.1 c2 i (List.mem_range.2 hi),trivial⟩ hr
   ·cases h
  ·cases h
 ·exact toSh_rep h hp hr
def sh2F (f:FuncId) (g:Sh->Sh->AV) (h:∀ s u,Fok Tryz.prog f [shpV s,shpV u] (g s u)):Con where
 f:=f
 g:=fun | [⟨true,l⟩,⟨true,m⟩]=>(match toShF l,toShF m with | some z,some y=>some (g z.1 y.1,z.2++y.2) | _,_=>none) | _=>none
 ok:=by
  intro args res ps h' hp
  split at h'<;>try cases h'
  split at h'<;>cases h'
  rename_i he hq
  obtain ⟨p1,p2⟩:=All.app hp
  exact (h _ _).pre fun W=>rvs_1 (fun v hv=>toShF_rep he p1 hv) (rvs_1 (fun v hv=>toShF_rep hq p2 hv) rvs_0)
def sh3F (f:FuncId) (g:Sh->Sh->Int->AV) (h:∀ s u z,Fok Tryz.prog f [shpV s,shpV u,inV z lim] (g s u z)):Con where
 f:=f
 g:=fun | [⟨true,l⟩,⟨true,m⟩,⟨false,[.i z _]⟩]=>(match toShF l,toShF m with | some x,some y=>some (g x.1 y.1 z,x.2++y.2) | _,_=>none) | _=>none
 ok:=by
  intro args res ps h' hp
  split at h'<;>try cases h'
  split at h'<;>cases h'
  rename_i he hq
  obtain ⟨p1,p2⟩:=All.app hp
  exact (h _ _ _).pre fun W=>rvs_1 (fun v hv=>toShF_rep he p1 hv) (rvs_1 (fun v hv=>toShF_rep hq p2 hv) (rvs_1 in_lim rvs_0))
def cGapF:Con:=sh2F 14 (fun s u=>ofV (ofQ s u)) gapOf_fok
def cmpG (g:Gp) (z:Int):Int:=cmpRt g.d ⟨z,0,zero,ofZ 1⟩
def touchQ (a b:Sh):Bool:=(ofQ a b).2&&decide (cmpG (ofQ a b).1 0<=0)
def leastB (a b:Sh) (z:Int):Bool:=(ofQ a b).2&&decide (cmpG (ofQ a b).1 z >= 0)
def bordS (s:Sh):Sh:=⟨1,s.n,s.e,0⟩
def borderQ (a b:Sh):Gp × Bool:=if a.k ≠ 2\/chkS a ≠ 0 then (Gp.no,false) else ofQ (bordS a) b
def holdsQ (a b:Sh) (z:Int):Bool :=
 if (borderQ a b).2=false\/(borderQ a b).1.m=true\/cmpG (borderQ a b).1 z < 0 then false else insS a (b.e 0).ax (b.e 0).ay&&!(aroB b a)
def KTo:List Con:=[cGapF,cCmpInt]
theorem touch_fok (s u:Sh):Fok Tryz.prog 19 [shpV s,shpV u] (.one (blV (touchQ s u))):=by
 cases h:(ofQ s u).2 with
 | false=>exact Fok.bb (show touchQ s u=false by unfold touchQ;rw [h];rfl) (fok KTo [false] [pEd s,pEd u,pF h] (by kernel_rfl))
 | true=>exact Fok.bb (show touchQ s u=decide (cmpG (ofQ s u).1 0<=0) by unfold touchQ;rw [h];rfl) (fok KTo [true] [pEd s,pEd u,pT h] (by kernel_rfl))
theorem least2_fok (s u:Sh) (z:Int):Fok Tryz.prog 27 [shpV s,shpV u,inV z lim] (.one (blV (leastB s u z))):=by
 cases h:(ofQ s u).2 with
 | false=>exact Fok.bb (show leastB s u z=false by unfold leastB;rw [h];rfl) (fok KTo [false] [pEd s,pEd u,pF h] (by kernel_rfl))
 | true=>exact Fok.bb (show leastB s u z=decide (cmpG (ofQ s u).1 z >= 0) by unfold leastB;rw [h];rfl) (fok KTo [true] [pEd s,pEd u,pT h] (by kernel_rfl))
def cTouch:Con:=sh2F 19 (fun s u=>.one (blV (touchQ s u))) touch_fok
def cLeastG:Con:=sh3F 27 (fun s u z=>.one (blV (leastB s u z))) least2_fok
def KBo:List Con:=[cGapF,cShChk]
theorem nz_b {z:Int} (h:z ≠ 0):(!(z==0))=true:=by simpa using h
theorem z_b {z:Int} (h:z=0):(!(z==0))=false:=by simpa using h
theorem border_fok (s u:Sh):Fok Tryz.prog 33 [shpV s,shpV u] (ofV (borderQ s u)):=by
 unfold borderQ
 by_cases h1:s.k ≠ 2
 ·rw [if_pos (.inl h1)]
  exact fok KBo [true] [pT (ne_T h1)] (by kernel_rfl)
 by_cases h2:chkS s ≠ 0
 ·rw [if_pos (.inr h2)]
  exact fok KBo [false,true] [pF (ne_F h1),pEd s,pT (nz_b h2)] (by kernel_rfl)
 ·rw [if_neg (fun g => g.elim h1 h2)]
  exact fok KBo [false,false] [pF (ne_F h1),pEd s,pF (z_b (Classical.not_not.1 h2)),pEd s,pEd u] (by kernel_rfl)
def cBord:Con:=sh2F 33 (fun s u=>ofV (borderQ s u)) border_fok
def cAro:Con where
 f:=47
 g:=fun | [⟨true,l⟩,⟨true,m⟩]=>(match toShF l,toShF m with | some z,some y=>some (.one (blV (aroB z.1 y.1)),z.2++(y.2++[z.1.n<=1000,0 < y.1.n])) | _,_=>none) | _=>none
 ok:=by
  intro args res ps h' hp
  split at h'<;>try cases h'
  split at h'<;>cases h'
  rename_i he hq
  obtain ⟨p1,p2⟩:=All.app hp
  obtain ⟨p2,p3⟩:=All.app p2
  exact (around_fok _ _ p3.1 p3.2.1).pre fun W=>rvs_1 (fun v hv=>toShF_rep he p1 hv) (rvs_1 (fun v hv=>toShF_rep hq p2 hv) rvs_0)
def KHo:List Con:=[cBord,cAro,cIns,cCmpInt]
theorem ofQ_ok {a b:Sh} (h:(ofQ a b).2=true):chkS a=0/\chkS b=0:=by
 unfold ofQ at h
 split at h
 ·cases h
 ·rename_i hn
  exact ⟨Classical.not_not.1 fun g=>hn (.inl g),Classical.not_not.1 fun g=>hn (.inr g)⟩
theorem borderQ_ok {a b:Sh} (h:(borderQ a b).2=true):(a.k=2/\chkS a=0)/\chkS (bordS a)=0/\chkS b=0:=by
 unfold borderQ at h
 split at h
 ·cases h
 ·rename_i hn
  exact ⟨⟨Classical.not_not.1 fun g=>hn (.inl g),Classical.not_not.1 fun g=>hn (.inr g)⟩,ofQ_ok h⟩
theorem holds_fok (s u:Sh) (z:Int):Fok Tryz.prog 25 [shpV s,shpV u,inV z lim] (.one (blV (holdsQ s u z))):=by
 cases h1:(borderQ s u).2 with
 | false=>exact Fok.bb (show holdsQ s u z=false by unfold holdsQ;rw [if_pos (.inl h1)]) (fok KHo [true] [pEd s,pEd u,pT (not_T h1)] (by kernel_rfl))
 | true =>
  cases h2:(borderQ s u).1.m with
  | true=>exact Fok.bb (show holdsQ s u z=false by unfold holdsQ;rw [if_pos (.inr (.inl h2))]) (fok KHo [false,true] [pEd s,pEd u,pF (not_F h1),pT h2] (by kernel_rfl))
  | false =>
   by_cases h3:cmpG (borderQ s u).1 z < 0
   ·exact Fok.bb (show holdsQ s u z=false by unfold holdsQ;rw [if_pos (.inr (.inr h3))]) (fok KHo [false,false,true] [pEd s,pEd u,pF (not_F h1),pF h2,pT (decide_eq_true h3)] (by kernel_rfl))
   ·obtain ⟨⟨_, k1⟩, _, k2⟩ := borderQ_ok h1
    have g1:=chk_good k1
    have g2:=chk_good k2
    have n1:=g1.n40
    have n2:=g2.n40
    have m1:=g1.n1
    have m2:=g2.n1
    have e0:holdsQ s u z=(insS s (u.e 0).ax (u.e 0).ay&&!(aroB u s)):=by unfold holdsQ;rw [if_neg (by simp [h1,h2,h3])]
    cases h4:insS s (u.e 0).ax (u.e 0).ay with
    | false=>exact Fok.bb (show holdsQ s u z=false by rw [e0,h4];rfl) (fok KHo [false,false,false,false] [pEd s,pEd u,pF (not_F h1),pF h2,pF (decide_eq_false h3),pP (show 0<=(0:Int)/\(0:Int) < u.n by omega),pEd s,pP (show s.n<=1000 by omega),pF h4] (by kernel_rfl))
    | true=>exact Fok.bb (show holdsQ s u z=!(aroB u s) by rw [e0,h4];rfl) (fok KHo [false,false,false,true] [pEd s,pEd u,pF (not_F h1),pF h2,pF (decide_eq_false h3),pP (show 0<=(0:Int)/\(0:Int) < u.n by omega),pEd s,pP (show s.n<=1000 by omega),pT h4,pEd u,pEd s,pP (show u.n<=1000 by omega),pP (show 0 < s.n by omega)] (by kernel_rfl))
def cHolds:Con:=sh3F 25 (fun s u z=>.one (blV (holdsQ s u z))) holds_fok
end

set_option maxHeartbeats 2000000
set_option maxRecDepth 100000
section
open Go.RowKit
attribute [local go_sem] Gives givesU
def DrawH (w:World) (B:Nat) (v:Value) (d:List Value) (T:TypeId) (k:Nat):Prop:=w.heap[B]? = some (.cells (v::.int .i64 (k:Nat)::d).toArray T)
theorem DrawH.at {w:World} {B len cp k:Nat} {a:Option Addr} {d:List Value} {T:TypeId} (h:DrawH w B (.slice a len cp) d T k):DrawAt w B a len cp k:=by
 unfold DrawH at h
 refine ⟨(Array.getElem?_eq_some_iff.1 h).1,?_,?_,fun o=>by simp [World.frozen?,h]⟩
 ·rw [cell_of_row _ _ _ _ _ _ h];simp
 ·rw [cell_of_row _ _ _ _ _ _ h];simp
theorem DrawH.ext {w w':World} {B k:Nat} {v:Value} {d:List Value} {T:TypeId} (h:DrawH w B v d T k) (hx:Ext w w'):DrawH w' B v d T k:=heap_ext h hx
theorem DrawH.set {w:World} {B k:Nat} {v:Value} {d:List Value} {T:TypeId} (h:DrawH w B v d T k) (j:Nat):DrawH (w.setCell ⟨B,1,none⟩ (.int .i64 (j:Nat))) B v d T j:=by
 unfold DrawH at *
 have hB:=(Array.getElem?_eq_some_iff.1 h).1
 have e:=(Array.getElem?_eq_some_iff.1 h).2
 rw [Array.getElem?_eq_some_iff]
 refine ⟨by simpa [World.setCell] using hB,?_⟩
 simp only [World.setCell,Array.getElem_modify,if_true,e]
 simp
end

set_option maxRecDepth 100000
section
open Go.RowKit
abbrev p4:Pf:=⟨(4:Int) ≠ 0,by decide⟩
end

section
open Go.RowKit
def lnEd (ax ay bx by':Int):Ed:=⟨1,ax,ay,bx,by',0,0⟩
def rowE (l:List Ed) (i:Nat):Ed:=(l[i]?).getD ⟨0,0,0,0,0,0,0⟩
def shL' (k:Int) (l:List Ed) (r:Int):Sh:=⟨k,l.length,rowE l,r⟩
def rectS (x0 y0 x1 y1:Int):Sh:=shL' 2 [lnEd x0 y0 x1 y0,lnEd x1 y0 x1 y1,lnEd x1 y1 x0 y1,lnEd x0 y1 x0 y0] 0
def discS (x y r:Int):Sh:=shL' 1 [lnEd x y x y] r
end

section
open Go.RowKit
def moveE (e:Ed) (x y t:Int) (m:Bool):Ed :=
 ⟨if m then (fam e.k).k else e.k,(applyP x y t m e.ax e.ay).1,(applyP x y t m e.ax e.ay).2,(applyP x y t m e.bx e.by').1,(applyP x y t m e.bx e.by').2,
  if e.k=1 then e.cx else (applyP x y t m e.cx e.cy).1,if e.k=1 then e.cy else (applyP x y t m e.cx e.cy).2⟩
end

set_option maxRecDepth 100000
section
open Go.RowKit
def edsOf (m:List It) (n:Nat):List Ed:=(List.range n).map fun i=>edAt ((m.drop (i*7)).take 7)
def shOf (z:AV × List Mb):Option (Int × List Ed × Int) :=
 match z.1 with
 | .one ⟨true,[i,.sl b n c,k]⟩=>(match asI i,argI (z.2.map some) (.sl b n c),asI k with
  | some x,some (.fs _ m n c),some y=>if c=7/\(m.all fun i=>i.n==1)=true/\((List.range n).all fun i=>isEd ((m.drop (i*7)).take 7))=true then some (x.1,edsOf m n,y.1) else none
  | _,_,_=>none)
 | _=>none
theorem rowC_congr {R:List It->List Value->Prop} {V:World} {z n:Nat} {f g:Nat->List It} {v:Value} (h:∀ i,i < n->f i=g i):RowC R V z n f v->RowC R V z n g v
 | ⟨a,c,e,h1,h2,h3⟩=>⟨a,c,e,h1,h2,fun i hi=>by rw [<- h i hi];exact h3 i hi⟩
theorem rowE_eds (m:List It) (n i:Nat) (h:i < n):rowE (edsOf m n) i=edAt ((m.drop (i*7)).take 7):=by
 unfold rowE edsOf
 simp [h]
theorem shOf_rep {V W:World} {r:Nat->Nat} {cm:Nat->List Value} {z:AV × List Mb} {x:Int × List Ed × Int} {v:Value} (h:shOf z=some x) (hM:RM V r cm (z.2.map some) W) (hv:RepA W W r z.2.length z.1 v):RepV W W (fun _=>0) 0 (shpV (shL' x.1 x.2.1 x.2.2)) v:=by
 obtain ⟨z1,ms⟩:=z
 unfold shOf at h
 split at h
 ·rename_i i b n c k hz
  subst hz
  split at h
  ·rename_i x o m n' c' y hx ha hy
   split at h
   ·rename_i hc
    obtain ⟨rfl,c1,c2⟩:=hc
    cases h
    obtain ⟨cs,⟨a0,_,rfl,q0,a1,_,rfl,q1,a2,_,rfl,q2,rfl⟩,h2,h3⟩:=hv
    have k1:=argI_rep hM ha (show RepI V W r (ms.map some).length (.sl b n c) a1 by rw [List.length_map];exact q1)
    have k0:=asI_lim hx q0
    have k2:=asI_lim hy q2
    obtain ⟨rfl,p0⟩:=k0
    obtain ⟨rfl,p2⟩:=k2
    have ht:toRo (.fs o m n' 7)=some (n',fun i=>(m.drop (i*7)).take 7):=by
     unfold toRo
     simp only [c1,and_self,if_true]
    obtain ⟨v',rfl,hro⟩:=toRo_rep ht (fun i hi=>by rw [List.all_eq_true] at c2;exact c2 i (List.mem_range.2 hi)) k1
    refine ⟨_,⟨[_],_,rfl,⟨rfl,p0⟩,[_],_,rfl,⟨_,rfl,?_⟩,[_],[],rfl,⟨rfl,p2⟩,rfl⟩,h2,nofun⟩
    have hl:(edsOf m n').length=n':=by unfold edsOf;simp
    show RowC (RepF W) W 7 (edsOf m n').length _ _
    rw [hl]
    exact rowC_congr (fun i hi=>congrArg edI (rowE_eds m n' i hi).symm) hro
   ·cases h
  ·cases h
 ·cases h
theorem fokS {f:FuncId} {args:List V1} {k:Int} {l:List Ed} {r:Int} (X:List Eff) (K:List Con) (q:List Bool) (pf:List Pf) (h:((aFun Tryz.prog (env X) (tab K) 40 f args q).bind fun z=>(shOf z.1).map fun y=>(y,z.2))=some ((k,l,r),pf.map Pf.p,[])):Fok Tryz.prog f args (.one (shpV (shL' k l r))):=by
 cases hz:aFun Tryz.prog (env X) (tab K) 40 f args q with
 | none=>rw [hz] at h;cases h
 | some z =>
  obtain ⟨z0,z2,z3⟩:=z
  rw [hz] at h
  cases hs:shOf z0 with
  | none=>simp [hs] at h
  | some y =>
   simp only [Option.bind_some,hs,Option.map_some,Option.some.injEq,Prod.mk.injEq] at h
   obtain ⟨rfl,rfl,rfl⟩:=h
   have hB:=(aFun_ok prog_nm EQ_ok (env_ok X) MT_ok WR_ok (tab_ok K) 40).ok f args q _ _ [] hz (all_pf pf)
   intro W vals hv
   refine (hB W vals hv).mono ?_
   rintro e w' ⟨v,r,cm,rfl,hM,hr⟩
   refine ⟨v,rfl,?_,hM.ext⟩
   exact shOf_rep hs hM hr
end

set_option maxHeartbeats 4000000
set_option maxRecDepth 100000
section
open Go.RowKit
def sanL:List It:=[.k 1,.k 0,.k 0,.k 4,.k 0,.k 0,.k 0,.k 1,.k 4,.k 0,.k 4,.k 4,.k 0,.k 0,.k 1,.k 4,.k 4,.k 0,.k 4,.k 0,.k 0,.k 1,.k 0,.k 4,.k 0,.k 0,.k 0,.k 0]
def frS (k:Int) (l:List It) (n:Nat) (r:Int):Sh:=⟨k,n,fun i=>edAt ((l.drop (i*7)).take 7),r⟩
def sanO:Sh:=frS 2 sanL 4 0
def sanP:Sh:=shL' 1 [lnEd 2 2 2 2] 1
def sanM:List (Option Mb):=List.replicate 15 none++[some ⟨70,sanL⟩,some ⟨24,[.k 2,.sl 15 4 7,.k 0]⟩]
def sanD0:Ds:=⟨[(5,.eq (blV true)),(10,.eq (blV true)),(13,.eq (blV true)),(14,.eq (ptrN 16))],sanM⟩
def sanD1:Ds:=⟨[(5,.eq (blV true)),(10,.eq (blV true)),(13,.eq (blV true)),(14,.eq (ptrN 16)),(15,.eq (ptrN 17)),(16,.eq (blV (borderQ sanO sanP).2))],sanM++[some ⟨42,gpL (borderQ sanO sanP).1⟩]⟩
noncomputable def sR:List Oper:=match lpC 10 (2*10+1) with | .region _ ops _=>ops.toList | _=>[]
noncomputable def sO (i : Nat) : Oper := ((sR)[i]?).getD ⟨none, .move (.tmp 0), 0, "", #[], none⟩
theorem path_fok (x0 y0 x1 y1 r:Int):Fok Tryz.prog 31 [inV x0 lim,inV y0 lim,inV x1 lim,inV y1 lim,inV r lim] (.one (shpV (shL' 1 [lnEd x0 y0 x1 y1] r))):=fokS [] [] [] [] (by kernel_rfl)
theorem shpV_mono (s:Sh) (v:Value):FMono fun W=>RepV W W (fun _=>0) 0 (shpV s) v:=fun W W' h hb=>by
 obtain ⟨p,c,rfl,h1⟩:=ShAt.of h
 exact (h1.ext hb).rep
theorem gpC_val {W:World} {g:Gp} {b:Bool} {v:Value} (h:RepA W W (fun _=>0) 0 (ofV (g,b)) v):∃ cs,v=.tuple #[.agg cs.toArray,.bool b]/\GpC W g cs:=by
 obtain ⟨_,rfl,h⟩:=h
 obtain ⟨_,hx,_,rfl,h2⟩:=rvs_cons.1 h
 obtain ⟨_,hy,_,rfl,h3⟩:=rvs_cons.1 h2
 cases h3
 obtain ⟨cs,hr,rfl⟩:=rv_t.1 hx
 exact ⟨cs,by rw [(rv_v.1 hy).2],gpC_ofL hr⟩
theorem gpL_rl {V W:World} {r:Nat->Nat} {k:Nat} {g:Gp} {cs:List Value} (h:GpC W g cs):RepL V W r k (gpL g) cs:=by
 obtain ⟨n,p,l,c,m,q,k,d,rfl,h1,h2,⟨i1,i2⟩,⟨j1,j2,j3,j4,j5,j6,j7⟩,k1,k2,k3,k4,k5,k6,k7⟩:=h
 exact ⟨[_],_,rfl,⟨rfl,rfl⟩,[_],_,rfl,⟨rfl,lim64 i1⟩,[_],_,rfl,⟨rfl,lim64 i2⟩,[_,_],_,rfl,⟨_,_,_,_,rfl,h1⟩,[_,_],_,rfl,⟨_,_,_,_,rfl,h2⟩,[_],_,rfl,⟨rfl,lim64 j1⟩,[_],_,rfl,⟨rfl,lim64 j2⟩,[_],_,rfl,⟨rfl,lim64 j3⟩,[_],_,rfl,⟨rfl,lim64 j4⟩,[_],_,rfl,⟨rfl,lim64 j5⟩,[_],_,rfl,⟨rfl,lim64 j6⟩,[_],_,rfl,⟨rfl,lim64 j7⟩,[_],_,rfl,⟨rfl,lim64 k1⟩,[_],_,rfl,⟨rfl,lim64 k2⟩,[_],_,rfl,⟨rfl,lim64 k3⟩,[_],_,rfl,⟨rfl,lim64 k4⟩,[_],_,rfl,⟨rfl,lim64 k5⟩,[_],_,rfl,⟨rfl,lim64 k6⟩,[_],[],rfl,⟨rfl,lim64 k7⟩,rfl⟩
theorem san_10:OrcOk Tryz.prog (lpC 10 (2*10+1)) ⟨nF 10,sanD0,.nm,sanD1⟩:=by
 intro V a w Q hJ hQ
 obtain ⟨r,cm,⟨hM,hd⟩,hsz,hT⟩:=hJ
 have hn:a.tmps.size=134:=hsz.trans (by kernel_rfl)
 have t14:RepV V w r 17 (ptrN 16) (a.tmps.getD 14 undef):=hT 14 (.one (ptrN 16)) (by kernel_rfl)
 have e14:a.tmps.getD 14 undef=.pointer (some ⟨r 16,0,none⟩):=by simpa using t14.scal.2
 obtain ⟨h15,q15⟩:=hM.blk 15 ⟨70,sanL⟩ (by kernel_rfl)
 obtain ⟨h16,c,dd,e16,rl,hnd⟩:=hM.blk 16 ⟨24,[.k 2,.sl 15 4 7,.k 0]⟩ (by kernel_rfl)
 have A:∀ W,Ext w W->RepV W W (fun _=>0) 0 (shpV sanO) (.agg c.toArray):=fun W hW =>
  toShF_rep (l:=[.k 2,.fs 0 sanL 4 7,.k 0]) (ps:=[]) (by kernel_rfl) trivial ⟨c,argL_rep (hM.step hW) (show argL sanM [.k 2,.sl 15 4 7,.k 0]=some [.k 2,.fs 0 sanL 4 7,.k 0] by kernel_rfl) (rl.imp (RepI.ext hW)),rfl,nofun⟩
 have hc3:c.length=3:=by
  obtain ⟨_,_,rfl,⟨rfl,_⟩,_,_,rfl,⟨_,_,_,_,rfl,_⟩,_,_,rfl,⟨rfl,_⟩,rfl⟩:=rl
  rfl
 refine wp_as (c':=Code.region 10 sR.toArray true) (by kernel_rfl) ?_
 refine wp_region_F (fun W=>Ext w W) (by kernel_rfl) (by kernel_rfl) (fun W W' h hb=>Ext.step h hb) (fun W h=>h.size) (Below.refl _ _) ?_
 rw [show sR=[sO 0,sO 1,sO 2,sO 3,sO 4,sO 5,sO 6,sO 7,sO 8] by kernel_rfl]
 have d0:(sO 0).dst=some 87:=by kernel_rfl
 have d1:(sO 1).dst=some 88:=by kernel_rfl
 have d2:(sO 2).dst=some 89:=by kernel_rfl
 have d3:(sO 3).dst=some 86:=by kernel_rfl
 have d4:(sO 4).dst=some 90:=by kernel_rfl
 have d5:(sO 5).dst=some 91:=by kernel_rfl
 have d6:(sO 6).dst=some 15:=by kernel_rfl
 have d7:(sO 7).dst=none:=by kernel_rfl
 have d8:(sO 8).dst=some 16:=by kernel_rfl
 refine F_run (v:=.agg c.toArray) (by kernel_rfl) (fun W hW=>?_) ?_
 ·have := ex_load (P := Tryz.prog) (o := sO 0) (a := a) (w := W) (t := 24) (x := .tmp 14) (j := 0) (n := 3) (b := true) (cs := cm 16) (by kernel_rfl) e14 (heap_ext h16 hW) (by kernel_rfl) (by kernel_rfl) (by rw [e16, List.length_append]; omega) nofun
  rw [List.drop_zero,e16,List.take_left' hc3] at this
  exact this
 rw [d0]
 refine F_callE (I:=Value) (fun v=>v) (fun v W=>RepV W W (fun _=>0) 0 (shpV sanP) v) (shpV_mono sanP) (by kernel_rfl) (by kernel_rfl) (fun W hW=>?_) fun v1 hv1=>?_
 ·have en:(execOp (a.put (some 87) (.agg c.toArray)).eval (sO 1)).run Tryz.prog W=.ok (.enter 31 #[.int .i64 2,.int .i64 2,.int .i64 2,.int .i64 2,.int .i64 1]) W:=by
   have:=run_enter (P:=Tryz.prog) (o:=sO 1) (a:=a.put (some 87) (.agg c.toArray)) (f:=31) (x:=.func 31) (caps:=#[]) (cl:={ callee:=.value (.func 31),args:=#[.const (.int .i64 2),.const (.int .i64 2),.const (.int .i64 2),.const (.int .i64 2),.const (.int .i64 1)],argTypes:=#[3,3,3,3,3] }) prog_nm Tryz.func31 rfl (by kernel_rfl) rfl rfl W
   rw [this]
   simp only [List.map_toArray,List.map_cons,List.map_nil]
   rfl
  refine gives_enter en ((path_fok 2 2 2 2 1 W [.int .i64 2,.int .i64 2,.int .i64 2,.int .i64 2,.int .i64 1] ?_).mono ?_)
  ·have i2 : ∀ z : Int, I64 z -> RepV W W (fun _ => 0) 0 (inV z lim) (.int .i64 z) := fun z hz => rv_i.2 ⟨lim64 hz, rfl⟩
   have b2:I64 2:=by unfold I64;omega
   have b1:I64 1:=by unfold I64;omega
   exact rvs_cons.2 ⟨_,i2 2 b2,_,rfl,rvs_cons.2 ⟨_,i2 2 b2,_,rfl,rvs_cons.2 ⟨_,i2 2 b2,_,rfl,rvs_cons.2 ⟨_,i2 2 b2,_,rfl,rvs_cons.2 ⟨_,i2 1 b1,_,rfl,rfl⟩⟩⟩⟩⟩
  ·rintro e W' ⟨v, rfl, hv, hx⟩
   exact ⟨v,rfl,v,rfl,hx,hv⟩
 rw [d1]
 refine F_callE (I:=List Value) (fun cs=>.tuple #[.agg cs.toArray,.bool (borderQ sanO sanP).2]) (fun cs W=>GpC W (borderQ sanO sanP).1 cs) (fun cs W W' h hb=>h.ext hb) (by kernel_rfl) (by kernel_rfl) (fun W hW=>?_) fun cs hcs=>?_
 ·have en:(execOp ((a.put (some 87) (.agg c.toArray)).put (some 88) v1).eval (sO 2)).run Tryz.prog W=.ok (.enter 33 #[.agg c.toArray,v1]) W:=by
   have:=run_enter (P:=Tryz.prog) (o:=sO 2) (a:=(a.put (some 87) (.agg c.toArray)).put (some 88) v1) (f:=33) (x:=.func 33) (caps:=#[]) (cl:={ callee:=.value (.func 33),args:=#[.tmp 87,.tmp 88],argTypes:=#[24,24] }) prog_nm Tryz.func33 rfl (by kernel_rfl) rfl rfl W
   rw [this]
   simp only [List.map_toArray,List.map_cons,List.map_nil]
   rw [show ((a.put (some 87) (.agg c.toArray)).put (some 88) v1).eval (.tmp 87)=.agg c.toArray from (put_ne (by decide)).trans (put_lt (by rw [hn];decide)),show ((a.put (some 87) (.agg c.toArray)).put (some 88) v1).eval (.tmp 88)=v1 from put_lt (by rw [put_size,hn];decide)]
   rfl
  refine gives_enter en ((border_fok sanO sanP W _ (rvs_cons.2 ⟨_,A W hW.1,_,rfl,rvs_cons.2 ⟨_,hW.2,_,rfl,rfl⟩⟩)).mono ?_)
  rintro e W' ⟨v,rfl,hv,hx⟩
  obtain ⟨cs,rfl,hg⟩:=gpC_val hv
  exact ⟨_,rfl,cs,rfl,hx,hg⟩
 rw [d2]
 obtain ⟨W0,hW0⟩:=hcs
 obtain ⟨h21,h1c⟩:=hW0.2.one
 have hnc:=hW0.2.nd
 clear hW0
 obtain ⟨ok,hok⟩:∃ ok,(borderQ sanO sanP).2=ok:=⟨_,rfl⟩
 obtain ⟨G,hG⟩:∃ G,(borderQ sanO sanP).1=G:=⟨_,rfl⟩
 rw [hok,hG]
 refine F_run (v:=.tuple #[.agg cs.toArray,.bool ok]) (by kernel_rfl) (fun W _=>?_) ?_
 ·have := ex_move (P := Tryz.prog) (o := sO 3) (a := ((a.put (some 87) (.agg c.toArray)).put (some 88) v1).put (some 89) (.tuple #[.agg cs.toArray, .bool ok])) (x := .tmp 89) (by kernel_rfl) W
  rw [show ∀ b:Act,b.eval (.tmp 89)=b.tmps.getD 89 undef from fun _=>rfl,put_lt (by rw [put_size,put_size,hn];decide)] at this
  exact this
 rw [d3]
 have s86:((((a.put (some 87) (.agg c.toArray)).put (some 88) v1).put (some 89) (.tuple #[.agg cs.toArray,.bool ok])).put (some 86) (.tuple #[.agg cs.toArray,.bool ok])).tmps.size=134:=by simp [put_size,hn]
 have e86:((((a.put (some 87) (.agg c.toArray)).put (some 88) v1).put (some 89) (.tuple #[.agg cs.toArray,.bool ok])).put (some 86) (.tuple #[.agg cs.toArray,.bool ok])).tmps.getD 86 undef=.tuple #[.agg cs.toArray,.bool ok]:=put_lt (by simp [put_size,hn])
 have off86:∀ t,t ≠ 86->t ≠ 87->t ≠ 88->t ≠ 89->((((a.put (some 87) (.agg c.toArray)).put (some 88) v1).put (some 89) (.tuple #[.agg cs.toArray,.bool ok])).put (some 86) (.tuple #[.agg cs.toArray,.bool ok])).tmps.getD t undef=a.tmps.getD t undef:=fun t h1 h2 h3 h4=>by rw [put_ne (Ne.symm h1),put_ne (Ne.symm h4),put_ne (Ne.symm h3),put_ne (Ne.symm h2)]
 have hd86:((((a.put (some 87) (.agg c.toArray)).put (some 88) v1).put (some 89) (.tuple #[.agg cs.toArray,.bool ok])).put (some 86) (.tuple #[.agg cs.toArray,.bool ok])).defers=[]:=hd
 generalize (((a.put (some 87) (.agg c.toArray)).put (some 88) v1).put (some 89) (.tuple #[.agg cs.toArray,.bool ok])).put (some 86) (.tuple #[.agg cs.toArray,.bool ok])=b at *
 refine F_run (v:=.agg cs.toArray) (by kernel_rfl) (fun W _=>ex_extract (x:=.tmp 86) (j:=0) (vs:=[.agg cs.toArray,.bool ok]) (by kernel_rfl) e86 rfl W) ?_
 rw [d4]
 refine F_run (v:=.bool ok) (by kernel_rfl) (fun W _=>ex_extract (x:=.tmp 86) (j:=1) (vs:=[.agg cs.toArray,.bool ok]) (by kernel_rfl) (by show (b.put (some 90) _).tmps.getD 86 undef=_;rw [put_ne (by decide)];exact e86) rfl W) ?_
 rw [d5]
 refine F_alloc (.cells zGp.toArray 42) (by kernel_rfl) (by kernel_rfl) (fun W _=>?_) (fun g hg=>?_) (by intro g;kernel_rfl)
 ·obtain ⟨i, i1, i2⟩ := info_of (P := Tryz.prog) (t := 42) (z := .agg zGp.toArray) (by kernel_rfl)
  exact ex_alloc (by kernel_rfl) i1 i2 W
 rw [d6]
 have hgw:w.heap.size<=g:=Nat.le_of_not_lt fun h=>hg (List.mem_range.2 h)
 have sB:((b.put (some 90) (.agg cs.toArray)).put (some 91) (.bool ok)).tmps.size=134:=by simp [put_size,s86]
 refine F_store (fun W=>Ext w W/\GpC W G cs/\W.heap[g]? = some (.cells cs.toArray 42)) (fun W W' h hb=>⟨Ext.step h.1 hb,h.2.1.ext hb,heap_ext h.2.2 hb⟩) (fun _ h=>h.1) (by kernel_rfl) (by kernel_rfl) (fun W hW=>?_) ?_
 ·obtain ⟨⟨⟨x1, _⟩, hg1⟩, hgg⟩ := hW
  obtain ⟨o1,o2⟩:=onlyB_setRow (cs':=(zGp.take 0++(cs++zGp.drop (0+cs.length))).toArray) hgg
  have ec:zGp.take 0++(cs++zGp.drop (0+cs.length))=cs:=by rw [List.take_zero,List.nil_append,Nat.zero_add,List.drop_eq_nil_of_le (by rw [h21];decide),List.append_nil]
  refine gives_skip (W:=W.setRow g (zGp.take 0++(cs++zGp.drop (0+cs.length))).toArray) (ex_store (t:=42) (vs:=cs) (x:=.tmp 15) (y:=.tmp 90) (n:=21) (by kernel_rfl) ?_ hgg ?_ (by kernel_rfl) h21 (by rw [h21];decide) h1c) ⟨rfl,by rw [o1.size];exact Nat.le_refl _,x1.trans (o1.below hgw),hg1.only o1 hgg,by rw [o2,ec]⟩
  ·exact put_lt (by rw [sB];decide)
  ·rw [show ∀ c : Act, c.eval (.tmp 90) = c.tmps.getD 90 undef from fun _ => rfl, put_ne (by decide), put_ne (by decide), put_lt (by rw [s86]; decide)]
   rfl
 rw [d7,put_none]
 refine F_run (v:=.bool ok) (by kernel_rfl) (fun W _=>?_) ?_
 ·have := ex_assign (P := Tryz.prog) (o := sO 8) (a := ((b.put (some 90) (.agg cs.toArray)).put (some 91) (.bool ok)).put (some 15) (.pointer (some ⟨g, 0, none⟩))) (x := .tmp 91) (by kernel_rfl) W
  rw [show ∀ c:Act,c.eval (.tmp 91)=c.tmps.getD 91 undef from fun _=>rfl,put_ne (by decide),put_lt (by simp [put_size,s86])] at this
  exact this
 rw [d8]
 rintro W ⟨⟨x1,hg1,hgg⟩,_⟩
 have hM':=hM.step x1
 have hno:∀ b x,mb (mkS (nF 10) sanD0).m b=some x->r b ≠ g:=fun b x hb e=>by
  have:=(Array.getElem?_eq_some_iff.1 (hM.blk b x hb).1).1
  omega
 have hM2:=hM'.new (T:=42) (l:=gpL G) hgg (RepL.pre (gpL_rl hg1)) (by have:=hM.ext.size;omega) hno
 have hd1:sanD1=⟨[(5,.eq (blV true)),(10,.eq (blV true)),(13,.eq (blV true)),(14,.eq (ptrN 16)),(15,.eq (ptrN 17)),(16,.eq (blV ok))],sanM++[some ⟨42,gpL G⟩]⟩:=by unfold sanD1;rw [hok,hG]
 rw [hd1] at hQ
 have off:∀ t,t ≠ 86->t ≠ 87->t ≠ 88->t ≠ 89->t ≠ 90->t ≠ 91->t ≠ 15->t ≠ 16->((((b.put (some 90) (.agg cs.toArray)).put (some 91) (.bool ok)).put (some 15) (.pointer (some ⟨g,0,none⟩))).put (some 16) (.bool ok)).tmps.getD t undef=a.tmps.getD t undef:=fun t h1 h2 h3 h4 h5 h6 h7 h8=>by
  rw [put_ne (Ne.symm h8),put_ne (Ne.symm h7),put_ne (Ne.symm h6),put_ne (Ne.symm h5)]
  exact off86 t h1 h2 h3 h4
 have up':∀ {v:V1} {x:Value},RepV V w r 17 v x->RepV V W (up r 17 g) 18 v x:=fun {v x} h=>by
  obtain ⟨cs',k1,k2⟩:=h
  exact ⟨cs',k1.imp fun i cs h=>RepI.grow (Nat.le_succ _) (fun b hb=>up_old hb) i cs (RepI.ext x1 i cs h),k2⟩
 refine hQ _ _ ⟨up r 17 g,upM cm 17 cs,⟨hM2,hd86⟩,?_,fun i v hv=>?_⟩
 ·show (Act.put _ _ _).tmps.size = _
  rw [put_size,put_size,sB]
  kernel_rfl
 ·rcases Tr.sets_get (Tm.get_lt hv).2 with rfl | ⟨x, hx', rfl⟩
  ·trivial
  ·simp only [List.mem_cons, List.not_mem_nil, or_false, Prod.mk.injEq] at hx'
   rcases hx' with ⟨rfl,rfl⟩ | ⟨rfl,rfl⟩ | ⟨rfl,rfl⟩ | ⟨rfl,rfl⟩ | ⟨rfl,rfl⟩ | ⟨rfl,rfl⟩
   ·rw [off 5 (by decide) (by decide) (by decide) (by decide) (by decide) (by decide) (by decide) (by decide)];exact up' (hT 5 (.one (blV true)) (by kernel_rfl))
   ·rw [off 10 (by decide) (by decide) (by decide) (by decide) (by decide) (by decide) (by decide) (by decide)];exact up' (hT 10 (.one (blV true)) (by kernel_rfl))
   ·rw [off 13 (by decide) (by decide) (by decide) (by decide) (by decide) (by decide) (by decide) (by decide)];exact up' (hT 13 (.one (blV true)) (by kernel_rfl))
   ·rw [off 14 (by decide) (by decide) (by decide) (by decide) (by decide) (by decide) (by decide) (by decide)];exact up' t14
   ·rw [put_ne (by decide), put_lt (by rw [sB]; decide)]
    exact RepI.val (i:=.p 17 0) ⟨Nat.lt_succ_self _,by simp [up]⟩
   ·rw [put_lt (by rw [put_size, sB]; decide)]
    exact rv_v.2 ⟨rfl,rfl⟩
end

set_option maxRecDepth 1000000
section
open Go.RowKit
def KSa:List Con:=[cGapF,cTouch,cLeastG,cBord,cHolds,cRtOf,cNOf,cRight,cCmp,cCmpInt]
def pC:Pf:=⟨true=true,rfl⟩
theorem sanity10:Fok Tryz.prog 10 [] (.one (blV true)) :=
 fokL [] KSa _ (LT.cons san_10 LT.nil) (List.replicate 24 true) (List.replicate 13 pC++([pR (blV true),pR (blV true),pR (blV true),pR (ptrN 16),⟨It.sl 15 4 7=It.sl 15 4 7,rfl⟩]++List.replicate 11 pC)) (by kernel_rfl)
end

section
open Go.RowKit
def toShG (l:List It):Option Sh :=
 match l with
 | [i,.fs _ m n z,k]=>(match asI i,asI k with
  | some x,some y=>if z=7/\(m.all fun i=>i.n==1)=true/\((List.range n).all fun i=>isEd ((m.drop (i*7)).take 7))=true then some (shL' x.1 (edsOf m n) y.1) else none
  | _,_=>none)
 | _=>none
theorem toShG_rep {V W:World} {r:Nat->Nat} {k:Nat} {l:List It} {s:Sh} {x:Value} (h:toShG l=some s) (hr:RepV V W r k ⟨true,l⟩ x):RepV V W r k (shpV s) x:=by
 unfold toShG at h
 split at h
 ·rename_i i o m n z k
  split at h
  ·rename_i x y hx hy
   split at h
   ·rename_i hc
    obtain ⟨rfl,c1,c2⟩:=hc
    cases h
    have c3:∀ i,i < n->isEd ((m.drop (i*7)).take 7)=true:=fun i hi=>List.all_eq_true.1 c2 i (List.mem_range.2 hi)
    have ht:toSh [i,.fs o m n 7,k]=some (⟨x.1,n,fun i=>edAt ((m.drop (i*7)).take 7),y.1⟩,[∀ i,i < n->isEd ((m.drop (i*7)).take 7)=true]):=by
     unfold toSh toRo
     simp only [hx,hy,c1,and_self,if_true]
    have hl:(edsOf m n).length=n:=by unfold edsOf;simp
    obtain ⟨cs,⟨a0,t0,e0,q0,a1,t1,e1,q1,q2⟩,h2⟩:=toSh_rep ht ⟨c3,trivial⟩ hr
    refine ⟨cs,⟨a0,t0,e0,q0,a1,t1,e1,?_,q2⟩,h2⟩
    obtain ⟨v,hv,hR⟩:=q1
    refine ⟨v,hv,?_⟩
    show RowC (RepF V) V 7 (edsOf m n).length _ _
    rw [hl]
    exact rowC_congr (fun i hi=>congrArg edI (rowE_eds m n i hi).symm) hR
   ·cases h
  ·cases h
 ·cases h
def sh2G (f:FuncId) (g:Sh->Sh->AV) (h:∀ s u,Fok Tryz.prog f [shpV s,shpV u] (g s u)):Con where
 f:=f
 g:=fun | [⟨true,l⟩,⟨true,m⟩]=>(match toShG l,toShG m with | some z,some y=>some (g z y,[]) | _,_=>none) | _=>none
 ok:=by
  intro args res ps h' hp
  split at h'<;>try cases h'
  split at h'<;>cases h'
  rename_i he hq
  exact (h _ _).pre fun W=>rvs_1 (fun v hv=>toShG_rep he hv) (rvs_1 (fun v hv=>toShG_rep hq hv) rvs_0)
def cGapG:Con:=sh2G 14 (fun s u=>ofV (ofQ s u)) gapOf_fok
def cTouchG:Con:=sh2G 19 (fun s u=>.one (blV (touchQ s u))) touch_fok
def cSan:Con where
 f:=10
 g:=fun | []=>some (.one (blV true),[]) | _=>none
 ok:=by
  intro args res ps h' hp
  split at h'<;>cases h'
  exact sanity10
def KDi:List Con:=[cSan,cGapG,cTouchG,cRtOf,cNOf,cRight,cCmp,cCmpInt]
end

section
open Go.RowKit
def gdM (ax ay bx by' r0 r1:Int):List (Option Mb):=[some ⟨32,[.i ax 1000,.i ay 1000]⟩,some ⟨32,[.i bx 1000,.i by' 1000]⟩,some ⟨33,[.v (.int .u8 r0),.v (.int .u8 r1)]⟩]
def gdA0 (ax ay bx by' r0 r1 p q:Int):Ds:=⟨[(3,.eq (ptrN 0)),(4,.eq (ptrN 1)),(7,.eq (blV true)),(8,.eq (inV p 100)),(9,.eq (inV q 100))],gdM ax ay bx by' r0 r1⟩
def gdA1 (ax ay bx by' r0 r1 p q:Int) (g:Gp) (ok:Bool):Ds:=⟨[(3,.eq (ptrN 0)),(4,.eq (ptrN 1)),(7,.eq (blV true)),(8,.eq (inV p 100)),(9,.eq (inV q 100)),(10,.eq (ptrN 3)),(11,.eq (blV ok))],gdM ax ay bx by' r0 r1++[some ⟨42,gpL g⟩]⟩
noncomputable def orA (ax ay bx by' r0 r1 p q:Int):Orc:=⟨nF 4,gdA0 ax ay bx by' r0 r1 p q,.nm,gdA1 ax ay bx by' r0 r1 p q (ofQ (discS ax ay p) (discS bx by' q)).1 (ofQ (discS ax ay p) (discS bx by' q)).2⟩
def gdN (bx by' x0 y0 x1 y1 nx ny:Int):List (Option Mb):=[none,some ⟨32,[.i bx 1000,.i by' 1000]⟩,none,none,some ⟨49,[.i x0 1000,.i y0 1000,.i x1 1101,.i y1 1101]⟩,some ⟨32,[.i nx 1101,.i ny 1101]⟩]
def gdB0 (bx by' x0 y0 x1 y1 nx ny p:Int):Ds:=⟨[(4,.eq (ptrN 1)),(7,.eq (blV true)),(8,.eq (inV p 100)),(13,.eq (ptrN 4)),(14,.eq (ptrN 5))],gdN bx by' x0 y0 x1 y1 nx ny⟩
def gdB1 (bx by' x0 y0 x1 y1 nx ny p:Int) (g:Gp) (ok:Bool):Ds:=⟨[(4,.eq (ptrN 1)),(7,.eq (blV true)),(8,.eq (inV p 100)),(13,.eq (ptrN 4)),(14,.eq (ptrN 5)),(15,.eq (ptrN 6)),(16,.eq (blV ok))],gdN bx by' x0 y0 x1 y1 nx ny++[some ⟨42,gpL g⟩]⟩
noncomputable def orB (bx by' x0 y0 x1 y1 nx ny p:Int):Orc:=⟨nF 4,gdB0 bx by' x0 y0 x1 y1 nx ny p,.nm,gdB1 bx by' x0 y0 x1 y1 nx ny p (ofQ (rectS x0 y0 x1 y1) (discS bx by' p)).1 (ofQ (rectS x0 y0 x1 y1) (discS bx by' p)).2⟩
end

section
open Go.RowKit
structure OkS (s:Sh):Prop where
 k:s.k=1\/s.k=2
 n0:fewS s<=s.n
 n1:s.n<=40
 ok:∀ i,i < s.n->(s.e i).ok=true
 ch:∀ i,i+1 < s.n->(s.e (i+1)).ax=(s.e i).bx/\(s.e (i+1)).ay=(s.e i).by'
 cl:s.k=2->(s.e 0).ax=(s.e (s.n - 1)).bx/\(s.e 0).ay=(s.e (s.n - 1)).by'
 r:(0<=s.r/\s.r<=4194304)/\(s.k=2->s.r=0)
theorem errN_z {e:Nat->Ed}:∀ {n:Nat},(∀ i,i < n->(e i).ok=true)->errN e n=0
 | 0,_=>rfl
 | n+1,h=>by
  unfold errN
  rw [if_pos (errN_z fun i hi=>h i (by omega))]
  unfold checkZ
  rw [if_pos (h n (by omega))]
theorem OkS.chk {s:Sh} (h:OkS s):chkS s=0:=by
 unfold chkS
 have h0:=h.n0
 have h1:=h.n1
 have hk:=h.k
 rw [if_neg (by omega),if_neg (by omega),if_neg (by omega),if_neg (by rw [errN_z h.ok];omega),if_neg,if_neg]
 ·obtain ⟨⟨r0, r1⟩, r2⟩ := h.r
  rintro (⟨k2,g⟩ | g | g)
  ·exact g (r2 k2)
  ·omega
  ·omega
 ·rintro (g | ⟨k2, g⟩)
  ·have:allB (jn s.e) (s.n - 1)=true:=allB_t.2 fun i hi=>by
    obtain ⟨e1,e2⟩:=h.ch i (by omega)
    unfold jn
    rw [e1,e2]
    simp
   rw [this] at g
   cases g
  ·obtain ⟨e1, e2⟩ := h.cl k2
   unfold clsB at g
   rw [e1,e2] at g
   simp at g
def chainL:List Ed->Prop
 | []=>True
 | e::l=>(match l with | []=>True | f::_=>f.ax=e.bx/\f.ay=e.by')/\chainL l
theorem chainL_at:∀ {l:List Ed},chainL l->∀ i,i+1 < l.length->(rowE l (i+1)).ax=(rowE l i).bx/\(rowE l (i+1)).ay=(rowE l i).by'
 | [],_,i,hi=>absurd hi (Nat.not_lt_zero _)
 | [e],_,i,hi=>by simp at hi
 | e::f::l,h,0,_=>h.1
 | e::f::l,h,i+1,hi=>chainL_at (l:=f::l) h.2 i (by simpa using hi)
theorem rowE_mem {l:List Ed} {i:Nat} (h:i < l.length):rowE l i ∈ l:=by
 unfold rowE
 rw [List.getElem?_eq_getElem h]
 exact List.getElem_mem h
theorem okS_list {k:Int} {l:List Ed} {r:Int} (hk:k=1\/k=2) (h0:(if k=1 then 1 else 2)<=l.length) (h1:l.length<=40) (ho:∀ e ∈ l,e.ok=true) (hc:chainL l) (hl:k=2->(rowE l 0).ax=(rowE l (l.length - 1)).bx/\(rowE l 0).ay=(rowE l (l.length - 1)).by') (hr:(0<=r/\r<=4194304)/\(k=2->r=0)):OkS (shL' k l r) :=
 ⟨hk,by show fewS (shL' k l r)<=(l.length:Int);unfold fewS;show (if k=1 then (1:Int) else 2)<=l.length;split<;>simp_all<;>omega,h1,fun i hi=>ho _ (rowE_mem hi),chainL_at hc,hl,hr⟩
theorem all1 {P:Ed->Prop} {a:Ed} {l:List Ed} (h1:P a) (h2:∀ e ∈ l,P e):∀ e ∈ a::l,P e:=fun e he=>by
 rcases List.mem_cons.1 he with rfl | he
 ·exact h1
 ·exact h2 e he
theorem all0 {P:Ed->Prop}:∀ e ∈ ([]:List Ed),P e:=fun e he=>by cases he
end

section
open Go.RowKit
def countC (d:Int) (l:List (Int × Int)):Int:=if d < 0 then 0 else (if goodS d 1 l then 1 else 0)+(if d=0 then 0 else if goodS d (-1) l then 1 else 0)
theorem countZ_eq (d:Int) (l:List (Int × Int)):countZ d l=countC d l:=by
 unfold countZ countL countC signL
 by_cases h:d < 0
 ·simp [h]
 ·have hd : decide (d < 0) = false := by simpa using h
  rw [hd,if_neg h]
  simp only [Bool.false_eq_true,if_false]
  by_cases h0:d=0
  ·subst h0
   have:(digs (Int.natAbs 0)).length=0:=by simp [digs_zero]
   rw [if_pos this,if_pos rfl]
   cases hg:goodS 0 1 l<;>simp [sP,hg]
  ·have:¬ (digs d.natAbs).length=0:=by
    intro e
    have:=digs_eq_nil.1 (List.eq_nil_of_length_eq_zero e)
    omega
   rw [if_neg this,if_neg h0]
   cases hg:goodS d 1 l<;>cases hg':goodS d (-1) l<;>simp [sP,sM,hg,hg']
end

section
open Go.RowKit
theorem line_ok {ax ay bx by':Int} (h1:Co ax) (h2:Co ay) (h3:Co bx) (h4:Co by'):(Ed.mk 1 ax ay bx by' 0 0).ok=true:=by
 simp only [Ed.ok,Ed.right,Bool.and_eq_true]
 exact ⟨⟨⟨coordB_iff.2 ⟨h1,h2⟩,coordB_iff.2 ⟨h3,h4⟩⟩,coordB_iff.2 (by unfold Co;omega)⟩,by simp [Ed.lone]⟩
theorem sideI_pos {n:Int} (h:0 < n):sideI n=1:=by unfold sideI;(repeat' split)<;>omega
theorem sideI_neg {n:Int} (h:n < 0):sideI n = -1:=by unfold sideI;(repeat' split)<;>omega
theorem sgn_pos {n:Int} (h:0 < n):sgn n=1:=by unfold sgn cmpZ;(repeat' split)<;>omega
theorem sgn_neg {n:Int} (h:n < 0):sgn n = -1:=by unfold sgn cmpZ;(repeat' split)<;>omega
end

section
open Go.RowKit
theorem sgn_nneg {x:Int} (h:0<=x):0<=sgn x:=by unfold sgn cmpZ;(repeat' split)<;>omega
theorem sq_leM {a b:Int} (h0:0<=a) (h:a<=b):a*a<=b*b:=Int.mul_le_mul h h h0 (by omega)
theorem sideZ_sq {x z n:Int} (hn:0<=n) (h:0<=x+z*n):0<=sideZ x z (n*n):=by
 unfold sideZ
 rcases Int.lt_or_eq_of_le hn with h0 | h0
 ·have hnn : 0 < n * n := Int.mul_pos h0 h0
  rw [sgn_pos hnn,Int.mul_one]
  rcases Int.lt_trichotomy x 0 with hx | hx | hx
  ·rw [sgn_neg hx]
   rcases Int.lt_trichotomy z 0 with hz | hz | hz
   ·exfalso
    have:=Int.mul_neg_of_neg_of_pos hz h0
    omega
   ·subst hz;exfalso;omega
   ·rw [sgn_pos hz, if_neg (by decide)]
    have h1:=sq_leM (a := -x) (b:=z*n) (by omega) (by omega)
    have e:z*z*(n*n)=z*n*(z*n):=by grind
    have e2 : -x * -x=x*x:=by grind
    rw [e]
    unfold cmpZ
    (repeat' split)<;>omega
  ·subst hx
   have:0<=z:=by
    rcases (show z < 0\/0<=z by omega) with hz | hz
    ·have:=Int.mul_neg_of_neg_of_pos hz h0;omega
    ·exact hz
   have h2:=sgn_nneg this
   have h3:=sgn_bd z
   have e0:sgn 0=0:=rfl
   rw [e0,Int.zero_mul,if_pos (Int.le_refl _)]
   omega
  ·rw [sgn_pos hx]
   rcases Int.lt_trichotomy z 0 with hz | hz | hz
   ·rw [sgn_neg hz, if_neg (by decide)]
    have h1:=sq_leM (a := -(z*n)) (b:=x) (by have:=Int.mul_neg_of_neg_of_pos hz h0;omega) (by omega)
    have e:z*z*(n*n) = -(z*n) * -(z*n):=by grind
    rw [e]
    unfold cmpZ
    (repeat' split)<;>omega
   ·subst hz
    rw [show sgn 0=0 from rfl,if_pos (by omega)]
    decide
   ·rw [sgn_pos hz, if_pos (by decide)]
    decide
 ·subst h0
  have e0:sgn (0*0)=0:=rfl
  have hx:=sgn_nneg (show 0<=x by omega)
  have h3:=sgn_bd x
  rw [e0,Int.mul_zero,Int.mul_zero,if_pos (Int.le_refl _)]
  omega
theorem sideZ_m {x y m s:Int} (hs:(s=1/\0<=m)\/(s = -1/\m < 0)) (h:0<=x+y*m):0<=sideZ x (s*y) (m*m):=by
 rcases hs with ⟨rfl,hm⟩ | ⟨rfl,hm⟩
 ·rw [Int.one_mul];exact sideZ_sq hm h
 ·have e : m * m = -m * -m := by grind
  rw [e]
  refine sideZ_sq (by omega) ?_
  have : -1*y * -m=y*m:=by grind
  omega
theorem countC_root {m:Int} {l:List (Int × Int)} (h:∀ p ∈ l,0<=p.1+p.2*m):1<=countC (m*m) l:=by
 have hsq:0<=m*m:=by rw [<- Int.natAbs_mul_self];omega
 have hg (s:Int) (hs:(s=1/\0<=m)\/(s = -1/\m < 0)):goodS (m*m) s l=true:=by
  unfold goodS
  rw [List.all_eq_true]
  intro p hp
  simpa using sideZ_m hs (h p hp)
 unfold countC
 rw [if_neg (by omega)]
 rcases (show m < 0\/0<=m by omega) with hm | hm
 ·have hne:¬ m*m=0:=by
   have:=Int.mul_pos_of_neg_of_neg hm hm
   omega
  rw [if_neg hne,hg (-1) (.inr ⟨rfl,hm⟩),if_pos rfl]
  split<;>omega
 ·rw [hg 1 (.inl ⟨rfl, hm⟩), if_pos rfl]
  split
  ·omega
  ·split<;>omega
def Btw (a x b:Int):Prop:=min a b<=x/\x<=max a b
theorem btw_mul {x d:Int} (h:Btw 0 x d):0<=x*d/\x*d<=d*d/\0<=x*(d - x):=by
 unfold Btw at h
 rcases Int.le_total 0 d with h0 | h0
 ·have h1 : 0 <= x := by omega
  have h2:x<=d:=by omega
  exact ⟨Int.mul_nonneg h1 h0,Int.mul_le_mul_of_nonneg_right h2 h0,Int.mul_nonneg h1 (by omega)⟩
 ·have h1 : x <= 0 := by omega
  have h2:d<=x:=by omega
  have a:=Int.mul_nonneg (show 0 <= -x by omega) (show 0 <= -d by omega)
  have b:=Int.mul_le_mul_of_nonneg_right (show -x <= -d by omega) (show 0 <= -d by omega)
  have c:=Int.mul_nonneg (show 0 <= -x by omega) (show 0 <= -(d - x) by omega)
  have e1 : -x * -d=x*d:=by grind
  have e2 : -d * -d=d*d:=by grind
  have e3 : -x * -(d - x)=x*(d - x):=by grind
  omega
theorem btw_shift {a x b:Int} (h:Btw a x b):Btw 0 (x - a) (b - a):=by unfold Btw at *;omega
theorem side_not {a b:Int} (h:a*b<=0):¬ 0 < sideI a*sideI b:=by
 rcases Int.lt_trichotomy a 0 with ha | ha | ha<;>rcases Int.lt_trichotomy b 0 with hb | hb | hb
 ·have:=Int.mul_pos_of_neg_of_neg ha hb;omega
 ·subst hb;simp [sideI]
 ·rw [sideI_neg ha,sideI_pos hb];decide
 ·subst ha;simp [sideI]
 ·subst ha;simp [sideI]
 ·subst ha;simp [sideI]
 ·rw [sideI_pos ha,sideI_neg hb];decide
 ·subst hb;simp [sideI]
 ·have:=Int.mul_pos ha hb;omega
theorem nonneg_of_sq {p c:Int} (hc:c ≠ 0) (h:0<=p*(c*c)):0<=p:=by
 have hcc:0 < c*c:=by
  rcases Int.lt_or_gt_of_ne hc with h | h
  ·exact Int.mul_pos_of_neg_of_neg h h
  ·exact Int.mul_pos h h
 rcases (show p < 0\/0<=p by omega) with hp | hp
 ·have:=Int.mul_neg_of_neg_of_pos hp hcc;omega
 ·exact hp
theorem zero_of_mul {p c:Int} (hc:c ≠ 0) (h:p*c=0):p=0:=by
 rcases Int.mul_eq_zero.1 h with h | h
 ·exact h
 ·exact absurd h hc
theorem cut_prod {X Y dx dy gx gy:Int} (hX:Btw 0 X dx) (hY:Btw 0 Y dy) (hc:X*dy=Y*dx) (hd:¬ (dx=0/\dy=0)) :
  0<=(gx*X+gy*Y)*(gx*(dx - X)+gy*(dy - Y)):=by
 have h1:=(btw_mul hX).2.2
 have h2:=(btw_mul hY).2.2
 have hg:0<=(gx*dx+gy*dy)*(gx*dx+gy*dy):=by rw [<- Int.natAbs_mul_self];omega
 by_cases h:dx=0
 ·have hy : dy ≠ 0 := fun e => hd ⟨h, e⟩
  refine nonneg_of_sq hy ?_
  have e:(gx*X+gy*Y)*(gx*(dx - X)+gy*(dy - Y))*(dy*dy)=Y*(dy - Y)*((gx*dx+gy*dy)*(gx*dx+gy*dy)):=by grind
  rw [e]
  exact Int.mul_nonneg h2 hg
 ·refine nonneg_of_sq h ?_
  have e:(gx*X+gy*Y)*(gx*(dx - X)+gy*(dy - Y))*(dx*dx)=X*(dx - X)*((gx*dx+gy*dy)*(gx*dx+gy*dy)):=by grind
  rw [e]
  exact Int.mul_nonneg h1 hg
end
end Go.Proofs.YtceemiodpccbhaaGreat
