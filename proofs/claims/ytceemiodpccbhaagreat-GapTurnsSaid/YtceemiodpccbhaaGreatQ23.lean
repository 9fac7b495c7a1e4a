import Derived.Test.YtceemiodpccbhaaGreatQ22
import Derived.Stop.RegionWithIn
set_option linter.unusedVariables false
set_option linter.unusedSimpArgs false

namespace Go.Proofs.YtceemiodpccbhaaGreat
open Go.RowKit
def bX0(s:Sh):Int:=if s.n=0 then 0 else IntKind.i64.wrap (x0N s.e (s.n-1)-s.r)
def bY0(s:Sh):Int:=if s.n=0 then 0 else IntKind.i64.wrap (y0N s.e (s.n-1)-s.r)
def bX1(s:Sh):Int:=if s.n=0 then 0 else IntKind.i64.wrap (x1N s.e (s.n-1)+s.r)
def bY1(s:Sh):Int:=if s.n=0 then 0 else IntKind.i64.wrap (y1N s.e (s.n-1)+s.r)
theorem boxV_eq(s:Sh):boxV s=rcV (bX0 s) (bY0 s) (bX1 s) (bY1 s):=by
 unfold boxV bX0 bY0 bX1 bY1
 by_cases h:s.n=0<;>simp only[h,if_true,if_false]
def cBoxQ:Con:=shC 29 (fun s=>.one (rcV (bX0 s) (bY0 s) (bX1 s) (bY1 s))) (fun s=>[s.n<=1000]) fun s h=>boxV_eq s ▸ sbox_ok s h.1
def inBx(s:Sh)(px py:Int):Bool:=inB (bX0 s) (bY0 s) (bX1 s) (bY1 s) px py
def wnd(e:Nat->Ed)(px py:Int):Nat->Int
 | 0=>0
 | k+1=>wnd e px py k+rayZ (e k) px py
def farB(s:Sh)(px py:Int)(k:Nat):Bool:=!nearC (s.e k) px py s.r
def insS(s:Sh)(px py:Int):Bool:=if chkS s≠0 then false else if inBx s px py=false then false else if allB (farB s px py) s.n=false then true else decide (s.k=2)&&decide (wnd s.e px py s.n≠0)
theorem wnd_bd(e:Nat->Ed)(px py:Int):∀n,(wnd e px py n).natAbs<=n
 | 0=>Nat.le_refl _
 | n+1=>by
  have:=wnd_bd e px py n
  have:=rayZ_bd (e n) px py
  unfold wnd
  omega
structure Good (s:Sh):Prop where
 n1:1<=s.n
 n40:s.n<=40
 ok:∀k,k<s.n->(s.e k).ok=true
 r:0<=s.r/\s.r<=4194304
 k:s.k=1\/s.k=2
theorem ok_of0{e:Ed}(h:checkZ e=0):e.ok=true:=by
 unfold checkZ at h
 split at h
 ·assumption
 ·split at h<;>cases h
theorem chk_good{s:Sh}(h:chkS s=0):Good s:=by
 unfold chkS at h
 split at h
 ·cases h
 rename_i hk
 split at h
 ·cases h
 rename_i h1
 split at h
 ·cases h
 rename_i h2
 split at h
 ·rename_i h3;exact absurd h h3
 rename_i h3
 split at h
 ·cases h
 split at h
 ·cases h
 rename_i h5
 have hf:1<=fewS s:=by unfold fewS;split<;>decide
 exact⟨by omega,by omega,fun k hk=>ok_of0 (errN_0 (by simpa using h3) k hk),by omega,by omega⟩
theorem bx_bd{e:Nat->Ed}:∀ {m:Nat},(∀k,k<=m->(e k).ok=true)->(-67108864<=x0N e m/\x0N e m<=67108864)/\(-67108864<=y0N e m/\y0N e m<=67108864)/\(-67108864<=x1N e m/\x1N e m<=67108864)/\(-67108864<=y1N e m/\y1N e m<=67108864)
 | 0,h=>by
  obtain⟨⟨h1,h2⟩,⟨h3,h4⟩,_⟩:=ok_right (h 0 (Nat.le_refl _))
  unfold Co at h1 h2 h3 h4
  unfold x0N y0N x1N y1N
  omega
 | m+1,h=>by
  obtain⟨k1,k2,k3,k4⟩:=bx_bd (m:=m) fun k hk=>h k (by omega)
  obtain⟨⟨h1,h2⟩,⟨h3,h4⟩,_⟩:=ok_right (h (m+1) (Nat.le_refl _))
  unfold Co at h1 h2 h3 h4
  unfold x0N y0N x1N y1N
  omega
theorem in_bd{s:Sh}{px py:Int}(g:Good s)(h:inBx s px py=true):Bd b27 px py:=by
 obtain⟨h1,h2,h3,h4⟩:=bx_bd (e:=s.e) (m:=s.n-1) fun k hk=>g.ok k (by have:=g.n1;omega)
 have n0:¬s.n=0:=by have:=g.n1;omega
 have hr:=g.r
 unfold inBx inB bX0 bY0 bX1 bY1 at h
 simp only[if_neg n0,Bool.and_eq_true,decide_eq_true_eq] at h
 rw[wrap_in (by unfold I64;omega),wrap_in (by unfold I64;omega),wrap_in (by unfold I64;omega),wrap_in (by unfold I64;omega)] at h
 unfold Bd b27
 omega
def edA(e:Ed):Value:=.agg #[.int .i64 e.k,.int .i64 e.ax,.int .i64 e.ay,.int .i64 e.bx,.int .i64 e.by',.int .i64 e.cx,.int .i64 e.cy]
structure EdAt (w:World) (g o:Nat) (e:Ed):Prop where
 c0:w.cell? ⟨g,o,none⟩=some (.int .i64 e.k)
 c1:w.cell? ⟨g,o+1,none⟩=some (.int .i64 e.ax)
 c2:w.cell? ⟨g,o+2,none⟩=some (.int .i64 e.ay)
 c3:w.cell? ⟨g,o+3,none⟩=some (.int .i64 e.bx)
 c4:w.cell? ⟨g,o+4,none⟩=some (.int .i64 e.by')
 c5:w.cell? ⟨g,o+5,none⟩=some (.int .i64 e.cx)
 c6:w.cell? ⟨g,o+6,none⟩=some (.int .i64 e.cy)
theorem EdAt.below{w w':World}{v g o:Nat}{e:Ed}(h:EdAt w g o e)(hb:Below v w w')(hg:g<v):EdAt w' g o e :=
 ⟨(hb.cell (p:=⟨g,o,none⟩) hg).trans h.c0,(hb.cell (p:=⟨g,_,none⟩) hg).trans h.c1,(hb.cell (p:=⟨g,_,none⟩) hg).trans h.c2,(hb.cell (p:=⟨g,_,none⟩) hg).trans h.c3,(hb.cell (p:=⟨g,_,none⟩) hg).trans h.c4,(hb.cell (p:=⟨g,_,none⟩) hg).trans h.c5,(hb.cell (p:=⟨g,_,none⟩) hg).trans h.c6⟩
def EdRow(v:Nat)(w:World)(p:Option Addr)(n:Nat)(e:Nat->Ed):Prop:=∀i,i<n->∃g o,p=some ⟨g,o,none⟩/\g<v/\EdAt w g (o+i*7) (e i)
theorem EdRow.below{w w':World}{v n:Nat}{p:Option Addr}{e:Nat->Ed}(h:EdRow v w p n e)(hb:Below v w w'):EdRow v w' p n e:=fun i hi=>by
 obtain⟨g,o,h1,h2,h3⟩:=h i hi
 exact⟨g,o,h1,h2,h3.below hb h2⟩
def KpJ(v B1 B2:Nat)(W W':World):Prop:=Below v W W'/\(∀o,W'.cell? ⟨B1,o,none⟩=W.cell? ⟨B1,o,none⟩)/\∀o,W'.cell? ⟨B2,o,none⟩=W.cell? ⟨B2,o,none⟩
theorem KpJ.trans{v B1 B2:Nat}{A B C:World}(h:KpJ v B1 B2 A B)(k:KpJ v B1 B2 B C):KpJ v B1 B2 A C:=⟨h.1.trans k.1,fun o=>(k.2.1 o).trans (h.2.1 o),fun o=>(k.2.2 o).trans (h.2.2 o)⟩
def upT(k:Nat):List Nat:=List.range k
theorem upT_succ(k:Nat):upT (k+1)=upT k++[k]:=List.range_succ
theorem upT_len(k:Nat):(upT k).length=k:=List.length_range
def nmJ(cl:Bool)(n:Nat):Nat:=if cl then n else n-1
def nx(n i:Nat):Nat:=if i+1<n then i+1 else 0

set_option maxHeartbeats 8000000
set_option maxRecDepth 100000
section
open Go.RowKit Go.Shelf
attribute [local go_sem] Oper.semAt_some
attribute [local go_sem] Gives givesU
def regOf(id:Nat):Code->Option Code
 | .region k ops d=>if k=id then some (.region k ops d) else none
 | .seq a b=>match regOf id a with|some c=>some c|none=>regOf id b
 | .cond _ a b=>match regOf id a with|some c=>some c|none=>regOf id b
 | .block _ c=>regOf id c
 | .loop c=>regOf id c
 | _=>none
def exB(R:Bool->World->Prop)(W:World):Prop:=∃b,R b W
theorem joints_last(m L B1 B2 g o n c j:Nat)(E0 E1:Ed)(wr:World)(x3 x4 x5 x6 x7 x8 x9 x10 x11 x12 x13 x14 x15 x16 x17 x18 x19 x20 x21 x22 x23 x24 x25 x26 x27 x28 x29 x30 x31 x32 x33 x34:Value)(R:Bool->World->Prop)
  (m0:wr.cell? ⟨B1,0,none⟩=some (.slice (some ⟨g,o,none⟩) n c)) (h0:EdAt wr g (o+j*7) E0) (h1:EdAt wr g o E1) (hn:n<=1000) (hj:n=j+1) (hm:1<=m)
  (hY:YieldAt Fence.wide (m-1) Tryz.prog L #[edA E0,edA E1] wr.drew fun e W'=>∃b:Bool,e=.returned (.bool b)/\R b W') :
  ((regOf 5 (bodyF Tryz.prog 167)).getD .skip).wpIn Fence.wide m Tryz.prog (fun e a W1=>e=.normal/\a.defers=[]/\exB R W1) { tmps:=#[.func (.yield L) #[] #[],.pointer (some ⟨B1,0,none⟩),.pointer (some ⟨B2,0,none⟩),x3,x4,x5,x6,x7,x8,x9,x10,x11,x12,x13,x14,x15,x16,x17,x18,x19,x20,x21,x22,x23,x24,x25,x26,x27,x28,x29,x30,x31,x32,x33,x34],defers:=[] } wr:=by
 obtain⟨f1,t1,z1,y1,hy1,hR⟩:=hY
 obtain⟨k0,k1,k2,k3,k4,k5,k6⟩:=E0
 obtain⟨l0,l1,l2,l3,l4,l5,l6⟩:=E1
 simp only[edA] at hy1
 obtain⟨a0,a1,a2,a3,a4,a5,a6⟩:=h0
 obtain⟨b0,b1,b2,b3,b4,b5,b6⟩:=h1
 simp only at a0 a1 a2 a3 a4 a5 a6 b0 b1 b2 b3 b4 b5 b6
 have wk:IntKind.i64.wrap ((n:Int)-1)=(j:Int):=by rw[wrap_in (by unfold I64;omega)];omega
 have ix2:(j:Int)<(n:Int):=by omega
 have ix3:(0:Int)<(n:Int):=by omega
 have hb:bodyF Tryz.prog 167=(Tryz.f167.body).getD .skip:=by unfold bodyF;rw[Tryz.func167];rfl
 rw[hb]
 clear hj hn hb
 simp only[Tryz.f167,Option.getD,regOf,Nat.reduceEqDiff,reduceIte]
 gi_region_with (refine hR.mono ?_;rintro e' W1 ⟨b,rfl,h1⟩)
 all_goals exact⟨rfl,rfl,b,h1⟩
end

set_option maxHeartbeats 4000000
set_option maxRecDepth 100000
section
open Go.RowKit Go.Shelf
attribute [local go_sem] Oper.semAt_some
attribute [local go_sem] Gives givesU
theorem joints_stops(m:Nat)(hm:1<=m)(n:Nat)(e:Nat->Ed)(v B1 B2 c:Nat)(p:Option Addr)(cl:Bool)(w:World)(hB1:B1<w.heap.size)(hB2:B2<w.heap.size)(hv:v<=w.heap.size)
  (c0:w.cell? ⟨B1,0,none⟩=some (.slice p n c)) (c1:w.cell? ⟨B2,0,none⟩=some (.bool cl)) (hR:EdRow v w p n e) (hn:n<=1000) (hcl:1<=n) :
  SeqStopsK Fence.wide m Tryz.prog 167 #[.pointer (some ⟨B1,0,none⟩),.pointer (some ⟨B2,0,none⟩)] (fun i:Nat=>#[edA (e i),edA (e (nx n i))]) (KpJ v B1 B2) (fun xs=>xs=upT (nmJ cl n)) (fun pre=>∃k,k<(nmJ cl n)/\pre=upT (k+1)) (nmJ cl n) w:=fun L J Jx W hW hA hAx hY h0=>by
 have k0:W.cell? ⟨B1,0,none⟩=some (.slice p n c):=(hW.cell (p:=⟨B1,0,none⟩) hB1).trans c0
 have k1:W.cell? ⟨B2,0,none⟩=some (.bool cl):=(hW.cell (p:=⟨B2,0,none⟩) hB2).trans c1
 have hrW:EdRow v W p n e:=hR.below (hW.mono hv)
 clear c0 c1 hR
 refine callsIn_of_wp Tryz.func167 rfl trivial ?_ rfl
 simp only[Tryz.ntmps167,List.size_toArray,List.length_cons,List.length_nil,Nat.reduceAdd,Nat.reduceSub,Array.replicate_succ,Array.replicate_zero,List.push_toArray,List.append_toArray,List.nil_append,List.cons_append]
 gi_wp2
 gi_loopw [4] (fun i wr=>∃k:Nat,i=.int .i64 ((k:Int)+1)/\k<=n-1/\J (upT k) wr/\KpJ v B1 B2 W wr) (fun i _=>n-(intOf i).toNat)
 case atStart=>exact⟨0,rfl,by omega,h0,Below.refl _ _,fun _=>rfl,fun _=>rfl⟩
 case round =>
  obtain⟨k,rfl,hk,hJ,hK0,hK1,hK2⟩:=hrel
  have m0:wr.cell? ⟨B1,0,none⟩=some (.slice p n c):=(hK1 0).trans k0
  have m1:wr.cell? ⟨B2,0,none⟩=some (.bool cl):=(hK2 0).trans k1
  by_cases hlt:k+1<n
  ·obtain ⟨g, o, rfl, hg, E0⟩ := hrW k (by omega)
   obtain⟨g',o',hp,_,E1⟩:=hrW (k+1) hlt
   cases hp
   obtain⟨a0,a1,a2,a3,a4,a5,a6⟩:=E0.below hK0 hg
   obtain⟨b0,b1,b2,b3,b4,b5,b6⟩:=E1.below hK0 hg
   have hkk:Hid (k<nmJ cl n):=Lib.hid (by unfold nmJ;split<;>omega)
   have hJd:J (upT k) wr.drew:=hA _ _ _ none hJ ⟨rfl,rfl,rfl,Nat.le_refl _,fun _ _ _=>rfl⟩ (fun r h=>by cases h)
   obtain⟨f1,t1,x1,y1,hy1,hR1⟩:=hY (upT k) k wr.drew hJd (by rw[upT_len];exact hkk.out)
   rw[show e (nx n k)=e (k+1) by unfold nx;rw[if_pos hlt]] at hy1
   unfold edA at hy1
   have wk:IntKind.i64.wrap (k:Int)=(k:Int):=wrap_in (by unfold I64;omega)
   have ix0:0<=(k:Int):=by omega
   have ix1:(k:Int)+1<(n:Int):=by omega
   have ix2:(k:Int)<(n:Int):=by omega
   have ix3:0<=(k:Int)+1:=by omega
   have HK:=Lib.hid (show KpJ v B1 B2 W wr from⟨hK0,hK1,hK2⟩)
   have hR2:=RoundIn.mono hR1 (R':=fun e W'=>∃b:Bool,e=.returned (.bool b)/\Hid (if b then J (upT k++[k]) W'/\KpJ v B1 B2 wr.drew W' else Jx (upT k++[k]) W')) (by
    rintro e' W1 (⟨rfl,h1,h2⟩|⟨rfl,h1⟩)
    ·exact⟨true,rfl,Lib.hid (by rw[if_pos rfl];exact⟨h1,h2⟩)⟩
    ·exact⟨false,rfl,Lib.hid (by rw[if_neg (by decide)];exact h1)⟩)
   clear hJ E0 E1 hK0 hK1 hK2 hJd hR1
   gi_wp2
   gi_region_with (refine hR2.mono ?_;rintro e' W1 ⟨b,rfl,h1⟩)
   all_goals
    cases b
    ·have h2 : Hid (Jx (upT (k + 1)) W1) := Lib.hid (by have := h1.out; rw [if_neg (by decide)] at this; rw [upT_succ]; exact this)
     clear h1
     gi_wp2
     refine bodyPost_ret (results_none rfl _ _ _) rfl ?_
     exact⟨⟨_,rfl⟩,.inr ⟨_,⟨k,hkk.out,rfl⟩,h2.out⟩⟩
    ·have h2:Hid (J (upT (k+1)) W1/\KpJ v B1 B2 W W1):=Lib.hid (by
      have:=h1.out
      rw[if_pos rfl] at this
      rw[upT_succ]
      exact⟨this.1,HK.out.trans (KpJ.trans (B:=wr.drew) ⟨⟨rfl,rfl,rfl,Nat.le_refl _,fun _ _=>rfl⟩,fun _=>rfl,fun _=>rfl⟩ this.2)⟩)
     clear h1
     gi_wp2
     exact⟨⟨k+1,by simp,by omega,h2.out.1,h2.out.2⟩,by simp[intOf];omega⟩
  ·obtain rfl : k = n - 1 := by omega
   have HK:=Lib.hid (show KpJ v B1 B2 W wr from⟨hK0,hK1,hK2⟩)
   cases cl with
   | false =>
    have h2:Hid (J (upT (nmJ false n)) wr):=Lib.hid (by unfold nmJ;rw[if_neg (by decide)];exact hJ)
    clear hJ hK0 hK1 hK2
    have ix:¬(((n-1:Nat):Int)+1<(n:Int)):=by omega
    gi_wp2
    go_end0
    first
     | exact⟨⟨_,rfl⟩,.inl ⟨_,rfl,h2.out⟩⟩
     | exact⟨⟨_,rfl⟩,.inl h2.out⟩
   | true =>
    obtain⟨g,o,rfl,hg,E0⟩:=hrW (n-1) (by omega)
    obtain⟨g',o',hp,_,E1⟩:=hrW 0 (by omega)
    cases hp
    rw[Nat.zero_mul,Nat.add_zero] at E1
    have hJd:J (upT (n-1)) wr.drew:=hA _ _ _ none hJ ⟨rfl,rfl,rfl,Nat.le_refl _,fun _ _ _=>rfl⟩ (fun r h=>by cases h)
    have hY1:=hY (upT (n-1)) (n-1) wr.drew hJd (by rw[upT_len];unfold nmJ;rw[if_pos rfl];omega)
    rw[show e (nx n (n-1))=e 0 by unfold nx;rw[if_neg (by omega)]] at hY1
    have hE0:=E0.below hK0 hg
    have hE1:=E1.below hK0 hg
    obtain⟨j,hj⟩:∃j,n-1=j:=⟨_,rfl⟩
    rw[hj] at hE0 hY1 ⊢
    have ix:¬((j:Int)+1<(n:Int)):=by omega
    have hjn:Hid (n=j+1):=Lib.hid (by omega)
    have hb:bodyF Tryz.prog 167=(Tryz.f167.body).getD .skip:=by unfold bodyF;rw[Tryz.func167];rfl
    have key:=Lib.hid (fun x3 x4 x5 x6 x7 x8 x9 x10 x11 x12 x13 x14 x15 x16 x17 x18 x19 x20 x21 x22 x23 x24 x25 x26 x27 x28 x29 x30 x31 x32 x33 x34=>joints_last m L B1 B2 g o n c j (e (n-1)) (e 0) wr x3 x4 x5 x6 x7 x8 x9 x10 x11 x12 x13 x14 x15 x16 x17 x18 x19 x20 x21 x22 x23 x24 x25 x26 x27 x28 x29 x30 x31 x32 x33 x34 (fun b W1=>if b then J (upT j++[j]) W1 else Jx (upT j++[j]) W1) m0 (by rw[hj];exact hE0) hE1 hn (by omega) hm (by
     obtain⟨f1,t1,z1,y1,hy1,hR⟩:=hY1
     refine⟨f1,t1,z1,y1,by rw[hj];exact hy1,RoundIn.mono hR ?_⟩
     rintro e' W1 (⟨rfl,h1,h2⟩|⟨rfl,h1⟩)
     ·exact⟨true,rfl,by rw[if_pos rfl];exact h1⟩
     ·exact⟨false,rfl,by rw[if_neg (by decide)];exact h1⟩))
    clear hJ E0 E1 hK0 hK1 hK2 hJd hj hk hlt hE0 hE1 hY1
    gi_wp2
    refine Code.wpIn_mono (Q:=fun e a W1=>e=.normal/\a.defers=[]/\exB (fun b W1=>if b then J (upT j++[j]) W1 else Jx (upT j++[j]) W1) W1) ?_ ?_
    ·rintro e' ⟨tm, df⟩ W1 ⟨rfl, rfl, b, h1⟩
     have h2:Hid (J (upT (nmJ true n)) W1\/∃pre,(∃k,k<nmJ true n/\pre=upT (k+1))/\Jx pre W1):=Lib.hid (by
      cases b with
      | true=>rw[if_pos rfl] at h1;exact .inl (by unfold nmJ;rw[if_pos rfl,hjn.out,upT_succ];exact h1)
      | false=>rw[if_neg (by decide)] at h1;exact .inr ⟨_,⟨j,by unfold nmJ;rw[if_pos rfl,hjn.out];omega,rfl⟩,by rw[upT_succ];exact h1⟩)
     clear h1
     gi_wp2
     go_end0
     first
      | exact⟨⟨_,rfl⟩,h2.out⟩
      | exact⟨⟨_,rfl⟩,h2.out.imp (fun h=>⟨_,rfl,h⟩) id⟩
    ·have key2 := fun x3 x4 x5 x6 x7 x8 x9 x10 x11 x12 x13 x14 x15 x16 x17 x18 x19 x20 x21 x22 x23 x24 x25 x26 x27 x28 x29 x30 x31 x32 x33 x34 => key.out x3 x4 x5 x6 x7 x8 x9 x10 x11 x12 x13 x14 x15 x16 x17 x18 x19 x20 x21 x22 x23 x24 x25 x26 x27 x28 x29 x30 x31 x32 x33 x34
     rw[hb] at key2
     simp only[Tryz.f167,Option.getD,regOf,Nat.reduceEqDiff,reduceIte] at key2
     exact key2 _ _ _ _ _ _ _ _ _ _ _ _ _ _ _ _ _ _ _ _ _ _ _ _ _ _ _ _ _ _ _ _
end
def aHead(P:Program)(E:Env)(call:CallF)(L:List (Nat×Orc)):Nat->Code->St->List Bool->Option (St×List Prop×List Bool)
 | 0,_,s,q=>some (s,[],q)
 | n+1,.seq a b,s,q=>match aCodeL P E call L a s q with
  | some (.nm,s,ps,q)=>(aHead P E call L n b s q).map fun r=>(r.1,ps++r.2.1,r.2.2)
  | _=>none
 | _+1,_,_,_=>none
def restS:Nat->Code->Code
 | 0,c=>c
 | n+1,.seq _ b=>restS n b
 | _+1,_=>.skip
theorem aHead_wp{P:Program}{E:Env}{call:CallF}{L:List (Nat×Orc)}(hs:Sound P E call){Q:Exit->Act->World->Prop}:∀ {n:Nat} {c:Code} {V:World} {s s':St} {q q':List Bool} {ps:List Prop} {a:Act} {w:World},LpOk P (loopsOf c) L->aHead P E call L n c s q=some (s',ps,q')->All ps->JJ V s a w ->
  (∀a' W,JJ V s' a' W->(restS n c).wp P Q a' W)->c.wp P Q a w
 | 0,c,V,s,s',q,q',ps,a,w,_,h,_,hJ,hQ=>by
  unfold aHead at h
  cases h
  exact hQ _ _ hJ
 | n+1,c,V,s,s',q,q',ps,a,w,hL,h,hp,hJ,hQ=>by
  cases c with
  | seq x y =>
   have hL1:LpOk P (loopsOf x) L:=fun c hc=>hL c (List.mem_append_left _ hc)
   have hL2:LpOk P (loopsOf y) L:=fun c hc=>hL c (List.mem_append_right _ hc)
   unfold aHead at h
   split at h
   ·rename_i s1 ps1 q1 h1
    cases h2:aHead P E call L n y s1 q1 with
    | none=>simp[h2] at h
    | some z =>
     obtain⟨s2,ps2,q2⟩:=z
     simp only[h2,Option.map_some,Option.some.injEq,Prod.mk.injEq] at h
     obtain⟨rfl,rfl,rfl⟩:=h
     obtain⟨p1,p2⟩:=All.app hp
     exact wp_seq (aCodeL_wp hs hL1 h1 p1 hJ fun a' W hW=>aHead_wp hs hL2 h2 p2 hW hQ)
   ·cases h
  | _=>unfold aHead at h;cases h
noncomputable def preF(X:List Eff)(K:List Con)(L:List (Nat×Orc))(f:FuncId)(n:Nat)(args:List V1)(d:Ds)(q:List Bool):Option (List Prop) :=
 match aHead Tryz.prog (env X) (callK X K) L n (bodyF Tryz.prog f) ⟨⟨args.length+(nF f-args.length),(Tr.full 12).fill 0 (args.map fun v=>.one (toOV v))⟩,[],0⟩ q with
 | some (s,ps,[])=>if lpsOk f L&&(s.t.n==nF f) then (leS s d).map (ps++·) else none
 | _=>none
theorem preF_wp{X:List Eff}{K:List Con}{L:List (Nat×Orc)}{f:FuncId}(hL:LT f L){n:Nat}{args:List V1}{d:Ds}{q:List Bool}(pf:List Pf)(h:preF X K L f n args d q=some (pf.map Pf.p)){w:World}{vals:List Value}(hv:RepVs w w (fun _=>0) 0 args vals){Q:Exit->Act->World->Prop}
  (hQ:∀a' W,JJ w (mkS (nF f) d) a' W->(restS n (bodyF Tryz.prog f)).wp Tryz.prog Q a' W):(bodyF Tryz.prog f).wp Tryz.prog Q { tmps:=vals.toArray++Array.replicate (nF f-vals.toArray.size) undef,defers:=[] } w:=by
 have hp:=all_pf pf
 rw[show pf.map Pf.p=pf.map Pf.p from rfl] at h
 generalize pf.map Pf.p=ps at h hp
 unfold preF at h
 split at h
 ·rename_i s ps1 h1
  split at h
  ·rename_i hc
   simp only[Bool.and_eq_true,beq_iff_eq] at hc
   obtain⟨hk,hn⟩:=hc
   cases h2:leS s d with
   | none=>simp[h2] at h
   | some ps2 =>
    simp only[h2,Option.map_some,Option.some.injEq] at h
    subst h
    obtain⟨p1,p2⟩:=All.app hp
    have hLp:LpOk Tryz.prog (loopsOf (bodyF Tryz.prog f)) L:=by
     cases L with
     | nil=>exact LpOk.nil
     | cons x L =>
      have g:LpOk Tryz.prog (lpsF f) (x::L):=LT.ok (lpsOk_at hk x (List.mem_cons_self ..)) hL (lpsOk_at hk)
      rw[lpsF_eq] at g
      exact g
    exact aHead_wp (snd_ok X K) hLp h1 p1 ⟨_,_,start_J hv⟩ fun a' W hW=>hQ a' W (le_J h2 p2 hn hW)
  ·cases h
 ·cases h

set_option maxRecDepth 100000
section
def KCk:List Con:=[cChk]
def clV(s:Sh):V1:=⟨false,[.v (.bool (s.k==2))]⟩
def erB(z:Int):Option Mb:=some ⟨111,[.i z lim]⟩
def er0:Option Mb:=some ⟨111,[.k 0]⟩
def roV(s:Sh):V1:=⟨false,[roE s.n s.e]⟩
def ckD(s:Sh)(j:Nat):Ds:=⟨[(39,.le (inV (j:Int) 2000)),(37,.eq (roV s)),(38,.eq (lnE s.n)),(1,.eq (ptrN 0)),(2,.eq (ptrN 1)),(3,.eq (clV s))],shB s++[er0]⟩
def ckE(s:Sh):Ds:=⟨[(1,.eq (ptrN 0)),(2,.eq (ptrN 1)),(3,.eq (clV s))],shB s++[er0]⟩
def ckP(s:Sh):List Pf:=[pR (ptrN 0),pR (ptrN 1),pR (clV s)]++pSh s
theorem ck_round(s:Sh)(hn:s.n<=40)(k:Nat)(hk:k<s.n)(h:checkZ (s.e k)=0):Rnd [] KCk 66 18 [] (nF 66) (ckD s k) (ckD s (k+1)) .nm :=
 ⟨[true,false],[pT (lt_tt (show ((k:Nat):Int)<(s.n:Int) by omega)),pP (show 0<=((k:Nat):Int)/\((k:Nat):Int)<s.n by omega),pF (ne_F (show ¬checkZ (s.e k)≠0 by simpa using h)),pI k (by omega),pR (roV s),pR (lnE s.n)]++ckP s,by kernel_rfl⟩
theorem ck_good(s:Sh)(hn:s.n<=40)(h:errN s.e s.n=0):OrcOk Tryz.prog (lpC 66 18) ⟨nF 66,ckD s 0,.ex 1,ckE s⟩ :=
 orc (X:=[]) (K:=KCk) s.n (ckD s) (fun _=>[]) (by kernel_rfl) (fun _=>by kernel_rfl) (fun _ _=>LT.nil) (fun k hk=>ck_round s hn k hk (errN_0 h k hk))
  ⟨[false],[pF (lt_ff (show ¬((s.n:Nat):Int)<(s.n:Int) by omega))]++ckP s,by kernel_rfl⟩ nofun
theorem ck_bad(s:Sh)(hn:s.n<=40)(m:Nat)(hm:m<s.n)(h:∀k,k<m->checkZ (s.e k)=0)(h1:checkZ (s.e m)≠0):OrcOk Tryz.prog (lpC 66 18) ⟨nF 66,ckD s 0,.rt,⟨[(2,.eq (ptrN 1))],[none,erB (checkZ (s.e m))]⟩⟩ :=
 orc (X:=[]) (K:=KCk) m (ckD s) (fun _=>[]) (by kernel_rfl) (fun _=>by kernel_rfl) (fun _ _=>LT.nil) (fun k hk=>ck_round s hn k (by omega) (h k hk))
  ⟨[true,true],[pT (lt_tt (show ((m:Nat):Int)<(s.n:Int) by omega)),pP (show 0<=((m:Nat):Int)/\((m:Nat):Int)<s.n by omega),pT (ne_T h1),pR (ptrN 1),⟨checkZ (s.e m)=checkZ (s.e m),rfl⟩],by kernel_rfl⟩ nofun
def ckIn(s:Sh):List Pf:=[⟨(0:Int)=((0:Nat):Int),rfl⟩,pR (roV s),pR (lnE s.n)]++ckP s
def early(s:Sh):Prop:=(s.k≠1/\s.k≠2)\/(s.n:Int)<fewS s\/40<s.n\/errN s.e s.n≠0
theorem ck_early(s:Sh)(h:early s):Fok Tryz.prog 66 [shpV s] (.one (inV (chkS s) lim)):=by
 have kind:((s.k==1)=false/\(s.k==2)=false)\/((s.k==1)=false/\(s.k==2)=true)\/((s.k==1)=true/\(s.k==2)=false):=by
  simp only[beq_eq_false_iff_ne,beq_iff_eq,ne_eq];omega
 rcases kind with⟨h1,h2⟩|⟨h1,h2⟩|⟨h1,h2⟩
 ·have g1 : ¬ s.k = 1 := by simpa using h1
  have g2:¬s.k=2:=by simpa using h2
  exact Fok.vS (show chkS s=12 by unfold chkS;rw[if_pos ⟨g1,g2⟩]) (fok KCk [true,true,true] [pT (ne_T g1),pT (not_T h2),pT (not_T h2)] (by kernel_rfl))
 ·have g2 : s.k = 2 := by simpa using h2
  have g1:s.k≠1:=by omega
  have ef:fewS s=2:=by unfold fewS;rw[if_neg (by omega)]
  by_cases h0:(s.n:Int)=0
  ·exact Fok.vS (show chkS s=12 by unfold chkS;rw[if_neg (by omega),ef,if_pos (by omega)]) (fok KCk [true,false,true,true] [pT (ne_T g1),pF (not_F h2),pT (eq_tt h0),pT (eq_tt h0)] (by kernel_rfl))
  by_cases h3:(s.n:Int)<2
  ·exact Fok.vS (show chkS s=12 by unfold chkS;rw[if_neg (by omega),ef,if_pos h3]) (fok KCk [true,false,false,true,true] [pT (ne_T g1),pF (not_F h2),pF (eq_ff h0),pT h2,pT (lt_tt h3)] (by kernel_rfl))
  by_cases h4:(s.n:Int)>40
  ·exact Fok.vS (show chkS s=2 by unfold chkS;rw[if_neg (by omega),ef,if_neg h3,if_pos (by omega)]) (fok KCk [true,false,false,true,false,true] [pT (ne_T g1),pF (not_F h2),pF (eq_ff h0),pT h2,pF (lt_ff h3),pT (gt_T h4)] (by kernel_rfl))
  have hn:s.n<=40:=by omega
  have h5:errN s.e s.n≠0:=by unfold early at h;omega
  have e0:chkS s=errN s.e s.n:=by unfold chkS;rw[if_neg (by omega),ef,if_neg h3,if_neg (by omega),if_pos h5]
  obtain⟨m,k1,k2,k3⟩:=errN_n h5
  rw[e0,k2]
  rw[k2] at h5
  exact fokL [] KCk _ (LT.cons (ck_bad s hn m k1 k3 h5) LT.nil) [true,false,false,true,false,false] ([pT (ne_T g1),pF (not_F h2),pF (eq_ff h0),pT h2,pF (lt_ff h3),pF (gt_F h4)]++ckIn s) (by kernel_rfl)
 ·have g1 : s.k = 1 := by simpa using h1
  have ef:fewS s=1:=by unfold fewS;rw[if_pos g1]
  have n1:¬s.k≠1:=by omega
  by_cases h0:(s.n:Int)=0
  ·exact Fok.vS (show chkS s=12 by unfold chkS;rw[if_neg (by omega),ef,if_pos (by omega)]) (fok KCk [false,true,true] [pF (ne_F n1),pT (eq_tt h0),pT (eq_tt h0)] (by kernel_rfl))
  by_cases h4:(s.n:Int)>40
  ·exact Fok.vS (show chkS s=2 by unfold chkS;rw[if_neg (by omega),ef,if_neg (by omega),if_pos (by omega)]) (fok KCk [false,false,false,true] [pF (ne_F n1),pF (eq_ff h0),pF h2,pT (gt_T h4)] (by kernel_rfl))
  have hn:s.n<=40:=by omega
  have h5:errN s.e s.n≠0:=by unfold early at h;omega
  have e0:chkS s=errN s.e s.n:=by unfold chkS;rw[if_neg (by omega),ef,if_neg (by omega),if_neg (by omega),if_pos h5]
  obtain⟨m,k1,k2,k3⟩:=errN_n h5
  rw[e0,k2]
  rw[k2] at h5
  exact fokL [] KCk _ (LT.cons (ck_bad s hn m k1 k3 h5) LT.nil) [false,false,false,false] ([pF (ne_F n1),pF (eq_ff h0),pF h2,pF (gt_F h4)]++ckIn s) (by kernel_rfl)
theorem ck_pre(s:Sh)(h:¬early s):∃(q:List Bool) (pf:List Pf) (L:List (Nat×Orc)),LT 66 L/\preF [] KCk L 66 4 [shpV s] (ckE s) q=some (pf.map Pf.p):=by
 have hk:s.k=1\/s.k=2:=by unfold early at h;omega
 have hn:s.n<=40:=by unfold early at h;omega
 have h5:errN s.e s.n=0:=by unfold early at h;omega
 have hf:¬(s.n:Int)<fewS s:=by unfold early at h;omega
 have oc:=LT.cons (ck_good s hn h5) LT.nil
 rcases hk with g1|g2
 ·have ef : fewS s = 1 := by unfold fewS; rw [if_pos g1]
  exact⟨[false,false,false,false],[pF (ne_F (show ¬s.k≠1 by omega)),pF (eq_ff (show (s.n:Int)≠0 by omega)),pF (eq_ff (show s.k≠2 by omega)),pF (gt_F (show ¬(40:Int)<s.n by omega))]++ckIn s++ckP s,_,oc,by kernel_rfl⟩
 ·have ef : fewS s = 2 := by unfold fewS; rw [if_neg (by omega)]
  exact⟨[true,false,false,true,false,false],[pT (ne_T (show s.k≠1 by omega)),pF (not_F (eq_tt g2)),pF (eq_ff (show (s.n:Int)≠0 by omega)),pT (eq_tt g2),pF (lt_ff (show ¬(s.n:Int)<2 by omega)),pF (gt_F (show ¬(40:Int)<s.n by omega))]++ckIn s++ckP s,_,oc,by kernel_rfl⟩
end

set_option maxHeartbeats 8000000
set_option maxRecDepth 100000
section
open Go.RowKit Go.Shelf
attribute [local go_sem] Oper.semAt_some
attribute [local go_sem] Gives givesU
theorem shape_joints(p:Option Addr)(n c:Nat)(cl:Bool)(w:World) :
  Calls Tryz.prog 110 #[.slice p n c,.bool cl] w fun e w'=>e=.returned (.func (.func 167) #[] #[.pointer (some ⟨w.heap.size,0,none⟩),.pointer (some ⟨w.heap.size+1,0,none⟩)])/\Ext w w'/\w'.cell? ⟨w.heap.size,0,none⟩=some (.slice p n c)/\w'.cell? ⟨w.heap.size+1,0,none⟩=some (.bool cl)/\w.heap.size+1<w'.heap.size:=by
 go_enter Tryz.func110,Tryz.ntmps110
 go_wp2
 go_ret
 exact⟨rfl,bxx,by go_simp,by go_simp,by simp⟩
theorem arrCk{a:Array Value}(h:a.size=76):∃x0 x1 x2 x3 x4 x5 x6 x7 x8 x9 x10 x11 x12 x13 x14 x15 x16 x17 x18 x19 x20 x21 x22 x23 x24 x25 x26 x27 x28 x29 x30 x31 x32 x33 x34 x35 x36 x37 x38 x39 x40 x41 x42 x43 x44 x45 x46 x47 x48 x49 x50 x51 x52 x53 x54 x55 x56 x57 x58 x59 x60 x61 x62 x63 x64 x65 x66 x67 x68 x69 x70 x71 x72 x73 x74 x75,a=List.toArray (x0::x1::x2::x3::x4::x5::x6::x7::x8::x9::x10::x11::x12::x13::x14::x15::x16::x17::x18::x19::x20::x21::x22::x23::x24::x25::x26::x27::x28::x29::x30::x31::x32::x33::x34::x35::x36::x37::x38::x39::x40::x41::x42::x43::x44::x45::x46::x47::x48::x49::x50::x51::x52::x53::x54::x55::x56::x57::x58::x59::x60::x61::x62::x63::x64::x65::x66::x67::x68::x69::x70::x71::x72::x73::x74::x75::[]):=by
 obtain⟨l⟩:=a
 match l,h with
 | x0::x1::x2::x3::x4::x5::x6::x7::x8::x9::x10::x11::x12::x13::x14::x15::x16::x17::x18::x19::x20::x21::x22::x23::x24::x25::x26::x27::x28::x29::x30::x31::x32::x33::x34::x35::x36::x37::x38::x39::x40::x41::x42::x43::x44::x45::x46::x47::x48::x49::x50::x51::x52::x53::x54::x55::x56::x57::x58::x59::x60::x61::x62::x63::x64::x65::x66::x67::x68::x69::x70::x71::x72::x73::x74::x75::[],_=>exact⟨_,_,_,_,_,_,_,_,_,_,_,_,_,_,_,_,_,_,_,_,_,_,_,_,_,_,_,_,_,_,_,_,_,_,_,_,_,_,_,_,_,_,_,_,_,_,_,_,_,_,_,_,_,_,_,_,_,_,_,_,_,_,_,_,_,_,_,_,_,_,_,_,_,_,_,_,rfl⟩
theorem ro_row{V W:World}{r:Nat->Nat}{k n:Nat}{e:Nat->Ed}{v:Value}(h:RepI V W r k (roE n e) [v]):∃p c,v=.slice p n c/\n<=c/\c<=maxLen/\EdRow V.heap.size V p n e:=by
 obtain⟨u,e1,p,c,e2,h1,h2,h3⟩:=h
 obtain rfl:v=u:=by simpa using e1
 refine⟨p,c,e2,h1,h2,fun i hi=>?_⟩
 obtain⟨g,o,xs,T,k1,k2,k3,cs,d,k4,k5⟩:=h3 i hi
 have hg:=(Array.getElem?_eq_some_iff.1 k2).1
 obtain⟨_,_,rfl,⟨rfl,_⟩,_,_,rfl,⟨rfl,_⟩,_,_,rfl,⟨rfl,_⟩,_,_,rfl,⟨rfl,_⟩,_,_,rfl,⟨rfl,_⟩,_,_,rfl,⟨rfl,_⟩,_,_,rfl,⟨rfl,_⟩,rfl⟩:=k5
 have at':∀j,V.cell? ⟨g,o+i*7+j,none⟩=xs[o+i*7+j]? := fun j=>cell_of_row _ _ _ _ _ _ k2
 have dr:∀j,xs[o+i*7+j]? = (xs.toList.drop (o+i*7))[j]? := fun j=>by rw[List.getElem?_drop,Array.getElem?_toList]
 refine⟨g,o,k1,hg,?_,?_,?_,?_,?_,?_,?_⟩
 ·have:=at' 0;rw[Nat.add_zero] at this;rw[this];have:=dr 0;rw[Nat.add_zero] at this;rw[this,k4];rfl
 ·rw[at' 1,dr 1,k4];rfl
 ·rw[at' 2,dr 2,k4];rfl
 ·rw[at' 3,dr 3,k4];rfl
 ·rw[at' 4,dr 4,k4];rfl
 ·rw[at' 5,dr 5,k4];rfl
 ·rw[at' 6,dr 6,k4];rfl
structure CkI (w W:World) (p0 p1 n c:Nat) (k r z:Int) (p:Option Addr):Prop where
 c0:W.cell? ⟨p0,0,none⟩=some (.int .i64 k)
 c1:W.cell? ⟨p0,1,none⟩=some (.slice p n c)
 c2:W.cell? ⟨p0,2,none⟩=some (.int .i64 r)
 z:W.cell? ⟨p1,0,none⟩=some (.int .i64 z)
 f:W.frozen? ⟨p1,0,none⟩=false
theorem CkI.ext{w W W':World}{p0 p1 n c:Nat}{k r z:Int}{p:Option Addr}(h:CkI w W p0 p1 n c k r z p)(hx:Ext W W')(h0:p0<W.heap.size)(h1:p1<W.heap.size):CkI w W' p0 p1 n c k r z p :=
 ⟨(hx.cell (p:=⟨p0,0,none⟩) h0).trans h.c0,(hx.cell (p:=⟨p0,1,none⟩) h0).trans h.c1,(hx.cell (p:=⟨p0,2,none⟩) h0).trans h.c2,(hx.cell (p:=⟨p1,0,none⟩) h1).trans h.z,(hx.frozen (p:=⟨p1,0,none⟩) h1).trans h.f⟩
theorem CkI.own(w:World)(p0 p1 n c:Nat)(k r z:Int)(p:Option Addr):Own (fun (_:List Nat) W=>CkI w W p0 p1 n c k r z p):=fun _ A B row hs hg hr =>
 ⟨cell_kept hs.c0 hg hr,cell_kept hs.c1 hg hr,cell_kept hs.c2 hg hr,cell_kept hs.z hg hr,(frozen_kept hs.z hg hr).trans hs.f⟩
def ckA(p0 p1 n c B:Nat)(cl:Bool)(e:Nat->Ed)(p:Option Addr)(P7 P8 x:Nat)(x0 x4 x5 x6 x7 x8 x9 x10 x11 x12 x13 x14 x15 x16 x17 x18 x19 x20 x21 x22 x23 x24 x25 x26 x27 x28 x29 x30 x31 x32 x33 x34 x35 x36 x37 x38 x39 x40 x41 x42 x43 x44 x45 x46 x47 x48 x49 x50 x51 x52 x53 x54 x55 x56 x57 x58 x59 x60 x61 x62 x63 x64 x65 x66 x67 x68 x69 x70 x71 x72 x73 x74 x75:Value):Array Value:=List.toArray (x0::(.pointer (some ⟨p0,0,none⟩))::(.pointer (some ⟨p1,0,none⟩))::(.bool cl)::x4::x5::x6::(.pointer (some ⟨P7,0,none⟩))::(.pointer (some ⟨P8,0,none⟩))::x9::x10::x11::x12::x13::x14::x15::x16::x17::x18::x19::x20::x21::x22::x23::x24::x25::x26::x27::x28::x29::x30::x31::x32::x33::x34::x35::x36::x37::x38::x39::x40::x41::x42::x43::x44::x45::x46::x47::x48::(.pointer (some ⟨p0,1,none⟩))::(.slice p n c)::(.bool cl)::(.func (.func 167) #[] #[.pointer (some ⟨B,0,none⟩),.pointer (some ⟨B+1,0,none⟩)])::(edA (e x))::(edA (e (nx n x)))::x55::x56::x57::x58::x59::x60::x61::x62::x63::x64::x65::x66::x67::x68::x69::x70::x71::x72::x73::x74::x75::[])
def fitE(e:Nat->Ed)(n i:Nat):Prop:=(e i).bx=(e (nx n i)).ax/\(e i).by'=(e (nx n i)).ay
theorem fit_all{s:Sh}{cl:Bool}(hn:1<=s.n):(∀i∈upT (nmJ cl s.n),fitE s.e s.n i) <-> (allB (jn s.e) (s.n-1)=true/\(cl=true->clsB s=true)):=by
 have m:∀i k,i∈upT k <-> i<k:=fun i k=>List.mem_range
 have j1:∀i,i+1<s.n->(fitE s.e s.n i <-> jn s.e i=true):=fun i hi=>by
  unfold fitE jn nx
  rw[if_pos hi,Bool.and_eq_true,beq_iff_eq,beq_iff_eq]
  exact⟨fun h=>⟨h.1.symm,h.2.symm⟩,fun h=>⟨h.1.symm,h.2.symm⟩⟩
 have j2:fitE s.e s.n (s.n-1) <-> clsB s=true:=by
  unfold fitE clsB nx
  rw[if_neg (by omega),Bool.and_eq_true,beq_iff_eq,beq_iff_eq]
  exact⟨fun h=>⟨h.1.symm,h.2.symm⟩,fun h=>⟨h.1.symm,h.2.symm⟩⟩
 rw[allB_t]
 constructor
 ·intro h
  refine⟨fun k hk=>(j1 k (by omega)).1 (h k ((m _ _).2 (by unfold nmJ;split<;>omega))),fun hc=>j2.1 (h _ ((m _ _).2 (by unfold nmJ;rw[if_pos hc];omega)))⟩
 ·intro ⟨h1, h2⟩ i hi
  have hi:=(m _ _).1 hi
  unfold nmJ at hi
  by_cases g:i+1<s.n
  ·exact (j1 i g).2 (h1 i (by omega))
  ·cases cl with
   | true =>
    rw[if_pos rfl] at hi
    rw[show i=s.n-1 by omega]
    exact j2.2 (h2 rfl)
   | false=>rw[if_neg (by decide)] at hi;omega
theorem chk_l0{s:Sh}(h:¬early s){cl:Bool}(hc:(s.k==2)=cl):chkS s=if allB (jn s.e) (s.n-1)=false\/(cl=true/\clsB s=false) then 12 else if cl=true/\s.r≠0\/s.r<0\/4194304<s.r then 3 else 0:=by
 unfold early at h
 have e2:s.k=2 <-> cl=true:=by rw[<- hc];simp
 unfold chkS
 rw[if_neg (by omega),if_neg (by omega),if_neg (by omega),if_neg (by omega)]
 simp only[e2]
theorem n_of{s:Sh}(h:¬early s):1<=s.n:=by
 have hf:1<=fewS s:=by unfold fewS;split<;>decide
 unfold early at h
 omega
theorem chk_bad{s:Sh}(h:¬early s){cl:Bool}(hc:(s.k==2)=cl)(g:∃i∈upT (nmJ cl s.n),¬fitE s.e s.n i):chkS s=12:=by
 rw[chk_l0 h hc,if_pos]
 obtain⟨i,hi,hg⟩:=g
 have hiff:=fit_all (s:=s) (cl:=cl) (n_of h)
 cases hA:allB (jn s.e) (s.n-1) with
 | false=>exact .inl rfl
 | true =>
  refine .inr ?_
  cases cl with
  | false=>exact absurd (hiff.2 ⟨hA,nofun⟩ i hi) hg
  | true =>
   refine⟨rfl,?_⟩
   cases hB:clsB s with
   | false=>rfl
   | true=>exact absurd (hiff.2 ⟨hA,fun _=>hB⟩ i hi) hg
theorem chk_fine{s:Sh}(h:¬early s){cl:Bool}(hc:(s.k==2)=cl)(g:∀i∈upT (nmJ cl s.n),fitE s.e s.n i):chkS s=if cl=true/\s.r≠0\/s.r<0\/4194304<s.r then 3 else 0:=by
 obtain⟨g1,g2⟩:=(fit_all (s:=s) (cl:=cl) (n_of h)).1 g
 rw[chk_l0 h hc,if_neg]
 rw[g1]
 rintro (h|⟨h1,h2⟩)
 ·cases h
 ·rw[g2 h1] at h2;cases h2
theorem ck_chain(s:Sh)(h:¬early s):Fok Tryz.prog 66 [shpV s] (.one (inV (chkS s) lim)):=by
 obtain⟨q,pf,L,hL,hpre⟩:=ck_pre s h
 intro w vals hv
 have hn:s.n<=40:=by unfold early at h;omega
 have hk:s.k=1\/s.k=2:=by unfold early at h;omega
 have hn1:1<=s.n:=by
  have hf:1<=fewS s:=by unfold fewS;split<;>decide
  unfold early at h;omega
 refine (callsIn_wide (n:=6)).1 ?_
 refine callsIn_of_wp_marks Tryz.func66 rfl trivial ?_ rfl
 refine wpIn_wide.2 ?_
 have hb:bodyF Tryz.prog 66=(Tryz.f66.body).getD .skip:=by unfold bodyF;rw[Tryz.func66];rfl
 have hnf:nF 66=76:=by kernel_rfl
 have key:=fun Q hQ=>preF_wp hL pf hpre hv (Q:=Q) hQ
 rw[hb,hnf] at key
 refine key _ ?_
 clear key hpre hL hv
 rintro⟨tm,df⟩ w0 ⟨r,cm,⟨hM,hd⟩,hT⟩
 obtain rfl:df=[]:=hd
 obtain⟨x0,x1,x2,x3,x4,x5,x6,x7,x8,x9,x10,x11,x12,x13,x14,x15,x16,x17,x18,x19,x20,x21,x22,x23,x24,x25,x26,x27,x28,x29,x30,x31,x32,x33,x34,x35,x36,x37,x38,x39,x40,x41,x42,x43,x44,x45,x46,x47,x48,x49,x50,x51,x52,x53,x54,x55,x56,x57,x58,x59,x60,x61,x62,x63,x64,x65,x66,x67,x68,x69,x70,x71,x72,x73,x74,x75,rfl⟩:=arrCk (show tm.size=76 from hT.1)
 have t1:RepV w w0 r (mkS 76 (ckE s)).m.length (ptrN 0) x1:=hT.2 1 (.one (ptrN 0)) (by kernel_rfl)
 have t2:RepV w w0 r (mkS 76 (ckE s)).m.length (ptrN 1) x2:=hT.2 2 (.one (ptrN 1)) (by kernel_rfl)
 have t3:RepV w w0 r (mkS 76 (ckE s)).m.length (clV s) x3:=hT.2 3 (.one (clV s)) (by kernel_rfl)
 obtain rfl:x1=.pointer (some ⟨r 0,0,none⟩):=by simpa using t1.scal.2
 obtain rfl:x2=.pointer (some ⟨r 1,0,none⟩):=by simpa using t2.scal.2
 obtain rfl:x3=.bool (s.k==2):=by simpa using t3.scal.1
 clear t1 t2 t3 hT
 obtain⟨g0,cs0,d0,ec0,rep0,-⟩:=hM.blk 0 ⟨24,(shpV s).l⟩ rfl
 obtain⟨g1,cs1,d1,ec1,rep1,-⟩:=hM.blk 1 ⟨111,[.k 0]⟩ rfl
 obtain⟨_,_,rfl,⟨rfl,_⟩,_,_,rfl,hro,_,_,rfl,⟨rfl,_,ir⟩,rfl⟩:=rep0
 obtain⟨v,rfl,hrow⟩:=hro
 obtain⟨p,c,rfl,hnc,hcm,hR⟩:=ro_row (V:=w) (W:=w0) (r:=r) (k:=0) ⟨v,rfl,hrow⟩
 obtain⟨_,_,rfl,⟨rfl,_⟩,rfl⟩:=rep1
 rw[ec0] at g0
 rw[ec1] at g1
 have hl0:=hM.lo 0 _ (show mb _ 0=some (⟨24,(shpV s).l⟩:Mb) from rfl)
 have hl1:=hM.lo 1 _ (show mb _ 1=some (⟨111,[.k 0]⟩:Mb) from rfl)
 have hx:=hM.ext
 have hne:r 0≠r 1:=fun e=>absurd (hM.inj 0 1 _ _ (show mb _ 0=some (⟨24,(shpV s).l⟩:Mb) from rfl) (show mb _ 1=some (⟨111,[.k 0]⟩:Mb) from rfl) e) (by decide)
 clear ec0 ec1 hM hrow
 obtain⟨p0,hp0⟩:∃p0,r 0=p0:=⟨_,rfl⟩
 obtain⟨p1,hp1⟩:∃p1,r 1=p1:=⟨_,rfl⟩
 rw[hp0] at g0 hl0 hne ⊢
 rw[hp1] at g1 hl1 hne ⊢
 clear hp0 hp1
 have hI:CkI w w0 p0 p1 s.n c s.k s.r 0 p:=⟨by rw[cell_of_row _ _ _ _ _ _ g0];simp,by rw[cell_of_row _ _ _ _ _ _ g0];simp,by rw[cell_of_row _ _ _ _ _ _ g0];simp,by rw[cell_of_row _ _ _ _ _ _ g1];simp,by simp[World.frozen?,g1]⟩
 have z0:p0<w0.heap.size:=(Array.getElem?_eq_some_iff.1 g0).1
 have z1:p1<w0.heap.size:=(Array.getElem?_eq_some_iff.1 g1).1
 clear g0 g1 d0 d1
 obtain⟨cl,hcl⟩:∃cl,Hid ((s.k==2)=cl):=⟨_,Lib.hid rfl⟩
 rw[hcl.out]
 have hI0:=Lib.hid hI
 obtain⟨a0,a1,a2,a3,a4⟩:=hI
 refine (wpIn_wide (n:=6)).1 ?_
 simp only[Tryz.f66,Option.getD,restS]
 gi_wp2
 refine⟨trivial,(callsIn_wide.2 (shape_joints p s.n c cl _)).mono ?_⟩
 rintro e1 w1 ⟨rfl,hx1,b0,b1,hb1⟩
 have hI1:=hI0.out.ext hx1 z0 z1
 have hB1:Below w.heap.size w w1:=Ext.step hx hx1
 have hs1:=hx.size
 clear a0 a1 a2 a3 a4
 have hI1:=Lib.hid hI1
 gi_wp2
 refine wpIn_rangeFunc_ownH rfl (by omega) (gf:=167) (lb:=#[.pointer (some ⟨w0.heap.size,0,none⟩),.pointer (some ⟨w0.heap.size+1,0,none⟩)]) rfl trivial (enters_of Tryz.func167 (by kernel_rfl) rfl)
  (joints_stops 5 (by omega) s.n s.e w.heap.size w0.heap.size (w0.heap.size+1) c p cl w1 (by omega) hb1 (by omega) b0 b1 (hR.below hB1) (by omega) hn1) KpJ.trans
  (fun W l o o' hl ho _ _=>⟨(Below.refl _ W).grown (grownBy_putObj' W l o') (by have:=(Array.getElem?_eq_some_iff.1 ho).1;omega) (fun k e=>by cases e;omega),fun q=>World.cell?_of_block (World.putObj_heap_other (by show w0.heap.size≠l;omega)),fun q=>World.cell?_of_block (World.putObj_heap_other (by show w0.heap.size+1≠l;omega))⟩)
  (Below.refl _ _) (fun _=>rfl)
  (fun pre W=>(CkI w W p0 p1 s.n c s.k s.r 0 p/\Below w.heap.size w W)/\w1.heap.size<=W.heap.size/\∀i∈pre,fitE s.e s.n i)
  (fun c' pre W=>(c'=.ret/\CkI w W p0 p1 s.n c s.k s.r 12 p/\Below w.heap.size w W)/\w1.heap.size<=W.heap.size/\∃i∈pre,¬fitE s.e s.n i)
  (OwnFrom.and (OwnFrom.and ((CkI.own w p0 p1 s.n c s.k s.r 0 p).from _) (ownFrom_below (Nat.le_refl _) (by omega))) (fun _ A B row hs hg hr=>⟨Nat.le_trans hs.1 hg.size,hs.2⟩))
  (fun c' t A B row hs hg hr=>⟨⟨hs.1.1,CkI.own w p0 p1 s.n c s.k s.r 12 p t A B row hs.1.2.1 hg (fun r e=>(hr r e).2),(ownFrom_below (β:=List Nat) (Nat.le_refl _) (by omega)) t A B row hs.1.2.2 hg hr⟩,Nat.le_trans hs.2.1 hg.size,hs.2.2⟩)
  ⟨⟨hI1.out,hB1⟩,Nat.le_refl _,nofun⟩
  (fun x a' W=>∃P7 P8,((W.cell? ⟨P7,3,none⟩=some (.int .i64 (s.e x).bx)/\W.cell? ⟨P7,4,none⟩=some (.int .i64 (s.e x).by'))/\W.cell? ⟨P8,1,none⟩=some (.int .i64 (s.e (nx s.n x)).ax)/\W.cell? ⟨P8,2,none⟩=some (.int .i64 (s.e (nx s.n x)).ay))/\a'={ tmps:=ckA p0 p1 s.n c w0.heap.size cl s.e p P7 P8 x x0 x4 x5 x6 x7 x8 x9 x10 x11 x12 x13 x14 x15 x16 x17 x18 x19 x20 x21 x22 x23 x24 x25 x26 x27 x28 x29 x30 x31 x32 x33 x34 x35 x36 x37 x38 x39 x40 x41 x42 x43 x44 x45 x46 x47 x48 x49 x50 x51 x52 x53 x54 x55 x56 x57 x58 x59 x60 x61 x62 x63 x64 x65 x66 x67 x68 x69 x70 x71 x72 x73 x74 x75,defers:=[] })
  (fun x a' _ A B row hs hg hr => by
   obtain⟨P7,P8,⟨⟨h1,h2⟩,h3,h4⟩,e⟩:=hs
   have hr':=fun r e=>(hr r e).2
   exact⟨P7,P8,⟨⟨cell_kept h1 hg hr',cell_kept h2 hg hr'⟩,cell_kept h3 hg hr',cell_kept h4 hg hr'⟩,e⟩) ?assign ?body ?done ?stop
 case assign =>
  rintro l pre x W K ⟨⟨hi,hB⟩,hz,hf⟩ hK
  have hK:=Lib.hid hK
  have hi:=Lib.hid hi
  have hf:=Lib.hid hf
  have hW1:w0.heap.size+1<W.heap.size:=by omega
  have hvW:w.heap.size<=W.heap.size:=by omega
  have hp0:p0<W.heap.size:=by omega
  have hp1:p1<W.heap.size:=by omega
  have fin:Hid (∀o1 o2:Obj,KeepsFrom w1.heap.size W ((W.alloc o1).alloc o2)/\KpJ w.heap.size w0.heap.size (w0.heap.size+1) W ((W.alloc o1).alloc o2)/\CkI w ((W.alloc o1).alloc o2) p0 p1 s.n c s.k s.r 0 p/\Below w.heap.size w ((W.alloc o1).alloc o2)/\w1.heap.size<=((W.alloc o1).alloc o2).heap.size):=Lib.hid fun o1 o2=>by
   have hx2:Ext W ((W.alloc o1).alloc o2):=bxx
   exact⟨((KeepsOthers.alloc _ _).trans (KeepsOthers.alloc _ _)).from _,⟨hx2.mono hvW,fun q=>hx2.cell (p:=⟨_,q,none⟩) (show w0.heap.size<W.heap.size by omega),fun q=>hx2.cell (p:=⟨_,q,none⟩) hW1⟩,hi.out.ext hx2 hp0 hp1,hB.trans (hx2.mono hvW),Nat.le_trans hz hx2.size⟩
  simp only[edA]
  gi_wp2
  obtain⟨h1,h2,h3,h4,h5⟩:=fin.out (.cells #[.int .i64 (s.e x).k,.int .i64 (s.e x).ax,.int .i64 (s.e x).ay,.int .i64 (s.e x).bx,.int .i64 (s.e x).by',.int .i64 (s.e x).cx,.int .i64 (s.e x).cy] 70) (.cells #[.int .i64 (s.e (nx s.n x)).k,.int .i64 (s.e (nx s.n x)).ax,.int .i64 (s.e (nx s.n x)).ay,.int .i64 (s.e (nx s.n x)).bx,.int .i64 (s.e (nx s.n x)).by',.int .i64 (s.e (nx s.n x)).cx,.int .i64 (s.e (nx s.n x)).cy] 70)
  refine hK.out _ _ h1 h2 ⟨⟨h3,h4⟩,h5,hf.out⟩ ⟨W.heap.size,W.heap.size+1,⟨⟨by go_simp,by go_simp⟩,by go_simp,by go_simp⟩,?_⟩
  rfl
 case body =>
  rintro l pre x a' W hl ⟨rc,hrc⟩ ⟨⟨hi,hB⟩,hz,hf⟩ ⟨P7,P8,⟨⟨d0,d1⟩,d2,d3⟩,rfl⟩ hlen
  have hi0:=Lib.hid hi
  obtain⟨a0,a1,a2,a3,a4⟩:=hi
  have hf:=Lib.hid hf
  have hlW:l<W.heap.size:=(Array.getElem?_eq_some_iff.1 hrc).1
  have hp1:p1<W.heap.size:=by omega
  clear hrc
  obtain⟨u,hu⟩:∃u,(s.e x).bx=u:=⟨_,rfl⟩
  obtain⟨u',hu'⟩:∃u,(s.e (nx s.n x)).ax=u:=⟨_,rfl⟩
  obtain⟨v,hv⟩:∃u,(s.e x).by'=u:=⟨_,rfl⟩
  obtain⟨v',hv'⟩:∃u,(s.e (nx s.n x)).ay=u:=⟨_,rfl⟩
  have hfit:Hid (fitE s.e s.n x <-> u=u'/\v=v'):=Lib.hid (by unfold fitE;rw[hu,hu',hv,hv'])
  rw[hu] at d0
  rw[hv] at d1
  rw[hu'] at d2
  rw[hv'] at d3
  clear hu hu' hv hv'
  have bad:Hid (¬(u=u'/\v=v')->∃i∈pre++[x],¬fitE s.e s.n i):=Lib.hid fun g=>⟨x,by simp,fun g'=>g (hfit.out.1 g')⟩
  unfold ckA
  by_cases h1:u=u'
  ·by_cases h2 : v = v'
   ·subst h1 h2
    have hall:Hid (∀i∈pre++[x],fitE s.e s.n i):=Lib.hid fun i hi=>by
     rcases List.mem_append.1 hi with hi|hi
     ·exact hf.out i hi
     ·rw[List.mem_singleton.1 hi];exact hfit.out.2 ⟨rfl,rfl⟩
    gi_wp2
    exact⟨(KeepsOthers.refl _).from _,⟨Below.refl _ _,fun _=>rfl,fun _=>rfl⟩,⟨hi0.out,hB⟩,hz,hall.out⟩
   ·have g2 : (v == v') = false := by simpa using h2
    have hbad:Hid (∃i∈pre++[x],¬fitE s.e s.n i):=Lib.hid (bad.out fun g=>h2 g.2)
    subst h1
    clear h2
    gi_wp2
    exact⟨(KeepsOthers.setCell _ _ _).from _,⟨rfl,⟨by go_simp,by go_simp,by go_simp,by go_simp,by go_simp⟩,hB.setCell (p:=⟨p1,0,none⟩) hl1 _⟩,by simp;omega,hbad.out⟩
  ·have g1 : (u == u') = false := by simpa using h1
   have hbad:Hid (∃i∈pre++[x],¬fitE s.e s.n i):=Lib.hid (bad.out fun g=>h1 g.1)
   clear h1
   gi_wp2
   exact⟨(KeepsOthers.setCell _ _ _).from _,⟨rfl,⟨by go_simp,by go_simp,by go_simp,by go_simp,by go_simp⟩,hB.setCell (p:=⟨p1,0,none⟩) hl1 _⟩,by simp;omega,hbad.out⟩
 case done =>
  rintro D xs W hD rfl ⟨⟨⟨a0,a1,a2,a3,a4⟩,hB⟩,hz,hf⟩ hK
  have e0:=chk_fine h hcl.out hf
  clear hf
  have hDW:D<W.heap.size:=(Array.getElem?_eq_some_iff.1 hK).1
  have hDp:D≠p1:=by omega
  have ST:Hid (∀z:Int,z=0\/z=3->(W.setCell ⟨p1,0,none⟩ (.int .i64 z)).heap[D]? = some (.deferred (some []))/\((W.setCell ⟨p1,0,none⟩ (.int .i64 z)).putObj D (.deferred none)).cell? ⟨p1,0,none⟩=some (.int .i64 z)/\Ext w ((W.setCell ⟨p1,0,none⟩ (.int .i64 z)).putObj D (.deferred none))/\z.natAbs<=lim/\I64 z):=Lib.hid fun z hz=>by
   have hs:=(KeepsOthers.setCell W ⟨p1,0,none⟩ (.int .i64 z)).same D _ hK rfl
   have hc:(W.setCell ⟨p1,0,none⟩ (.int .i64 z)).cell? ⟨p1,0,none⟩=some (.int .i64 z):=by go_simp
   exact⟨hs,cell_kept hc (grownBy_putObj' _ D (.deferred none)) (fun r e=>by cases e;exact⟨_,hs,rfl⟩),(hB.setCell (p:=⟨p1,0,none⟩) hl1 _).grown (grownBy_putObj' _ D (.deferred none)) (by simp;omega) (fun k e=>by cases e;omega),by unfold lim;omega,by unfold I64;omega⟩
  clear hK hI1 hI0 hD hB
  cases cl with
  | true =>
   by_cases r0:s.r=0
   ·have CS : Hid (chkS s = 0) := Lib.hid (by rw [e0, if_neg (by omega)])
    rw[r0] at a2
    clear e0 r0
    obtain⟨g1,g2,g3,g4⟩:=ST.out 0 (.inl rfl)
    gi_wp2
    refine⟨by simp,.inl ⟨_,_,rfl,run_takeDeferred g1,?_⟩⟩
    exact⟨.int .i64 0,by simp only[results,Tryz.results66];go_simp,_,rfl,by rw[CS.out];exact rv_i.2 ⟨g4,rfl⟩,g3⟩
   ·have CS : Hid (chkS s = 3) := Lib.hid (by rw [e0, if_pos (.inl ⟨rfl, r0⟩)])
    have b0:(s.r != 0)=true:=by simpa using r0
    clear e0 r0
    obtain⟨g1,g2,g3,g4⟩:=ST.out 3 (.inr rfl)
    gi_wp2
    refine⟨by simp,.inl ⟨_,_,rfl,run_takeDeferred g1,?_⟩⟩
    exact⟨.int .i64 3,by simp only[results,Tryz.results66];go_simp,_,rfl,by rw[CS.out];exact rv_i.2 ⟨g4,rfl⟩,g3⟩
  | false =>
   by_cases r1:s.r<0
   ·have CS : Hid (chkS s = 3) := Lib.hid (by rw [e0, if_pos (.inr (.inl r1))])
    clear e0
    obtain⟨g1,g2,g3,g4⟩:=ST.out 3 (.inr rfl)
    gi_wp2
    refine⟨by simp,.inl ⟨_,_,rfl,run_takeDeferred g1,?_⟩⟩
    exact⟨.int .i64 3,by simp only[results,Tryz.results66];go_simp,_,rfl,by rw[CS.out];exact rv_i.2 ⟨g4,rfl⟩,g3⟩
   ·by_cases r2 : 4194304 < s.r
    ·have CS : Hid (chkS s = 3) := Lib.hid (by rw [e0, if_pos (.inr (.inr r2))])
     clear e0
     obtain⟨g1,g2,g3,g4⟩:=ST.out 3 (.inr rfl)
     gi_wp2
     refine⟨by simp,.inl ⟨_,_,rfl,run_takeDeferred g1,?_⟩⟩
     exact⟨.int .i64 3,by simp only[results,Tryz.results66];go_simp,_,rfl,by rw[CS.out];exact rv_i.2 ⟨g4,rfl⟩,g3⟩
    ·have CS : Hid (chkS s = 0) := Lib.hid (by rw [e0, if_neg (by simp; omega)])
     clear e0
     obtain⟨g1,g2,g3,g4⟩:=ST.out 0 (.inl rfl)
     gi_wp2
     refine⟨by simp,.inl ⟨_,_,rfl,run_takeDeferred g1,?_⟩⟩
     exact⟨.int .i64 0,by simp only[results,Tryz.results66];go_simp,_,rfl,by rw[CS.out];exact rv_i.2 ⟨g4,rfl⟩,g3⟩
 case stop =>
  rintro D c' pre W hD ⟨k,hkm,rfl⟩ ⟨⟨rfl,⟨a0,a1,a2,a3,a4⟩,hB⟩,hz,i,hi,hg⟩ hK
  have hDW:D<W.heap.size:=(Array.getElem?_eq_some_iff.1 hK).1
  have CS:Hid (chkS s=12):=Lib.hid (chk_bad h hcl.out ⟨i,List.mem_range.2 (by have:=List.mem_range.1 hi;omega),hg⟩)
  have g2:(W.putObj D (.deferred none)).cell? ⟨p1,0,none⟩=some (.int .i64 12):=cell_kept a3 (grownBy_putObj' _ D (.deferred none)) (fun r e=>by cases e;exact⟨_,hK,rfl⟩)
  have g3:Ext w (W.putObj D (.deferred none)):=hB.grown (grownBy_putObj' _ D (.deferred none)) (by omega) (fun k e=>by cases e;omega)
  have g4:(12:Int).natAbs<=lim/\I64 12:=⟨by unfold lim;omega,by unfold I64;omega⟩
  gi_wp2
  refine⟨by simp,.inl ⟨_,_,rfl,run_takeDeferred hK,?_⟩⟩
  exact⟨.int .i64 12,by simp only[results,Tryz.results66];go_simp,_,rfl,by rw[CS.out];exact rv_i.2 ⟨g4,rfl⟩,g3⟩
end
end Go.Proofs.YtceemiodpccbhaaGreat
