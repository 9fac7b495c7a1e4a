/- Contracts of functions that draw, for the kernel's walker. | Contract: r06.Near. | Contracts: near.quarter, near.Point, by the kernel's walker. | Contract: near.Point, by the kernel's walker. | Contracts: r05.Right, r06.Check, r06.Radius, by the kernel's walker. | Plain: roots of ints, compared with ints. | Contracts: r02.side, Sign, Cmp, by the kernel's walker, over whole numbers. -/
import Derived.Test.YtighahcllmoajaaGreatJ29
import Derived.Test.YtighahcllmoajaaGreatJ27
set_option linter.unusedVariables false
set_option linter.unusedSimpArgs false

set_option maxHeartbeats 2000000
set_option maxRecDepth 100000
namespace Go.Proofs.YtighahcllmoajaaGreat
open Go.RowKit
attribute [local go_sem] Gives givesU
def DrawH (w : World) (B : Nat) (v : Value) (d : List Value) (T : TypeId) (k : Nat) : Prop := w.heap[B]? = some (.cells (v :: .int .i64 (k : Nat) :: d).toArray T)
theorem DrawH.at {w : World} {B len cp k : Nat} {a : Option Addr} {d : List Value} {T : TypeId} (h : DrawH w B (.slice a len cp) d T k) : DrawAt w B a len cp k := by
 unfold DrawH at h
 refine ⟨(Array.getElem?_eq_some_iff.1 h).1, ?_, ?_, fun o => by simp [World.frozen?, h]⟩
 ·rw [cell_of_row _ _ _ _ _ _ h]; simp
 ·rw [cell_of_row _ _ _ _ _ _ h]; simp
theorem DrawH.ext {w w' : World} {B k : Nat} {v : Value} {d : List Value} {T : TypeId} (h : DrawH w B v d T k) (hx : Ext w w') : DrawH w' B v d T k := heap_ext h hx
theorem DrawH.set {w : World} {B k : Nat} {v : Value} {d : List Value} {T : TypeId} (h : DrawH w B v d T k) (j : Nat) : DrawH (w.setCell ⟨B, 1, none⟩ (.int .i64 (j : Nat))) B v d T j := by
 unfold DrawH at *
 have hB := (Array.getElem?_eq_some_iff.1 h).1
 have e := (Array.getElem?_eq_some_iff.1 h).2
 rw [Array.getElem?_eq_some_iff]
 refine ⟨by simpa [World.setCell] using hB, ?_⟩
 simp only [World.setCell, Array.getElem_modify, if_true, e]
 simp
theorem r01_NextH (L : List Int) (B : Nat) (a : Option Addr) (len cp k : Nat) (n : Int) (d : List Value) (T : TypeId) (w : World) (hH : DrawH w B (.slice a len cp) d T k) (hL : Ints w a len L) (hne : 0 < len -> ∀ x, a = some x -> x.block ≠ B) (hn : 0 < n /\ n <= 4294967296) (hk : k <= len) :
  Calls Tryz.prog 37 #[.pointer (some ⟨B, 0, none⟩), .int .i64 n] w fun e w' => e = .returned (.int .i64 (nextV L k n)) /\ DrawH w' B (.slice a len cp) d T (nextK L k) /\ Past B w w' := by
 have hd := hH.at
 obtain ⟨hB, c0, c1, hf⟩ := hd
 obtain ⟨hl, hm, hrow⟩ := hL
 by_cases hlt : k < len
 ·have e1 : nextV L k n = modZ (L[k]?.getD 0) n := by unfold nextV; rw [if_pos (by omega)]
  have e2 : nextK L k = k + 1 := by unfold nextK; rw [if_pos (by omega)]
  rw [e1, e2]
  obtain ⟨b, o, rfl, hb, hc⟩ := hrow (by omega)
  have hck := hc k hlt
  have hbB : b ≠ B := hne (by omega) _ rfl
  obtain ⟨x, X⟩ : ∃ x, L[k]?.getD 0 = x := ⟨_, rfl⟩
  rw [X] at hck ⊢
  have MC := Lib.hid (fun w => r01_Mod x n w hn)
  replace hH := Lib.hid hH
  clear e1 e2 hc hrow hl hne X hn
  have w1 : IntKind.i64.wrap ((k : Int) + 1) = ((k + 1 : Nat) : Int) := by rw [wrap_in]; rfl; unfold I64; omega
  have w2 : IntKind.i64.wrap (((k + 1 : Nat) : Int) - 1) = (k : Int) := by rw [wrap_in]; omega; unfold I64; omega
  have g1 : decide ((len : Int) <= (k : Int)) = false := by rw [decide_eq_false_iff_not]; omega
  have i0 : (0 : Int) <= (k : Int) := by omega
  have i1 : (k : Int) < (len : Int) := by omega
  go_enter Tryz.func37, Tryz.ntmps37
  have w3 : IntKind.i64.wrap (k : Int) = (k : Int) := by rw [wrap_in]; unfold I64; omega
  have ts : (k : Int).toNat = k := by omega
  go_wp2_with fail
  refine wp_FSc (fun W => W.cell? ⟨B, 0, none⟩ = some (.slice (some ⟨b, o, none⟩) len cp) /\ W.cell? ⟨B, 1, none⟩ = some (.int .i64 k)) ?_
  repeat (first | refine F_s ?_ | refine F_r ?_)
  rintro W ⟨hx, hc0, hc1⟩
  have hdW : DrawAt W B (some ⟨b, o, none⟩) len cp k := DrawAt.ext ⟨hB, c0, c1, hf⟩ hx
  have hfW := hdW.2.2.2
  have hkW : W.cell? ⟨b, o + k, none⟩ = some (.int .i64 x) := (hx.cell (p := ⟨b, o + k, none⟩) hb).trans hck
  have hBW : B < W.heap.size := Nat.lt_of_lt_of_le hB hx.size
  have hbW : b < W.heap.size := Nat.lt_of_lt_of_le hb hx.size
  have hxs := hx.size
  clear hdW
  have HD := Lib.hid (hH.out.ext hx)
  have HX : Hid (Ext w W) := hx
  clear hx
  go_wp2_with fail
  refine wp_FSc (fun W => W.cell? ⟨B, 0, none⟩ = some (.slice (some ⟨b, o, none⟩) len cp) /\ W.cell? ⟨B, 1, none⟩ = some (.int .i64 (k + 1 : Nat)) /\ W.cell? ⟨b, o + k, none⟩ = some (.int .i64 x)) ?_
  repeat (first | refine F_s ?_ | refine F_r ?_)
  refine F_c (.int .i64 (modZ x n)) (fun W hW => MC.out _) ?_
  repeat (first | refine F_s ?_ | refine F_r ?_)
  rintro W2 ⟨hx2, hc2⟩
  go_wp2
  go_ret
  exact ⟨rfl, (HD.out.set _).ext hx2, ((Past.of_ext HX.out).step (Past.set W 1 _)).step (Past.of_ext hx2)⟩
 ·have e1 : nextV L k n = 0 := by unfold nextV; rw [if_neg (by omega)]
  have e2 : nextK L k = k := by unfold nextK; rw [if_neg (by omega)]
  rw [e1, e2]
  have g1 : decide ((len : Int) <= (k : Int)) = true := by rw [decide_eq_true_iff]; omega
  have hdh := Lib.hid hH
  clear hH
  clear e1 e2 hl hne hn hrow
  go_enter Tryz.func37, Tryz.ntmps37
  go_wp2_with fail
  refine wp_FSc (fun W => W.cell? ⟨B, 0, none⟩ = some (.slice a len cp) /\ W.cell? ⟨B, 1, none⟩ = some (.int .i64 k)) ?_
  repeat (first | refine F_s ?_ | refine F_r ?_)
  rintro W ⟨hx, hc0, hc1⟩
  go_wp2
  go_ret
  exact ⟨rfl, hdh.out.ext hx, Past.of_ext hx⟩
theorem ints_ne {w : World} {L : List Int} {v : Value} {B : Nat} (h : IntsC w L v) (hne : ∀ a len c, v = .slice a len c -> 0 < len -> ∀ x, a = some x -> x.block ≠ B) : ∃ a len c, v = .slice a len c /\ Ints w a len L /\ (0 < len -> ∀ x, a = some x -> x.block ≠ B) := by
 obtain ⟨a, len, c, e, h1, h2, h3⟩ := h
 exact ⟨a, len, c, e, h1, hne a len c e⟩
theorem nextK_le {L : List Int} {k : Nat} (h : k <= L.length) : nextK L k <= L.length := by unfold nextK; split <;> omega
def xNext : Eff where
 f := 37
 g := fun L k args => match args with | [⟨false, [.i n _]⟩] => if 0 < n /\ n <= 4294967296 then some (⟨false, [.i (nextV L k n) n.natAbs]⟩, nextK L k, []) else none | _ => none
 ok := by
  intro L k args res k' ps h hp W B v d T vals hg hL hne hk hv
  simp only at h
  split at h <;> (try (cases h; done))
  split at h <;> cases h
  rename_i n A hn
  simp only [rvs_cons, rvs_nil, rv_i] at hv
  obtain ⟨_, ⟨_, rfl⟩, _, rfl, rfl⟩ := hv
  obtain ⟨a, len, c, rfl, h1, h2⟩ := ints_ne hL hne
  refine (r01_NextH L B a len c k n d T W hg h1 h2 hn (by rw [h1.1]; exact hk)).mono fun e w' ⟨e1, h3, h4⟩ => ⟨_, e1, ?_, h3, nextK_le hk, h4⟩
  have := nextV_bd L k hn.1
  exact rv_i.2 ⟨⟨by omega, by unfold I64; omega⟩, rfl⟩
end Go.Proofs.YtighahcllmoajaaGreat

set_option maxHeartbeats 1000000
set_option maxRecDepth 100000
namespace Go.Proofs.YtighahcllmoajaaGreat
open Go.RowKit
attribute [local go_sem] Gives givesU
theorem Past.drawH {B g : Nat} {w w' : World} (h : Past B w w') {cs : Array Value} {T : TypeId} (hg : w.heap[g]? = some (.cells cs T)) (hne : g ≠ B) : w'.heap[g]? = some (.cells cs T) := by
 rw [h.block g (Array.getElem?_eq_some_iff.1 hg).1 hne]; exact hg
theorem Past.new {B g : Nat} {w V V' : World} (h : Past B w V) (hg : w.heap.size <= g) (p : Past g V V') : Past B w V' :=
 ⟨p.os.trans h.os, p.tape.trans h.tape, p.output.trans h.output, Nat.le_trans h.size p.size, fun k hk hB => (p.block k (Nat.lt_of_lt_of_le hk h.size) (by omega)).trans (h.block k hk hB)⟩
theorem r06_Near (L : List Int) (B k : Nat) (a : Option Addr) (len cp : Nat) (d : List Value) (T : TypeId) (width : Int) (w : World) (hw : 0 <= width /\ width <= 100000) (hH : DrawH w B (.slice a len cp) d T k) (hL : Ints w a len L) (hne : 0 < len -> ∀ x, a = some x -> x.block ≠ B) (hk : k <= len) :
  Calls Tryz.prog 38 #[.pointer (some ⟨B, 0, none⟩), .int .i64 width] w fun e w' => e = .returned (.agg #[.int .i64 (nextV L k (2 * width + 1) - width), .int .i64 (nextV L (nextK L k) (2 * width + 1) - width)]) /\ DrawH w' B (.slice a len cp) d T (nextK L (nextK L k)) /\ Past B w w' := by
 have w1 : IntKind.i64.wrap (2 * width) = 2 * width := wrap_in (by unfold I64; omega)
 have w2 : IntKind.i64.wrap (2 * width + 1) = 2 * width + 1 := wrap_in (by unfold I64; omega)
 have b1 := nextV_bd L k (n := 2 * width + 1) (by omega)
 have b2 := nextV_bd L (nextK L k) (n := 2 * width + 1) (by omega)
 have hn : 0 < 2 * width + 1 /\ 2 * width + 1 <= 4294967296 := by omega
 have w3 : IntKind.i64.wrap (nextV L k (2 * width + 1) - width) = nextV L k (2 * width + 1) - width := wrap_in (by unfold I64; omega)
 have w4 : IntKind.i64.wrap (nextV L (nextK L k) (2 * width + 1) - width) = nextV L (nextK L k) (2 * width + 1) - width := wrap_in (by unfold I64; omega)
 have hB : B < w.heap.size := (Array.getElem?_eq_some_iff.1 hH).1
 have hk2 : nextK L k <= len := by have := hL.1; unfold nextK; split <;> omega
 have NX := Lib.hid (fun (k : Nat) (n : Int) (W : World) (hd : DrawH W B (.slice a len cp) d T k) (hL' : Ints W a len L) (hn : 0 < n /\ n <= 4294967296) (hk : k <= len) => r01_NextH L B a len cp k n d T W hd hL' hne hn hk)
 have HH := Lib.hid hH
 have HL := Lib.hid hL
 have HN := Lib.hid hn
 have HK := Lib.hid hk
 have HE := Lib.hid hne
 have HK2 := Lib.hid hk2
 clear hH hL hn hk hk2 hw b1 b2 hne
 obtain ⟨u1, U1⟩ : ∃ u, Hid (nextV L k (2 * width + 1) = u) := ⟨_, rfl⟩
 obtain ⟨u2, U2⟩ : ∃ u, Hid (nextV L (nextK L k) (2 * width + 1) = u) := ⟨_, rfl⟩
 rw [U1.out] at w3 ⊢
 rw [U2.out] at w4 ⊢
 go_enter Tryz.func38, Tryz.ntmps38
 go_wp2_with fail
 refine (NX.out k _ _ (HH.out.ext bxx) (HL.out.ext bxx) HN.out HK.out).mono ?_
 rintro e V1 ⟨rfl, h1, p1⟩
 rw [U1.out]
 have s1 := p1.size
 simp at s1
 have c1 := p1.drawH (g := w.heap.size) (heap_new rfl) (by omega)
 have x1 : Past B w V1 := (Past.of_ext bxx).step p1
 have y1 := pt_block c1
 have L1 := Lib.hid (x1.ints HL.out HE.out)
 replace h1 := Lib.hid h1
 replace x1 := Lib.hid x1
 clear p1
 go_wp2_with fail
 refine (NX.out _ _ _ h1.out L1.out HN.out HK2.out).mono ?_
 rintro e V2 ⟨rfl, h2, p2⟩
 rw [U2.out]
 have s2 := p2.size
 have c2 := p2.drawH (g := w.heap.size) c1 (by omega)
 have y2 := pt_block c2
 replace h2 := Lib.hid h2
 have x2 := Lib.hid (x1.out.step p2)
 clear p2 c1 y1
 have hne2 : B ≠ w.heap.size := by omega
 go_wp2_with fail
 refine bodyPost_ret (v := .agg #[.int .i64 (u1 - width), .int .i64 (u2 - width)]) (by simp only [results, Tryz.results38]; go_simp) rfl ?_
 exact ⟨rfl, (Past.set _ 1 _).drawH ((Past.set _ 0 _).drawH h2.out hne2) hne2, ((x2.out.new (Nat.le_refl _) (Past.set _ 0 _)).new (Nat.le_refl _) (Past.set _ 1 _))⟩
def xNear : Eff where
 f := 38
 g := fun L k args => match args with | [⟨false, [.i n _]⟩] => if 0 <= n /\ n <= 100000 then some (⟨true, [.i (nextV L k (2 * n + 1) - n) n.natAbs, .i (nextV L (nextK L k) (2 * n + 1) - n) n.natAbs]⟩, nextK L (nextK L k), []) else none | _ => none
 ok := by
  intro L k args res k' ps h hp W B v d T vals hg hL hne hk hv
  simp only at h
  split at h <;> (try (cases h; done))
  split at h <;> cases h
  rename_i n A hn
  simp only [rvs_cons, rvs_nil, rv_i] at hv
  obtain ⟨_, ⟨_, rfl⟩, _, rfl, rfl⟩ := hv
  obtain ⟨a, len, c, rfl, h1, h2⟩ := ints_ne hL hne
  refine (r06_Near L B k a len c d T n W hn hg h1 h2 (by rw [h1.1]; exact hk)).mono fun e w' ⟨e1, h3, h4⟩ => ⟨_, e1, ?_, h3, nextK_le (nextK_le hk), h4⟩
  have b1 := nextV_bd L k (n := 2 * n + 1) (by omega)
  have b2 := nextV_bd L (nextK L k) (n := 2 * n + 1) (by omega)
  exact rv_t.2 ⟨_, rl_i.2 ⟨⟨by omega, by unfold I64; omega⟩, _, rfl, rl_i.2 ⟨⟨by omega, by unfold I64; omega⟩, _, rfl, rfl⟩⟩, rfl⟩
end Go.Proofs.YtighahcllmoajaaGreat

set_option maxRecDepth 100000
namespace Go.Proofs.YtighahcllmoajaaGreat
open Go.RowKit
theorem wi_min (a b : Int) : decide (min a b ≥ 0) = (decide (0 <= a) && decide (0 <= b)) := by
 rw [Bool.eq_iff_iff]; simp; omega
theorem within_ok (dx dy fx fy tx ty : Int) : Fok Tryz.prog 127 [ptV dx dy c27, ptV fx fy c27, ptV tx ty c27] (.one (blV (wiB dx dy fx fy tx ty))) := by
 have h : wiB dx dy fx fy tx ty = decide (min (fx * dy - fy * dx) (dx * ty - dy * tx) ≥ 0) := (wi_min _ _).symm
 rw [h]
 exact fok [] [] [] (by kernel_rfl)
def cWithin : Con where
 f := 127
 g := fun | [⟨true, [.i dx A, .i dy B]⟩, ⟨true, [.i fx C, .i fy D]⟩, ⟨true, [.i tx E, .i ty F]⟩] => if (A <= c27 /\ B <= c27) /\ (C <= c27 /\ D <= c27) /\ (E <= c27 /\ F <= c27) then some (.one (blV (wiB dx dy fx fy tx ty)), []) else none | _ => none
 ok := by
  intro args res ps h hp
  split at h <;> try cases h
  split at h <;> cases h
  rename_i hb
  exact (within_ok _ _ _ _ _ _).pre fun W => rvs_1 (pt_low hb.1.1 hb.1.2) (rvs_1 (pt_low hb.2.1.1 hb.2.1.2) (rvs_1 (pt_low hb.2.2.1 hb.2.2.2) rvs_0))
theorem neB_F {x y : Int} (h : (x == 0 && y == 0) = true) : (!eqZ [.i x, .i y] [.i 0, .i 0]) = false := by simpa [eqZ, eqS] using h
theorem neB_T {x y : Int} (h : (x == 0 && y == 0) = false) : (!eqZ [.i x, .i y] [.i 0, .i 0]) = true := by simp only [eqZ, eqS, h]; rfl
theorem quarter_ok (e : Ed) (x y : Int) (hok : e.ok = true) : Fok Tryz.prog 89 [edV e 3 c26, ptV x y c27] (.one (blV (inQ e x y))) := by
 by_cases hk : e.k = 3
 ·have h1 : (e.k == 3) = true := by simpa using hk
  cases hz : (x == 0 && y == 0) with
  | true =>
   rw [show inQ e x y = false by unfold inQ; rw [hz]; rfl]
   exact fok [cRev, cWithin] [true, false] [pT h1, pP hok, pF (neB_F hz)] (by kernel_rfl)
  | false =>
   rw [show inQ e x y = wiB x y (e.bx - e.cx) (e.by' - e.cy) (e.ax - e.cx) (e.ay - e.cy) by unfold inQ; rw [hz, if_pos hk]; rfl]
   exact fok [cRev, cWithin] [true, true] [pT h1, pP hok, pT (neB_T hz)] (by kernel_rfl)
 ·have h1 : (e.k == 3) = false := by simpa using hk
  cases hz : (x == 0 && y == 0) with
  | true =>
   rw [show inQ e x y = false by unfold inQ; rw [hz]; rfl]
   exact fok [cRev, cWithin] [false, false] [pF h1, pF (neB_F hz)] (by kernel_rfl)
  | false =>
   rw [show inQ e x y = wiB x y (e.ax - e.cx) (e.ay - e.cy) (e.bx - e.cx) (e.by' - e.cy) by unfold inQ; rw [hz, if_neg hk]; rfl]
   exact fok [cRev, cWithin] [false, true] [pF h1, pT (neB_T hz)] (by kernel_rfl)
def cQuarter : Con where
 f := 89
 g := fun | [⟨true, l⟩, ⟨true, [.i x A, .i y B]⟩] => if A <= c27 /\ B <= c27 then (toEd l).map fun e => (.one (blV (inQ e x y)), [e.ok = true]) else none | _ => none
 ok := by
  intro args res ps h hp
  split at h <;> try cases h
  split at h <;> try cases h
  rename_i hb
  rename_i l x A y B
  cases he : toEd l with
  | none => simp [he] at h
  | some e =>
   simp only [he, Option.map_some, Option.some.injEq, Prod.mk.injEq] at h
   obtain ⟨rfl, rfl⟩ := h
   exact (quarter_ok e x y hp.1).pre fun W => rvs_1 (ed_ok he hp.1) (rvs_1 (pt_low hb.1 hb.2) rvs_0)
def spV (s : Sp) : V1 := ⟨true, [.i s.x lim, .i s.y lim, .i s.dx lim, .i s.dy lim, .i s.p lim, .i s.q lim, .i s.len lim]⟩
def rsV (r : Rt × Sp) : AV := .tup [rtV r.1, spV r.2]
theorem zero_sub' (x : Int) : 0 - x = -x := by omega
end Go.Proofs.YtighahcllmoajaaGreat

set_option maxRecDepth 100000
namespace Go.Proofs.YtighahcllmoajaaGreat
open Go.RowKit
theorem coord_F {x y : Int} (h : coordB x y = true) : (!coordB x y) = false := by rw [h]; rfl
theorem coord_T {x y : Int} (h : coordB x y = false) : (!coordB x y) = true := by rw [h]; rfl
theorem mulP_sq {x : Int} (h : I64 x) : (mulP (ofZ x) (ofZ x)).1 = ofZ (x * x) := by
 have s0 := (Wd.of64 h).small (by omega)
 have s1 := ((Wd.of64 h).mul (Wd.of64 h)).small (by omega)
 rw [mulP_small' s0 s0 s1]
def cPower : Con where
 f := 87
 g := fun | [⟨false, [.i x _]⟩] => some (.one (nmV (ofZ (x * x))), []) | _ => none
 ok := by
  intro args res ps h _
  split at h <;> cases h
  intro W vals hv
  have hx := hv
  simp only [rvs_cons, rvs_nil, rv_i] at hx
  obtain ⟨_, ⟨⟨_, hi⟩, rfl⟩, _, rfl, rfl⟩ := hx
  rw [<- mulP_sq hi]
  exact fok [cNOf, cMul] [] [] (by kernel_rfl) W _ hv
def KP : List Con := [cNOf, cPower, cRtOf, cChk, cVRight, cRad, cQuarter]
theorem point_ok (e : Ed) (x y : Int) (hok : e.ok = true) (hc : coordB x y = true) : Fok Tryz.prog 13 [edV e 3 c26, ptV x y c26] (rsV (pointR e x y)) := by
 have P1 := pF (chk_F hok)
 have P2 := pF (coord_F hc)
 have e0 : pointR e x y = if e.k = 1 then lineR e x y else arcR e x y := by unfold pointR; rw [hok, hc]; rfl
 rw [e0]
 by_cases hk : e.k = 1
 ·have hk1 : (e.k == 1) = true := by simpa using hk
  rw [if_pos hk]
  unfold lineR
  split
  ·rename_i h1
   exact fok KP [false, false, true, true] [P1, P2, pT hk1, pT (decide_eq_true h1)] (by kernel_rfl)
  ·rename_i h1
   split
   ·rename_i h2
    exact fok KP [false, false, true, false, true] [P1, P2, pT hk1, pF (decide_eq_false h1), pT (ge_T h2)] (by kernel_rfl)
   ·rename_i h2
    exact fok KP [false, false, true, false, false] [P1, P2, pT hk1, pF (decide_eq_false h1), pF (ge_F h2)] (by kernel_rfl)
 ·have hk1 : (e.k == 1) = false := by simpa using hk
  rw [if_neg hk]
  unfold arcR
  split
  ·rename_i hq
   by_cases h2 : radZ e * radZ e <= sqI (x - e.cx) (y - e.cy)
   ·rw [if_pos h2, <- zero_sub' (radZ e)]
    exact fok KP [false, false, false, true, true] [P1, P2, pF hk1, pP hok, pP hok, pT hq, pT (ge_T h2)] (by kernel_rfl)
   ·rw [if_neg h2]
    exact fok KP [false, false, false, true, false, true] [P1, P2, pF hk1, pP hok, pP hok, pT hq, pF (ge_F h2), pP hok, pT hq] (by kernel_rfl)
  ·rename_i hq
   replace hq := Bool.eq_false_iff.2 hq
   split
   ·rename_i h2
    exact fok KP [false, false, false, false, false, true] [P1, P2, pF hk1, pP hok, pP hok, pF hq, pP hok, pF hq, pT (decide_eq_true h2)] (by kernel_rfl)
   ·rename_i h2
    exact fok KP [false, false, false, false, false, false] [P1, P2, pF hk1, pP hok, pP hok, pF hq, pP hok, pF hq, pF (decide_eq_false h2)] (by kernel_rfl)
theorem point_no (e : Ed) (x y : Int) (h : (e.ok && coordB x y) = false) : Fok Tryz.prog 13 [edV e lim lim, ptV x y lim] (rsV (pointR e x y)) := by
 rw [show pointR e x y = (Rt.no, Sp.no) by unfold pointR; rw [h]; rfl]
 cases ho : e.ok with
 | false => exact fok KP [true] [pT (chk_T ho)] (by kernel_rfl)
 | true =>
  rw [ho] at h
  exact fok KP [false, true] [pF (chk_F ho), pT (coord_T h)] (by kernel_rfl)
def cPoint : Con where
 f := 13
 g := fun | [⟨true, l⟩, ⟨true, [.i x _, .i y _]⟩] => (toEd l).map fun e => (rsV (pointR e x y), []) | _ => none
 ok := by
  intro args res ps h hp
  split at h <;> try cases h
  rename_i l x A y B
  cases he : toEd l with
  | none => simp [he] at h
  | some e =>
   simp only [he, Option.map_some, Option.some.injEq, Prod.mk.injEq] at h
   obtain ⟨rfl, rfl⟩ := h
   cases hc : (e.ok && coordB x y) with
   | false => exact (point_no e x y hc).pre fun W => rvs_1 (ed_lim he) (rvs_1 pt_lim rvs_0)
   | true =>
    simp only [Bool.and_eq_true] at hc
    exact (point_ok e x y hc.1 hc.2).pre fun W => rvs_1 (ed_ok he hc.1) (rvs_1 (pt_co (coordB_iff.1 hc.2)) rvs_0)
end Go.Proofs.YtighahcllmoajaaGreat

set_option maxRecDepth 100000
namespace Go.Proofs.YtighahcllmoajaaGreat
open Go.RowKit
def d05Right : Con where
 f := 45
 g := fun | [⟨true, [.i x _, .i y _]⟩] => some (.one (blV (coordB x y)), []) | _ => none
 ok := by
  intro args res ps h _
  split at h <;> cases h
  intro W vals hv
  simp only [rvs_cons, rvs_nil, rv_t, rl_i, rl_nil] at hv
  obtain ⟨_, ⟨_, ⟨_, _, rfl, _, _, rfl, rfl⟩, rfl⟩, _, rfl, rfl⟩ := hv
  exact (r05_Right _ _ W).mono fun _ _ h => gv_bl h
theorem nok {e : Ed} (h : ¬ (e.k = 1 \/ e.k = 2 \/ e.k = 3)) : e.ok = false := by
 cases ho : e.ok with
 | false => rfl
 | true => exact absurd (kind_of ho) h
theorem lt_T {a b : Int} (h : a < b) : decide (a < b) = true := by simpa using h
theorem lt_F {a b : Int} (h : ¬ a < b) : decide (a < b) = false := by simpa using h
theorem beq_ne {a b c d : Int} {x : Bool} (h : (a == c && b == d) = x) : (!eqZ [.i a, .i b] [.i c, .i d]) = !x := by rw [<- h]; rfl
theorem okk {e : Ed} (hr : e.right = true) : e.ok = (if e.k = 1 then e.lone else if e.k = 2 then e.quarter 1 else if e.k = 3 then e.quarter 3 else false) := by unfold Ed.ok; rw [hr, Bool.true_and]
theorem chk_b {e : Ed} {b : Bool} (hA : coordB e.ax e.ay = true) (hB : coordB e.bx e.by' = true) (hC : coordB e.cx e.cy = true) (h : e.ok = b) : checkZ e = cond b 0 11 := by
 cases b with
 | true => exact checkZ_z h
 | false => exact checkZ_11c h hA hB hC
def K6 : List Con := [d05Right]
theorem dchk_2 (e : Ed) (hk : e.k = 2) (hA : coordB e.ax e.ay = true) (hB : coordB e.bx e.by' = true) (hC : coordB e.cx e.cy = true) (k0 : decide (e.k < 1) = false) (k9 : decide (e.k > 3) = false) : Fok Tryz.prog 46 [edV e lim c26] (.one (inV (checkZ e) lim)) := by
 have k1 : (e.k == 1) = false := by simp [hk]
 have k3 : (e.k == 3) = false := by simp [hk]
 have E : e.ok = ((!((e.ax - e.cx == 0) == (e.ay - e.cy == 0))) && (e.bx - e.cx == 0 - (e.ay - e.cy) && e.by' - e.cy == e.ax - e.cx)) := by
  simp [Ed.ok, Ed.right, Ed.quarter, quarterB, rot, hA, hB, hC, hk, bne]
 cases hq : ((e.ax - e.cx == 0) == (e.ay - e.cy == 0)) with
 | true =>
  rw [chk_b hA hB hC (b := false) (by rw [E, hq]; rfl)]
  exact fok K6 [false, false, false, false, false, false, false, true] [pF k0, pF k9, pF (not_F hA), pF (not_F hB), pF (not_F hC), pF k1, pF k3, pT hq] (by kernel_rfl)
 | false =>
  cases hz : (e.bx - e.cx == 0 - (e.ay - e.cy) && e.by' - e.cy == e.ax - e.cx) with
  | true =>
   rw [chk_b hA hB hC (b := true) (by rw [E, hq, hz]; rfl)]
   exact fok K6 [false, false, false, false, false, false, false, false, false] [pF k0, pF k9, pF (not_F hA), pF (not_F hB), pF (not_F hC), pF k1, pF k3, pF hq, pF (beq_ne hz)] (by kernel_rfl)
  | false =>
   rw [chk_b hA hB hC (b := false) (by rw [E, hq, hz]; rfl)]
   exact fok K6 [false, false, false, false, false, false, false, false, true] [pF k0, pF k9, pF (not_F hA), pF (not_F hB), pF (not_F hC), pF k1, pF k3, pF hq, pT (beq_ne hz)] (by kernel_rfl)
theorem dchk_3 (e : Ed) (hk : e.k = 3) (hA : coordB e.ax e.ay = true) (hB : coordB e.bx e.by' = true) (hC : coordB e.cx e.cy = true) (k0 : decide (e.k < 1) = false) (k9 : decide (e.k > 3) = false) : Fok Tryz.prog 46 [edV e lim c26] (.one (inV (checkZ e) lim)) := by
 have k1 : (e.k == 1) = false := by simp [hk]
 have k3 : (e.k == 3) = true := by simp [hk]
 have E : e.ok = ((!((e.ax - e.cx == 0) == (e.ay - e.cy == 0))) && (e.bx - e.cx == e.ay - e.cy && e.by' - e.cy == 0 - (e.ax - e.cx))) := by
  simp [Ed.ok, Ed.right, Ed.quarter, quarterB, rot, hA, hB, hC, hk, bne]
 cases hq : ((e.ax - e.cx == 0) == (e.ay - e.cy == 0)) with
 | true =>
  rw [chk_b hA hB hC (b := false) (by rw [E, hq]; rfl)]
  exact fok K6 [false, false, false, false, false, false, true, true] [pF k0, pF k9, pF (not_F hA), pF (not_F hB), pF (not_F hC), pF k1, pT k3, pT hq] (by kernel_rfl)
 | false =>
  cases hz : (e.bx - e.cx == e.ay - e.cy && e.by' - e.cy == 0 - (e.ax - e.cx)) with
  | true =>
   rw [chk_b hA hB hC (b := true) (by rw [E, hq, hz]; rfl)]
   exact fok K6 [false, false, false, false, false, false, true, false, false] [pF k0, pF k9, pF (not_F hA), pF (not_F hB), pF (not_F hC), pF k1, pT k3, pF hq, pF (beq_ne hz)] (by kernel_rfl)
  | false =>
   rw [chk_b hA hB hC (b := false) (by rw [E, hq, hz]; rfl)]
   exact fok K6 [false, false, false, false, false, false, true, false, true] [pF k0, pF k9, pF (not_F hA), pF (not_F hB), pF (not_F hC), pF k1, pT k3, pF hq, pT (beq_ne hz)] (by kernel_rfl)
theorem dchk_1 (e : Ed) (hk : e.k = 1) (hA : coordB e.ax e.ay = true) (hB : coordB e.bx e.by' = true) (hC : coordB e.cx e.cy = true) (k0 : decide (e.k < 1) = false) (k9 : decide (e.k > 3) = false) : Fok Tryz.prog 46 [edV e lim c26] (.one (inV (checkZ e) lim)) := by
 have k1 : (e.k == 1) = true := by simp [hk]
 have E : e.ok = (e.cx == 0 && e.cy == 0) := by simp [Ed.ok, Ed.right, Ed.lone, hA, hB, hC, hk]
 cases hz : (e.cx == 0 && e.cy == 0) with
 | true =>
  rw [chk_b hA hB hC (b := true) (by rw [E, hz])]
  exact fok K6 [false, false, false, false, false, true, false] [pF k0, pF k9, pF (not_F hA), pF (not_F hB), pF (not_F hC), pT k1, pF (beq_ne hz)] (by kernel_rfl)
 | false =>
  rw [chk_b hA hB hC (b := false) (by rw [E, hz])]
  exact fok K6 [false, false, false, false, false, true, true] [pF k0, pF k9, pF (not_F hA), pF (not_F hB), pF (not_F hC), pT k1, pT (beq_ne hz)] (by kernel_rfl)
theorem c26_rt {e : Ed} (hA : coordB e.ax e.ay = true) (hB : coordB e.bx e.by' = true) (hC : coordB e.cx e.cy = true) (W : World) (vals : List Value) (hv : RepVs W W (fun _ => 0) 0 [edV e lim lim] vals) : RepVs W W (fun _ => 0) 0 [edV e lim c26] vals :=
 rvs_1 (ed_rt (toEd_V e lim lim) (by simp [Ed.right, hA, hB, hC])) rvs_0 vals hv
theorem dchk_ok (e : Ed) : Fok Tryz.prog 46 [edV e lim lim] (.one (inV (checkZ e) lim)) := by
 by_cases h1 : e.k < 1
 ·rw [checkZ_11a (nok (by omega)) (by omega)]
  exact fok K6 [true] [pT (lt_T h1)] (by kernel_rfl)
 by_cases h3 : 3 < e.k
 ·rw [checkZ_11b (nok (by omega)) (by omega)]
  exact fok K6 [false, true] [pF (lt_F h1), pT (gt_T h3)] (by kernel_rfl)
 have k0 := lt_F h1
 have k9 := gt_F h3
 cases hA : coordB e.ax e.ay with
 | false =>
  rw [checkZ_10 (okA hA) (by omega) (by omega) (.inl hA)]
  exact fok K6 [false, false, true] [pF k0, pF k9, pT (not_T hA)] (by kernel_rfl)
 | true =>
  cases hB : coordB e.bx e.by' with
  | false =>
   rw [checkZ_10 (okB hB) (by omega) (by omega) (.inr (.inl hB))]
   exact fok K6 [false, false, false, true] [pF k0, pF k9, pF (not_F hA), pT (not_T hB)] (by kernel_rfl)
  | true =>
   cases hC : coordB e.cx e.cy with
   | false =>
    rw [checkZ_10 (okC hC) (by omega) (by omega) (.inr (.inr hC))]
    exact fok K6 [false, false, false, false, true] [pF k0, pF k9, pF (not_F hA), pF (not_F hB), pT (not_T hC)] (by kernel_rfl)
   | true =>
    refine Fok.pre ?_ (c26_rt hA hB hC)
    obtain hk | hk | hk : e.k = 1 \/ e.k = 2 \/ e.k = 3 := by omega
    ·exact dchk_1 e hk hA hB hC k0 k9
    ·exact dchk_2 e hk hA hB hC k0 k9
    ·exact dchk_3 e hk hA hB hC k0 k9
def d06Chk : Con where
 f := 46
 g := fun | [⟨true, l⟩] => (toEd l).map fun e => (.one (inV (checkZ e) 11), []) | _ => none
 ok := by
  intro args res ps h _
  split at h <;> try cases h
  rename_i l
  cases he : toEd l with
  | none => simp [he] at h
  | some e =>
   simp only [he, Option.map_some, Option.some.injEq, Prod.mk.injEq] at h
   obtain ⟨rfl, rfl⟩ := h
   exact ((dchk_ok e).bd (checkZ_64 e).1).pre fun W => rvs_1 (ed_lim he) rvs_0
theorem radZ_two {e : Ed} (h : e.ok = true) (hk : (e.k == 1) = false) : radZ e = max (e.ax - e.cx) (0 - (e.ax - e.cx)) + max (e.ay - e.cy) (0 - (e.ay - e.cy)) := by
 rw [radZ_arc h hk]
 have hk' : ¬ e.k = 1 := by simpa using hk
 have hq : ((e.ax - e.cx == 0) != (e.ay - e.cy == 0)) = true := by
  simp only [Ed.ok, Bool.and_eq_true, if_neg hk'] at h
  have h2 := h.2
  split at h2
  ·simp only [Ed.quarter, quarterB, Bool.and_eq_true] at h2; exact h2.1
  ·split at h2
   ·simp only [Ed.quarter, quarterB, Bool.and_eq_true] at h2; exact h2.1
   ·cases h2
 by_cases h1 : e.ax - e.cx = 0
 ·omega
 ·by_cases h2 : e.ay - e.cy = 0
  ·omega
  ·exfalso
   rw [beq_false_of_ne h1, beq_false_of_ne h2] at hq
   cases hq
theorem drad_ok (e : Ed) (ho : e.ok = true) : Fok Tryz.prog 40 [edV e 3 c26] (.one (inV (radZ e) lim)) := by
 cases hk : (e.k == 1) with
 | true =>
  rw [radZ_line (by simpa using hk)]
  exact fok [d06Chk] [true] [pT hk] (by kernel_rfl)
 | false =>
  rw [radZ_two ho hk]
  exact fok [d06Chk] [false, false] [pF hk, pF (chk_F ho)] (by kernel_rfl)
def d06Rad : Con where
 f := 40
 g := fun | [⟨true, l⟩] => (toEd l).map fun e => (.one (inV (radZ e) 134217728), [e.ok = true]) | _ => none
 ok := by
  intro args res ps h hp
  split at h <;> try cases h
  rename_i l
  cases he : toEd l with
  | none => simp [he] at h
  | some e =>
   simp only [he, Option.map_some, Option.some.injEq, Prod.mk.injEq] at h
   obtain ⟨rfl, rfl⟩ := h
   exact ((drad_ok e hp.1).bd (rad_b hp.1).1).pre fun W => rvs_1 (ed_ok he hp.1) rvs_0
end Go.Proofs.YtighahcllmoajaaGreat

namespace Go.Proofs.YtighahcllmoajaaGreat
open Go.RowKit
theorem sideZ_neg (a b : Int) (c : Nat) : sideZ (-a) (-b) (c : Int) = -sideZ a b (c : Int) := Sg.uniq (side_sg (-a) (-b) c) (Sg.eq (side_sg a b c).neg fun k => (lin_neg a b c k).symm)
theorem sgn_mul {g : Int} (h : 0 < g) (a : Int) : sgn (g * a) = sgn a := by
 rcases sgn_cases a with ⟨h1, h2⟩ | ⟨h1, h2⟩ | ⟨h1, h2⟩
 ·have := Int.mul_pos h h2
  rcases sgn_cases (g * a) with ⟨h3, h4⟩ | ⟨h3, h4⟩ | ⟨h3, h4⟩ <;> omega
 ·rw [h2, Int.mul_zero]
 ·have := Int.mul_neg_of_pos_of_neg h h2
  rcases sgn_cases (g * a) with ⟨h3, h4⟩ | ⟨h3, h4⟩ | ⟨h3, h4⟩ <;> omega
theorem cmpZ_sub (a b : Int) : cmpZ a b = sgn (a - b) := by
 rcases cmpZ_case a b with ⟨h1, h2⟩ | ⟨h1, h2⟩ | ⟨h1, h2⟩ <;> rcases sgn_cases (a - b) with ⟨h3, h4⟩ | ⟨h3, h4⟩ | ⟨h3, h4⟩ <;> omega
theorem cmpZ_mul {g : Int} (h : 0 < g) (a b : Int) : cmpZ (g * a) (g * b) = cmpZ a b := by
 rw [cmpZ_sub, cmpZ_sub, <- Int.mul_sub, sgn_mul h]
theorem sideZ_scale {g : Int} (h : 0 < g) (a b c : Int) : sideZ (g * a) b (g * g * c) = sideZ a b c := by
 have h2 := Int.mul_pos h h
 unfold sideZ
 rw [sgn_mul h, sgn_mul h2]
 have e1 : g * a * (g * a) = g * g * (a * a) := by grind
 have e2 : b * b * (g * g * c) = g * g * (b * b * c) := by grind
 rw [e1, e2, cmpZ_mul h2]
theorem sideZ_bd (a b c : Int) : -1 <= sideZ a b c /\ sideZ a b c <= 1 := by
 unfold sideZ
 split
 ·omega
 ·rcases sgn_cases a with ⟨h1, h2⟩ | ⟨h1, h2⟩ | ⟨h1, h2⟩ <;> rcases cmpZ_case (a * a) (b * b * c) with ⟨h3, h4⟩ | ⟨h3, h4⟩ | ⟨h3, h4⟩ <;> rw [h1, h3] <;> decide
theorem cmpR_whole (A s n d : Int) : cmpR A s n d 0 0 1 = sideZ (A * d) s (n * d) := by
 have := sideZ_bd (A * d) s (n * d)
 unfold cmpR
 split
 ·omega
 ·rename_i h
  have : sideZ (A * d) s (n * d) = 0 := by omega
  rw [this, Int.zero_mul]
theorem side_whole {f d n : Int} (hf : 0 <= f) (hd : 0 < d) (hn : 0 <= n) : sideZ (-f * d) 1 (n * d) = sgn (n - d * f * f) := by
 have s1 : sgn 1 = 1 := rfl
 unfold sideZ
 rw [s1, Int.one_mul, Int.mul_comm n d, sgn_mul hd, Int.mul_comm (-f) d, sgn_mul hd]
 rcases sgn_cases n with ⟨h1, h2⟩ | ⟨h1, h2⟩ | ⟨h1, h2⟩
 ·rcases sgn_cases (-f) with ⟨h3, h4⟩ | ⟨h3, h4⟩ | ⟨h3, h4⟩
  ·omega
  ·obtain rfl : f = 0 := by omega
   rw [h1, h3, if_pos (by decide), Int.mul_zero, Int.sub_zero, h1]
   decide
  ·rw [h1, h3, if_neg (by decide)]
   have e : d * -f * (d * -f) = d * (d * f * f) := by grind
   rw [e, Int.mul_one, Int.one_mul, cmpZ_mul hd, cmpZ_sub]
   have e2 : n - d * f * f = -(d * f * f - n) := by omega
   rw [e2]
   rcases sgn_cases (d * f * f - n) with ⟨h5, h6⟩ | ⟨h5, h6⟩ | ⟨h5, h6⟩ <;> rcases sgn_cases (-(d * f * f - n)) with ⟨h7, h8⟩ | ⟨h7, h8⟩ | ⟨h7, h8⟩ <;> omega
 ·subst h2
  rw [h1, Int.mul_zero, if_pos (Int.le_refl 0), Int.zero_sub]
  have e : -(d * f * f) = d * (f * -f) := by grind
  rw [e, sgn_mul hd]
  rcases sgn_cases (-f) with ⟨h3, h4⟩ | ⟨h3, h4⟩ | ⟨h3, h4⟩
  ·omega
  ·obtain rfl : f = 0 := by omega
   rfl
  ·rw [h3, sgn_mul (show 0 < f by omega), h3]
   decide
 ·omega
def rootOf (add s : Int) (n d : Nat) : Rt := if s = 0 \/ n = 0 then ⟨add, 0, zero, ofZ 1⟩ else ⟨add, s, ofZ ((n / Nat.gcd n d : Nat) : Int), ofZ ((d / Nat.gcd n d : Nat) : Int)⟩
theorem small_nat {n k : Nat} (h : n < 4294967296 ^ k) (hk : k <= 64) : small (n : Int) = true := small_of_lt (k := k) (by rw [Int.natAbs_natCast]; exact h) hk
theorem ofZ_len {n k : Nat} (h : n < 4294967296 ^ k) : (ofZ (n : Int)).d.length <= k := by
 simp only [ofZ, Int.natAbs_natCast]
 exact (digs_length_le _ _).2 h
theorem ofP_nat {add s : Int} {n d : Nat} (hs : -1 <= s /\ s <= 1) (hn : n < 4294967296 ^ 8) (hd : d < 4294967296 ^ 8) (h0 : 0 < d) : ofP add s (ofZ (n : Int)) (ofZ (d : Int)) = (rootOf add s n d, true) := by
 have sn := small_nat hn (by decide)
 have sd := small_nat hd (by decide)
 have vn : val (ofZ (n : Int)).d = n := by rw [val_ofZ]; rfl
 have vd : val (ofZ (d : Int)).d = d := by rw [val_ofZ]; rfl
 have hb : ofBad s (ofZ (n : Int)) (ofZ (d : Int)) = false := ofBad_of hs.1 hs.2 (ofZ_right sn) (ofZ_right sd) neg_ofZ (by rw [ofZ_z]; omega)
 unfold rootOf
 by_cases hz : s = 0 \/ n = 0
 ·rw [if_pos hz]
  unfold ofP
  rw [hb, if_neg (by simp), if_pos (by rw [ofZ_z]; omega)]
 ·rw [if_neg hz, ofP_main neg_ofZ (by rw [ofZ_z]; omega) hb (by rw [ofZ_z]; omega), vn, vd, if_neg]
  have h1 := ofZ_len (Nat.lt_of_le_of_lt (Nat.div_le_self n (Nat.gcd n d)) hn)
  have h2 := ofZ_len (Nat.lt_of_le_of_lt (Nat.div_le_self d (Nat.gcd n d)) hd)
  omega
theorem whole_ok {add s : Int} {n d : Nat} (hs : -1 <= s /\ s <= 1) (hn : n < 4294967296 ^ 8) (hd : d < 4294967296 ^ 8) (h0 : 0 < d) : (rootOf add s n d).Ok /\ (rootOf add s n d).right = true := by
 have dg : ∀ z, Dig (ofZ z).d := fun z => dig_digs _
 obtain ⟨h1, h2, _⟩ := ofP_ok (dg n) (dg d) (ofP_nat (add := add) hs hn hd h0)
 exact ⟨h1, right_of h2 h1.nr h1.dr⟩
theorem cmp_int {add s x : Int} {n d : Nat} (h0 : 0 < d) (hs : s = 0 -> n = 0) : cmpR ((rootOf add s n d).add - x) (rootOf add s n d).s (rootOf add s n d).n.z (rootOf add s n d).d.z 0 0 1 = sideZ ((add - x) * d) s ((n : Int) * d) := by
 rw [cmpR_whole]
 unfold rootOf
 by_cases hz : s = 0 \/ n = 0
 ·have hn : n = 0 := by rcases hz with h | h; exact hs h; exact h
  rw [if_pos hz, hn]
  simp only
  rw [ofZ_z, zero_z]
  have e : ∀ y t : Int, sideZ y t 0 = sgn y := fun y t => by
   have : sgn 0 = 0 := rfl
   unfold sideZ
   rw [this, Int.mul_zero, Int.mul_zero, if_pos (Int.le_refl 0)]
   rcases sgn_cases y with ⟨h, _⟩ | ⟨h, _⟩ | ⟨h, _⟩ <;> rw [h] <;> decide
  rw [Int.zero_mul, e, show ((0 : Nat) : Int) * (d : Int) = 0 by simp, e, Int.mul_one, Int.mul_comm, sgn_mul (by omega)]
 ·rw [if_neg hz]
  simp only
  rw [ofZ_z, ofZ_z]
  have hg : 0 < Nat.gcd n d := Nat.gcd_pos_of_pos_right _ h0
  have e1 : Nat.gcd n d * (n / Nat.gcd n d) = n := Nat.mul_div_cancel' (Nat.gcd_dvd_left _ _)
  have e2 : Nat.gcd n d * (d / Nat.gcd n d) = d := Nat.mul_div_cancel' (Nat.gcd_dvd_right _ _)
  have e1' : (n : Int) = (Nat.gcd n d : Int) * ((n / Nat.gcd n d : Nat) : Int) := by rw [<- Int.natCast_mul, e1]
  have e2' : (d : Int) = (Nat.gcd n d : Int) * ((d / Nat.gcd n d : Nat) : Int) := by rw [<- Int.natCast_mul, e2]
  have hg2 : (0 : Int) < (Nat.gcd n d : Int) := by omega
  generalize (Nat.gcd n d : Int) = g at *
  generalize ((n / Nat.gcd n d : Nat) : Int) = N at *
  generalize ((d / Nat.gcd n d : Nat) : Int) = D at *
  rw [e1', e2', show (add - x) * (g * D) = g * ((add - x) * D) by grind, show g * N * (g * D) = g * g * (N * D) by grind, sideZ_scale hg2]
end Go.Proofs.YtighahcllmoajaaGreat

set_option maxRecDepth 100000
namespace Go.Proofs.YtighahcllmoajaaGreat
open Go.RowKit
def sideR (a b c : Int) : Int := if sgn c = 0 \/ sgn b = 0 then sgn a else if sgn a = 0 \/ sgn a = sgn b then sgn b else sgn a * cmpZ (a * a) (b * b * c)
theorem sgn_nonneg {c : Int} (h : 0 <= c) : sgn c = 0 \/ sgn c = 1 := by
 unfold sgn cmpZ
 rw [if_neg (by omega)]
 split
 ·exact .inl rfl
 ·exact .inr rfl
theorem side_eq (a b c : Int) (h : 0 <= c) : sideR a b c = sideZ a b c := by
 unfold sideR sideZ
 have ha := sgn_bd a
 have hb := sgn_bd b
 have hc := sgn_nonneg h
 generalize sgn a * cmpZ (a * a) (b * b * c) = r
 generalize sgn a = x at *
 generalize sgn b = y at *
 generalize sgn c = z at *
 obtain rfl | rfl | rfl : x = -1 \/ x = 0 \/ x = 1 := by omega
 all_goals obtain rfl | rfl | rfl : y = -1 \/ y = 0 \/ y = 1 := by omega
 all_goals rcases hc with rfl | rfl
 all_goals (simp <;> omega)
def d1ZOf : Con := zOfC 26 r01_Of
def d1ZMul : Con := zBinC 128 mulP (· * ·) (· * ·) (fun A B => decide (A < c2048 /\ B < c2048 /\ A * B < c2048)) r01_Mul zmul_c
def d1ZSub : Con := zBinC 137 subP (· - ·) (· + ·) (fun A B => decide (A + B < c2048)) r01_Sub zsub_c
theorem addP_z {x y : Int} (hx : small x = true) (hy : small y = true) (hs : small (x + y) = true) : addP (ofZ x) (ofZ y) = (ofZ (x + y), true) := by
 unfold addP fit
 rw [ofZ_right hx, ofZ_right hy, ofZ_z, ofZ_z, hs]
 rfl
theorem zadd_c (x y : Int) (A B : Nat) (h : decide (A + B < c2048) = true) (b1 : x.natAbs <= A) (b2 : y.natAbs <= B) : (x + y).natAbs <= A + B /\ addP (ofZ x) (ofZ y) = (ofZ (x + y), true) := by
 have h := of_decide_eq_true h
 have b3 : (x + y).natAbs <= A + B := by omega
 exact ⟨b3, addP_z (small_c b1 (by omega)) (small_c b2 (by omega)) (small_c b3 h)⟩
def d1ZAdd : Con := zBinC 138 addP (· + ·) (· + ·) (fun A B => decide (A + B < c2048)) r01_Add zadd_c
theorem cmpZ_b (a b : Int) : (cmpZ a b).natAbs <= 1 /\ I64 (cmpZ a b) := by
 have := cmpZ_bd a b
 exact ⟨by omega, by unfold I64; omega⟩
def zCmpC (f : FuncId) (H : ∀ (a b : Nm) (n m : Bool) (p q : Option Addr) (l c k d : Nat) (w : World), NR w n p l c a -> NR w m q k d b -> Calls Tryz.prog f #[NmV n p l c, NmV m q k d] w fun e w' => e = .returned (.int .i64 (cmpP a b)) /\ Ext w w') : Con where
 f := f
 g := fun | [⟨true, l⟩, ⟨true, m⟩] => (match toZi l, toZi m with | some (x, A), some (y, B) => if A < c2048 /\ B < c2048 then some (.one (inV (cmpZ x y) 1), []) else none | _, _ => none) | _ => none
 ok := by
  intro args res ps h hp
  split at h <;> try cases h
  split at h <;> try cases h
  split at h <;> cases h
  rename_i x A y B hx hy hb
  intro W vals hv
  obtain ⟨v1, g1, l1, rfl, hv1⟩ := rvs_cons.1 hv
  obtain ⟨v2, g2, l2, rfl, hv2⟩ := rvs_cons.1 hv1
  cases hv2
  obtain ⟨b1, _, _, _, _, rfl, h1⟩ := toZi_rep hx g1
  obtain ⟨b2, _, _, _, _, rfl, h2⟩ := toZi_rep hy g2
  exact (H _ _ _ _ _ _ _ _ _ _ W h1 h2).mono fun _ _ h => gv_in (cmpZ_b _ _) (cmpP_side (small_c b1 hb.1) (small_c b2 hb.2) ▸ h)
def d1ZCmp : Con := zCmpC 120 fun a b _ _ _ _ _ _ _ _ w h1 h2 => r01_Cmp a b _ _ _ _ _ _ _ _ w h1 h2
def d1ZRight : Con where
 f := 119
 g := fun | [⟨true, [.d (.zi x A)]⟩] => if A < c2048 then some (.one ⟨false, [.b true]⟩, []) else none | _ => none
 ok := by
  intro args res ps h hp
  split at h <;> try cases h
  split at h <;> cases h
  rename_i x A hb
  intro W vals hv
  simp only [rvs_cons, rvs_nil, rv_t, rl_zi, rl_nil] at hv
  obtain ⟨_, ⟨_, ⟨b1, n, p, l, c, h1, _, rfl, rfl⟩, rfl⟩, _, rfl, rfl⟩ := hv
  have e : (ofZ x).right = true := ofZ_right (small_c b1 hb)
  exact (r01_Right _ _ _ _ _ W h1).mono fun _ _ h => ⟨_, h.1, RepI.val (i := .b true) (by show [_] = [_]; rw [e]), h.2⟩
def K2C : List Con := [d1ZOf, d1ZMul, d1ZSub, d1ZAdd, d1ZCmp, d1ZRight]
def c639 : Nat := 4294967296 ^ 20 - 1
def c672 : Nat := 4294967296 ^ 21
theorem r2side_fok (a b c : Int) (h : 0 <= c) : Fok Tryz.prog 101 [ziV a c672, ziV b c672, ziV c c672] (.one (inV (sideZ a b c) lim)) := by
 rw [<- side_eq a b c h]
 unfold sideR
 by_cases h1 : sgn c = 0
 ·rw [if_pos (.inl h1)]
  exact fok K2C [true] [pT (bq_T h1)] (by kernel_rfl)
 by_cases h2 : sgn b = 0
 ·rw [if_pos (.inr h2)]
  exact fok K2C [false, true] [pF (bq_F h1), pT (bq_T h2)] (by kernel_rfl)
 rw [if_neg (by omega)]
 by_cases h3 : sgn a = 0
 ·rw [if_pos (.inl h3)]
  exact fok K2C [false, false, true] [pF (bq_F h1), pF (bq_F h2), pT (bq_T h3)] (by kernel_rfl)
 by_cases h4 : sgn a = sgn b
 ·rw [if_pos (.inr h4)]
  exact fok K2C [false, false, false, true] [pF (bq_F h1), pF (bq_F h2), pF (bq_F h3), pT (bq_T h4)] (by kernel_rfl)
 ·rw [if_neg (by omega)]
  exact fok K2C [false, false, false, false] [pF (bq_F h1), pF (bq_F h2), pF (bq_F h3), pF (bq_F h4)] (by kernel_rfl)
theorem zi_up {V W : World} {r : Nat -> Nat} {k : Nat} {z : Int} {A B : Nat} (h : A <= B) : ∀ v, RepV V W r k ⟨true, [.d (.zi z A)]⟩ v -> RepV V W r k (ziV z B) v := by
 intro v hv
 obtain ⟨_, hw, rfl⟩ := rv_t.1 hv
 obtain ⟨b1, h2⟩ := rl_zi.1 hw
 exact rv_t.2 ⟨_, rl_zi.2 ⟨Nat.le_trans b1 h, h2⟩, rfl⟩
theorem in_up {V W : World} {r : Nat -> Nat} {k : Nat} {z : Int} {A B : Nat} (h : A <= B) : ∀ v, RepV V W r k ⟨false, [.i z A]⟩ v -> RepV V W r k (inV z B) v := by
 intro v hv
 obtain ⟨h1, rfl⟩ := rv_i.1 hv
 exact rv_i.2 ⟨⟨Nat.le_trans h1.1 h, h1.2⟩, rfl⟩
def sideC (f : FuncId) (M : Nat) (H : ∀ a b c : Int, a.natAbs <= M -> b.natAbs <= M -> c.natAbs <= M -> 0 <= c -> Fok Tryz.prog f [ziV a M, ziV b M, ziV c M] (.one (inV (sideZ a b c) lim))) : Con where
 f := f
 g := fun | [⟨true, [.d (.zi x A)]⟩, ⟨true, [.d (.zi y B)]⟩, ⟨true, [.d (.zi d D)]⟩] => if A <= M /\ B <= M /\ D <= M then some (.one (inV (sideZ x y d) 1), [0 <= d]) else none | _ => none
 ok := by
  intro args res ps h hp
  split at h <;> try cases h
  split at h <;> cases h
  rename_i x A y B d D hb
  intro W vals hv
  obtain ⟨v1, g1, l1, e1, hv1⟩ := rvs_cons.1 hv
  obtain ⟨v2, g2, l2, e2, hv2⟩ := rvs_cons.1 hv1
  obtain ⟨v3, g3, _⟩ := rvs_cons.1 hv2
  have bd : ∀ {z : Int} {A : Nat} {v : Value}, RepV W W (fun _ => 0) 0 ⟨true, [.d (.zi z A)]⟩ v -> z.natAbs <= A := fun h => by
   obtain ⟨_, hw, _⟩ := rv_t.1 h
   exact (rl_zi.1 hw).1
  have hs := sideZ_bd x y d
  exact Fok.bd (H x y d (Nat.le_trans (bd g1) hb.1) (Nat.le_trans (bd g2) hb.2.1) (Nat.le_trans (bd g3) hb.2.2) hp.1) (by omega) W vals (rvs_1 (zi_up hb.1) (rvs_1 (zi_up hb.2.1) (rvs_1 (zi_up hb.2.2) fun _ h => h)) _ hv)
def d2Side : Con := sideC 101 c672 fun a b c _ _ _ h => r2side_fok a b c h
theorem len20 {z : Int} (h : z.natAbs <= c639) : decide (((ofZ z).d.length : Int) > 20) = false := by
 have := (digs_length_le z.natAbs 20).2 (by unfold c639 at h; omega)
 have e : (ofZ z).d = digs z.natAbs := rfl
 rw [e]
 simp only [decide_eq_false_iff_not]
 omega
def d2Sign : Con := sideC 184 c639 fun a b c ha hb hc h =>
 fok (d2Side :: K2C) [false, false, false, false] [pF (len20 ha), pF (len20 hb), pF (len20 hc), pF (by simp [ofZ]; omega : (ofZ c).neg = false), pP h] (by kernel_rfl)
end Go.Proofs.YtighahcllmoajaaGreat
