/- Contract: etchantref07.Made, arcs (printed by gen_made.py). -/
import Derived.Test.YtmmhiiiaccldmaaGreatJ21
import Derived.StillTactics
import Derived.Laws.Pointers
import Derived.Deep.DrawnRows
import Derived.Deep.DeepCutAuto
set_option linter.unusedVariables false
set_option linter.unusedSimpArgs false

namespace Go.Proofs.YtmmhiiiaccldmaaGreat
open Go.RowKit
attribute [local go_sem] Gives givesU
attribute [local go_sem ↓] Go.wp_at_zero Go.wp_at_succ

--@@ARCS: printed by gen_made.py
theorem rot_le {p : Int × Int} {m : Int} (h1 : -m ≤ p.1 ∧ p.1 ≤ m) (h2 : -m ≤ p.2 ∧ p.2 ≤ m) (n : Nat) : (-m ≤ (rot n p).1 ∧ (rot n p).1 ≤ m) ∧ (-m ≤ (rot n p).2 ∧ (rot n p).2 ≤ m) := by
  induction n with
  | zero => exact ⟨h1, h2⟩
  | succ n ih =>
    obtain ⟨⟨a, b⟩, c⟩ := ih
    simp only [rot]
    exact ⟨⟨by omega, by omega⟩, a, b⟩
set_option maxRecDepth 100000 in
set_option maxHeartbeats 4000000 in
theorem r07_Made_2 (L : List Int) (a : Option Addr) (len cp : Nat) (f : Int) (w : World) (hL : Ints w a len L) (hcp : len ≤ cp ∧ cp ≤ 9223372036854775807) (hf : 1 ≤ f ∧ f ≤ 1048576) (hk0 : nextV L 0 3 = 1)
    (q1 q2 r ti u1 u2 v1 v2 : Int) (Q1 : Hid (f * (nextV L (nextK L 0) 13 + 6) = q1)) (Q2 : Hid (f * (nextV L (nextK L (nextK L 0)) 13 + 6) = q2)) (Q3 : Hid (f * (1 + nextV L (nextK L (nextK L (nextK L 0))) 12) = r)) (Q4 : Hid (nextV L (nextK L (nextK L (nextK L (nextK L 0)))) 4 = ti))
    (U : Hid ((u1, u2) = rot ti.toNat (r, 0))) (V : Hid ((v1, v2) = rot ti.toNat (0, r))) :
    Calls Tryz.prog 6 #[.slice a len cp, .int .i64 f] w fun e w' => e = .returned (.agg #[.int .i64 2, .int .i64 (q1 + u1), .int .i64 (q2 + u2), .int .i64 (q1 + v1), .int .i64 (q2 + v2), .int .i64 q1, .int .i64 q2]) ∧ Ext w w' := by
  have hlt := hL.lt
  have NX := Lib.hid (fun (k : Nat) (n : Int) (W : World) (hd : DrawAt W (w.heap.size + 1) a len cp k) (hL' : Ints W a len L) (hn : 0 < n ∧ n ≤ 4294967296) (hk : k ≤ len) => r01_Next L (w.heap.size + 1) a len cp k n W hd hL' (fun h0 x e => by have := hlt h0 x e; omega) hn hk)
  have KB : ∀ k, k ≤ len → nextK L k ≤ len := fun k hk => by have := hL.1; unfold nextK; split <;> omega
  have b0 := nextV_bd L (nextK L 0) (n := 13) (by omega)
  have b1 := nextV_bd L (nextK L (nextK L 0)) (n := 13) (by omega)
  have b2 := nextV_bd L (nextK L (nextK L (nextK L 0))) (n := 12) (by omega)
  have b3 := nextV_bd L (nextK L (nextK L (nextK L (nextK L 0)))) (n := 4) (by omega)
  have HK1 := Lib.hid (KB 0 (by omega))
  have HK2 := Lib.hid (KB _ HK1.out)
  have HK3 := Lib.hid (KB _ HK2.out)
  have HK4 := Lib.hid (KB _ HK3.out)
  clear KB
  have HL := Lib.hid hL
  clear hL
  have m0 := fac_bd hf (x := nextV L (nextK L 0) 13 + 6) (by omega) (m := 18) (by omega) (by omega)
  have m1 := fac_bd hf (x := nextV L (nextK L (nextK L 0)) 13 + 6) (by omega) (m := 18) (by omega) (by omega)
  have m2 := fac_bd hf (x := 1 + nextV L (nextK L (nextK L (nextK L 0))) 12) (by omega) (m := 12) (by omega) (by omega)
  rw [Q1.out] at m0
  rw [Q2.out] at m1
  rw [Q3.out] at m2
  rw [Q4.out] at b3
  obtain ⟨x1, V1⟩ : ∃ v, Hid (nextV L (nextK L 0) 13 = v) := ⟨_, rfl⟩
  obtain ⟨x2, V2⟩ : ∃ v, Hid (nextV L (nextK L (nextK L 0)) 13 = v) := ⟨_, rfl⟩
  obtain ⟨x3, V3⟩ : ∃ v, Hid (nextV L (nextK L (nextK L (nextK L 0))) 12 = v) := ⟨_, rfl⟩
  rw [V1.out] at b0 Q1
  rw [V2.out] at b1 Q2
  rw [V3.out] at b2 Q3
  have V4 := Q4
  obtain ⟨k1, K1⟩ : ∃ v, Hid (nextK L 0 = v) := ⟨_, rfl⟩
  rw [K1.out] at HK1 HK2 HK3 HK4 V1 V2 V3 V4
  obtain ⟨k2, K2⟩ : ∃ v, Hid (nextK L k1 = v) := ⟨_, rfl⟩
  rw [K2.out] at HK2 HK3 HK4 V2 V3 V4
  obtain ⟨k3, K3⟩ : ∃ v, Hid (nextK L k2 = v) := ⟨_, rfl⟩
  rw [K3.out] at HK3 HK4 V3 V4
  obtain ⟨k4, K4⟩ : ∃ v, Hid (nextK L k3 = v) := ⟨_, rfl⟩
  rw [K4.out] at HK4 V4
  have p1 : IntKind.i64.wrap (f * (x1 + 6)) = q1 := by rw [Q1.out]; exact wrap_in (by unfold I64; omega)
  have p2 : IntKind.i64.wrap (f * (x2 + 6)) = q2 := by rw [Q2.out]; exact wrap_in (by unfold I64; omega)
  have p3 : IntKind.i64.wrap (f * (1 + x3)) = r := by rw [Q3.out]; exact wrap_in (by unfold I64; omega)
  have bu := rot_le (p := (r, 0)) (m := 12582912) ⟨by simp; omega, by simp; omega⟩ ⟨by simp, by simp⟩ ti.toNat
  have bv := rot_le (p := (0, r)) (m := 12582912) ⟨by simp, by simp⟩ ⟨by simp; omega, by simp; omega⟩ ti.toNat
  have AU := fun w => r05_Apply 0 0 ti r 0 false w (by omega) (by unfold Lo; omega) (by unfold Lo; omega) (by unfold Lo; omega) (by unfold Lo; omega)
  have AV := fun w => r05_Apply 0 0 ti 0 r false w (by omega) (by unfold Lo; omega) (by unfold Lo; omega) (by unfold Lo; omega) (by unfold Lo; omega)
  have eu : applyP 0 0 ti false r 0 = (u1, u2) := by rw [U.out]; simp [applyP, mir]
  have ev : applyP 0 0 ti false 0 r = (v1, v2) := by rw [V.out]; simp [applyP, mir]
  rw [eu] at AU
  rw [ev] at AV
  rw [← U.out] at bu
  rw [← V.out] at bv
  simp only at bu bv AU AV
  have SU := Lib.hid (fun w => r05_Add q1 q2 u1 u2 w (by unfold I64; omega) (by unfold I64; omega))
  have SV := Lib.hid (fun w => r05_Add q1 q2 v1 v2 w (by unfold I64; omega) (by unfold I64; omega))
  replace AU := Lib.hid AU
  replace AV := Lib.hid AV
  clear eu ev bu bv b3 Q4
  go_enter Tryz.func6, Tryz.ntmps6
  go_wp2_with fail
  refine (NX.out 0 3 _ (by refine ⟨?_, ?_, ?_, fun o => ?_⟩ <;> go_simp) (HL.out.ext bxx) (by omega) (by omega)).mono ?_
  rintro e w1 ⟨rfl, hd, hp⟩
  rw [hk0]
  rw [K1.out] at hd
  have hs1 := hp.size
  simp at hs1
  have hc1 : ∀ o, w1.cell? ⟨w.heap.size, o, none⟩ = _ := fun o => hp.cell o (by simp; omega) (by omega)
  have hf1 : ∀ o, w1.frozen? ⟨w.heap.size, o, none⟩ = _ := fun o => hp.frozen o (by simp; omega) (by omega)
  have hx1 : Ext w w1 := Below.trans bxx (hp.below (n := w.heap.size) (by omega) (by simp; omega))
  have z1 : ∀ o, o < 7 → w1.cell? ⟨w.heap.size, o, none⟩ = some (.int .i64 0) := by
    intro o ho
    rw [hc1]
    obtain rfl | rfl | rfl | rfl | rfl | rfl | rfl : o = 0 ∨ o = 1 ∨ o = 2 ∨ o = 3 ∨ o = 4 ∨ o = 5 ∨ o = 6 := by omega
    all_goals go_simp
  have y1 : ∀ o, w1.frozen? ⟨w.heap.size, o, none⟩ = false := by intro o; rw [hf1]; go_simp
  clear hc1 hf1 hp
  replace z1 := Lib.hid z1
  go_wp2_with fail
  refine (NX.out k1 13 _ hd (HL.out.ext hx1) (by omega) HK1.out).mono ?_
  rintro e w2 ⟨rfl, hd2, hp2⟩
  rw [V1.out]
  rw [K2.out] at hd2
  have hs2 := hp2.size
  have hx2 : Ext w w2 := Below.trans hx1 (hp2.below (n := w.heap.size) (by omega) (by omega))
  have z2 : ∀ o, o < 7 → w2.cell? ⟨w.heap.size, o, none⟩ = some (.int .i64 0) := fun o ho => (hp2.cell o (by omega) (by omega)).trans (z1.out o ho)
  have y2 : ∀ o, w2.frozen? ⟨w.heap.size, o, none⟩ = false := fun o => (hp2.frozen o (by omega) (by omega)).trans (y1 o)
  clear hp2 hd z1 y1
  replace z2 := Lib.hid z2
  go_wp2_with fail
  refine (NX.out k2 13 _ hd2 (HL.out.ext hx2) (by omega) HK2.out).mono ?_
  rintro e w3 ⟨rfl, hd3, hp3⟩
  rw [V2.out]
  rw [K3.out] at hd3
  have hs3 := hp3.size
  have hx3 : Ext w w3 := Below.trans hx2 (hp3.below (n := w.heap.size) (by omega) (by omega))
  have z3 : ∀ o, o < 7 → w3.cell? ⟨w.heap.size, o, none⟩ = some (.int .i64 0) := fun o ho => (hp3.cell o (by omega) (by omega)).trans (z2.out o ho)
  have y3 : ∀ o, w3.frozen? ⟨w.heap.size, o, none⟩ = false := fun o => (hp3.frozen o (by omega) (by omega)).trans (y2 o)
  clear hp3 hd2 z2 y2
  replace z3 := Lib.hid z3
  go_upto_region 6 with (fail)
  refine wp_world (fun W => Ext w W ∧ DrawAt W (w.heap.size + 1) a len cp k3 ∧ (∀ o, o < 7 → W.cell? ⟨w.heap.size, o, none⟩ = some (.int .i64 0)) ∧ (∀ o, W.frozen? ⟨w.heap.size, o, none⟩ = false) ∧ W.cell? ⟨w3.heap.size, 0, none⟩ = some (.int .i64 q1) ∧ W.cell? ⟨w3.heap.size, 1, none⟩ = some (.int .i64 q2) ∧ w3.heap.size < W.heap.size) ?_ ?_
  · have hA : ∀ o obj, o < w3.heap.size → (w3.alloc obj).heap[o]? = w3.heap[o]? := fun o obj h => Below.heap_alloc _ _ _ h
    refine ⟨bxx, hd3.ext bxx, fun o ho => (World.cell?_of_block (hA w.heap.size _ (by omega))).trans (z3.out o ho), fun o => (World.frozen?_of_block (hA w.heap.size _ (by omega))).trans (y3 o), by go_simp, by go_simp, by simp⟩
  rintro W5 ⟨hx5, hd5, z5, y5, c0, c1, hl5⟩
  clear hd3 z3 y3
  have hi5 := HL.out.ext hx5
  have hs5 := hx5.size
  have hne : 0 < len → ∀ x, a = some x → x.block ≠ w.heap.size + 1 := fun h0 x e => by have := hlt h0 x e; omega
  obtain ⟨P, hP⟩ : ∃ P, Hid (w3.heap.size = P) := ⟨_, rfl⟩
  rw [hP.out] at c0 c1 hl5 hs3 ⊢
  have hPn : P ≠ w.heap.size + 1 := by omega
  have hPq : P ≠ w.heap.size := by omega
  clear hP hx3 hx2 hx1
  go_wp2_with fail
  refine (NX.out k3 12 _ hd5 hi5 (by omega) HK3.out).mono ?_
  rintro e w6 ⟨rfl, hd6, hp6⟩
  rw [V3.out]
  rw [K4.out] at hd6
  have hs6 := hp6.size
  have hi6 := hp6.ints hi5 hne
  have hx6 : Ext w w6 := Below.trans hx5 (hp6.below (n := w.heap.size) (by omega) (by omega))
  have z6 : ∀ o, o < 7 → w6.cell? ⟨w.heap.size, o, none⟩ = some (.int .i64 0) := fun o ho => (hp6.cell o (by omega) (by omega)).trans (z5 o ho)
  have y6 : ∀ o, w6.frozen? ⟨w.heap.size, o, none⟩ = false := fun o => (hp6.frozen o (by omega) (by omega)).trans (y5 o)
  have d0 : w6.cell? ⟨P, 0, none⟩ = some (.int .i64 q1) := (hp6.cell 0 (by omega) hPn).trans c0
  have d1 : w6.cell? ⟨P, 1, none⟩ = some (.int .i64 q2) := (hp6.cell 1 (by omega) hPn).trans c1
  clear hp6 hd5 hi5 z5 y5 c0 c1
  replace z6 := Lib.hid z6
  go_wp2_with fail
  refine (NX.out k4 4 _ hd6 hi6 (by omega) HK4.out).mono ?_
  rintro e w7 ⟨rfl, hd7, hp7⟩
  rw [V4.out]
  have hs7 := hp7.size
  have hx7 : Ext w w7 := Below.trans hx6 (hp7.below (n := w.heap.size) (by omega) (by omega))
  have z7 : ∀ o, o < 7 → w7.cell? ⟨w.heap.size, o, none⟩ = some (.int .i64 0) := fun o ho => (hp7.cell o (by omega) (by omega)).trans (z6.out o ho)
  have y7 : ∀ o, w7.frozen? ⟨w.heap.size, o, none⟩ = false := fun o => (hp7.frozen o (by omega) (by omega)).trans (y6 o)
  have e0 : w7.cell? ⟨P, 0, none⟩ = some (.int .i64 q1) := (hp7.cell 0 (by omega) hPn).trans d0
  have e1 : w7.cell? ⟨P, 1, none⟩ = some (.int .i64 q2) := (hp7.cell 1 (by omega) hPn).trans d1
  clear hp7 hd6 hi6 z6 y6 d0 d1
  replace z7 := Lib.hid z7
  go_upto_region 8 with (fail)
  obtain ⟨M, hM⟩ : ∃ M, Hid (w7.heap.size = M) := ⟨_, rfl⟩
  refine wp_world (fun W => Ext w7 W ∧ W.cell? ⟨w7.heap.size, 0, none⟩ = some (.int .i64 0) ∧ W.cell? ⟨w7.heap.size, 1, none⟩ = some (.int .i64 0) ∧ W.cell? ⟨w7.heap.size, 2, none⟩ = some (.int .i64 ti) ∧ W.cell? ⟨w7.heap.size, 3, none⟩ = some (.bool false) ∧ w7.heap.size < W.heap.size) ?_ ?_
  · refine ⟨bxx, by go_simp, by go_simp, by go_simp, by go_simp, by simp⟩
  rintro W8 ⟨hx8, t0, t1, t2, t3, hl8⟩
  rw [hM.out] at t0 t1 t2 t3 hl8 ⊢
  go_wp2_with fail
  refine (AU.out _).mono ?_
  rintro e w9 ⟨rfl, hx9⟩
  have hq9 : ∀ b o, b < W8.heap.size → w9.cell? ⟨b, o, none⟩ = W8.cell? ⟨b, o, none⟩ := fun b o h => hx9.cell (p := ⟨b, o, none⟩) h
  have hs9 := hx9.size
  have r0 := (hq9 M 0 hl8).trans t0
  have r1 := (hq9 M 1 hl8).trans t1
  have r2 := (hq9 M 2 hl8).trans t2
  have r3 := (hq9 M 3 hl8).trans t3
  clear hq9 t0 t1 t2 t3
  go_upto_region 9 with (fail)
  obtain ⟨A, hA⟩ : ∃ A, Hid (w9.heap.size = A) := ⟨_, rfl⟩
  have hm9 : M < w9.heap.size := Nat.lt_of_lt_of_le hl8 hs9
  refine wp_world (fun W => Ext w9 W ∧ W.cell? ⟨M, 0, none⟩ = some (.int .i64 0) ∧ W.cell? ⟨M, 1, none⟩ = some (.int .i64 0) ∧ W.cell? ⟨M, 2, none⟩ = some (.int .i64 ti) ∧ W.cell? ⟨M, 3, none⟩ = some (.bool false) ∧ W.cell? ⟨w9.heap.size, 0, none⟩ = some (.int .i64 u1) ∧ W.cell? ⟨w9.heap.size, 1, none⟩ = some (.int .i64 u2) ∧ (∀ o, W.frozen? ⟨w9.heap.size, o, none⟩ = false) ∧ w9.heap.size < W.heap.size) ?_ ?_
  · refine ⟨bxx, by go_simp, by go_simp, by go_simp, by go_simp, by go_simp, by go_simp, fun o => by go_simp, by simp⟩
  clear r0 r1 r2 r3
  rintro W10 ⟨hx10, r0, r1, r2, r3, a0, a1, af, hl10⟩
  rw [hA.out] at a0 a1 af hl10 ⊢
  go_wp2_with fail
  refine (AV.out _).mono ?_
  rintro e w11 ⟨rfl, hx11⟩
  have hq11 : ∀ b o, b < W10.heap.size → w11.cell? ⟨b, o, none⟩ = W10.cell? ⟨b, o, none⟩ := fun b o h => hx11.cell (p := ⟨b, o, none⟩) h
  have hf11 : ∀ b o, b < W10.heap.size → w11.frozen? ⟨b, o, none⟩ = W10.frozen? ⟨b, o, none⟩ := fun b o h => hx11.frozen (p := ⟨b, o, none⟩) h
  have hs11 := hx11.size
  have s0 := (hq11 A 0 hl10).trans a0
  have s1 := (hq11 A 1 hl10).trans a1
  have sf : ∀ o, w11.frozen? ⟨A, o, none⟩ = false := fun o => (hf11 A o hl10).trans (af o)
  clear hq11 hf11 a0 a1 af r0 r1 r2 r3
  have hs8 := hx8.size
  have hs10 := hx10.size
  have HB : Ext w7 w11 := Ext.step (Ext.step (Ext.step hx8 hx9) hx10) hx11
  have hla : A < w11.heap.size := by omega
  have hlA : A ≠ w11.heap.size := by omega
  have hA7 : w7.heap.size ≤ A := by have h1 := hA.out; omega
  go_upto_region 12 with (fail)
  obtain ⟨B, hB⟩ : ∃ B, Hid (w11.heap.size = B) := ⟨_, rfl⟩
  refine wp_world (fun W => Below w11.heap.size w11 w11 ∧ Below w7.heap.size w11 W ∧ W.cell? ⟨A, 0, none⟩ = some (.int .i64 u1) ∧ W.cell? ⟨A, 1, none⟩ = some (.int .i64 u2) ∧ W.cell? ⟨w11.heap.size, 0, none⟩ = some (.int .i64 v1) ∧ W.cell? ⟨w11.heap.size, 1, none⟩ = some (.int .i64 v2) ∧ w11.heap.size < W.heap.size) ?_ ?_
  · refine ⟨Below.refl _ _, bxx, by go_simp, by go_simp, by go_simp, by go_simp, by first | (simp; done) | (simp; omega)⟩
  clear s0 s1 sf
  rintro W12 ⟨_, hx12, s0, s1, b0', b1', hl12⟩
  rw [hB.out] at b0' b1' hl12 ⊢
  have hx13 : Ext w7 W12 := HB.trans hx12
  have hx14 : Ext w W12 := Ext.step hx7 hx13
  have f0 : W12.cell? ⟨P, 0, none⟩ = some (.int .i64 q1) := (hx13.cell (p := ⟨P, 0, none⟩) (show P < w7.heap.size by omega)).trans e0
  have f1 : W12.cell? ⟨P, 1, none⟩ = some (.int .i64 q2) := (hx13.cell (p := ⟨P, 1, none⟩) (show P < w7.heap.size by omega)).trans e1
  have z8 : ∀ o, o < 7 → W12.cell? ⟨w.heap.size, o, none⟩ = some (.int .i64 0) := fun o ho => (hx13.cell (p := ⟨w.heap.size, o, none⟩) (show w.heap.size < w7.heap.size by omega)).trans (z7.out o ho)
  have y8 : ∀ o, W12.frozen? ⟨w.heap.size, o, none⟩ = false := fun o => (hx13.frozen (p := ⟨w.heap.size, o, none⟩) (show w.heap.size < w7.heap.size by omega)).trans (y7 o)
  have g0 := z8 0 (by omega)
  have g1 := z8 1 (by omega)
  have g2 := z8 2 (by omega)
  have g3 := z8 3 (by omega)
  have g4 := z8 4 (by omega)
  have g5 := z8 5 (by omega)
  have g6 := z8 6 (by omega)
  have hAn : A ≠ w.heap.size := by have h1 := hA.out; have h2 := hB.out; have h3 := hM.out; omega
  have hBn : B ≠ w.heap.size := by have h1 := hA.out; have h2 := hB.out; have h3 := hM.out; omega
  have hnA : w.heap.size ≠ A := by have h1 := hA.out; have h2 := hB.out; have h3 := hM.out; omega
  have hnB : w.heap.size ≠ B := by have h1 := hA.out; have h2 := hB.out; have h3 := hM.out; omega
  have hnP : w.heap.size ≠ P := by omega
  have hln : w.heap.size < W12.heap.size := by have h1 := hA.out; have h2 := hB.out; have h3 := hM.out; have h4 := hx13.size; omega
  have hlA : A < W12.heap.size := by have h1 := hA.out; have h2 := hB.out; have h3 := hM.out; have h4 := hx13.size; omega
  have hlP : P < W12.heap.size := by have h1 := hA.out; have h2 := hB.out; have h3 := hM.out; have h4 := hx13.size; omega
  have ws : W12.heap.size ≤ W12.heap.size := Nat.le_refl _
  obtain ⟨N, hN⟩ : ∃ N, N = W12.heap.size := ⟨_, rfl⟩
  rw [← hN] at hln hlA hlP hl12
  clear z8 z7 y7 e0 e1 hx13 hx12 HB
  first | refine wp_region_G (fun W => Ext w W ∧ N ≤ W.heap.size ∧ W.cell? ⟨P, 0, none⟩ = some (.int .i64 q1) ∧ W.cell? ⟨P, 1, none⟩ = some (.int .i64 q2) ∧ W.cell? ⟨A, 0, none⟩ = some (.int .i64 u1) ∧ W.cell? ⟨A, 1, none⟩ = some (.int .i64 u2) ∧ W.cell? ⟨B, 0, none⟩ = some (.int .i64 v1) ∧ W.cell? ⟨B, 1, none⟩ = some (.int .i64 v2)) (fun W => W.cell? ⟨w.heap.size, 0, none⟩ = some (.int .i64 0) ∧ W.cell? ⟨w.heap.size, 1, none⟩ = some (.int .i64 0) ∧ W.cell? ⟨w.heap.size, 2, none⟩ = some (.int .i64 0) ∧ W.cell? ⟨w.heap.size, 3, none⟩ = some (.int .i64 0) ∧ W.cell? ⟨w.heap.size, 4, none⟩ = some (.int .i64 0) ∧ W.cell? ⟨w.heap.size, 5, none⟩ = some (.int .i64 0) ∧ W.cell? ⟨w.heap.size, 6, none⟩ = some (.int .i64 0) ∧ (∀ o, W.frozen? ⟨w.heap.size, o, none⟩ = false)) (by kernel_rfl) (by kernel_rfl) ?_ ?_ ?_ ?_ | refine wp_region_Gs (fun W => Ext w W ∧ N ≤ W.heap.size ∧ W.cell? ⟨P, 0, none⟩ = some (.int .i64 q1) ∧ W.cell? ⟨P, 1, none⟩ = some (.int .i64 q2) ∧ W.cell? ⟨A, 0, none⟩ = some (.int .i64 u1) ∧ W.cell? ⟨A, 1, none⟩ = some (.int .i64 u2) ∧ W.cell? ⟨B, 0, none⟩ = some (.int .i64 v1) ∧ W.cell? ⟨B, 1, none⟩ = some (.int .i64 v2)) (fun W => W.cell? ⟨w.heap.size, 0, none⟩ = some (.int .i64 0) ∧ W.cell? ⟨w.heap.size, 1, none⟩ = some (.int .i64 0) ∧ W.cell? ⟨w.heap.size, 2, none⟩ = some (.int .i64 0) ∧ W.cell? ⟨w.heap.size, 3, none⟩ = some (.int .i64 0) ∧ W.cell? ⟨w.heap.size, 4, none⟩ = some (.int .i64 0) ∧ W.cell? ⟨w.heap.size, 5, none⟩ = some (.int .i64 0) ∧ W.cell? ⟨w.heap.size, 6, none⟩ = some (.int .i64 0) ∧ (∀ o, W.frozen? ⟨w.heap.size, o, none⟩ = false)) ?_ ?_ ?_ ?_
  · refine ⟨⟨bxx, by first | omega | (simp; done) | (simp; omega), ?_⟩, ?_⟩ <;> (try go_simp)
  · (intro W W' h hb; obtain ⟨⟨hx, hz, hc⟩, hr⟩ := h; have hbc : ∀ b o, b < W.heap.size → W'.cell? ⟨b, o, none⟩ = W.cell? ⟨b, o, none⟩ := fun b o h => hb.cell (p := ⟨b, o, none⟩) h; have hbf : ∀ b o, b < W.heap.size → W'.frozen? ⟨b, o, none⟩ = W.frozen? ⟨b, o, none⟩ := fun b o h => hb.frozen (p := ⟨b, o, none⟩) h; refine ⟨⟨hx.step hb, Nat.le_trans hz hb.size, ?_⟩, ?_⟩ <;> (simp (disch := omega) only [hbc, hbf]; assumption))
  · (intro W h; have h2 := h.2.1; first | omega | (simp; omega))
  repeat (first | refine F_s ?_ | refine F_r ?_)
  (refine F_call (v := .agg #[.int .i64 (q1 + u1), .int .i64 (q2 + u2)]) (by rfl) (by rfl) ?_ ?_; (· (intro W hW; (try dsimp only at hW); go_simp; refine (SU.out _).mono ?_; rintro e w' ⟨rfl, hx⟩; exact ⟨_, rfl, rfl, hx⟩))); refine F_put ?_
  repeat (first | refine F_s ?_ | refine F_r ?_)
  (refine F_call (v := .agg #[.int .i64 (q1 + v1), .int .i64 (q2 + v2)]) (by rfl) (by rfl) ?_ ?_; (· (intro W hW; (try dsimp only at hW); go_simp; refine (SV.out _).mono ?_; rintro e w' ⟨rfl, hx⟩; exact ⟨_, rfl, rfl, hx⟩))); refine F_put ?_
  repeat (first | refine F_s ?_ | refine F_r ?_)
  refine F_store (fun W => (Ext w W ∧ N ≤ W.heap.size ∧ W.cell? ⟨P, 0, none⟩ = some (.int .i64 q1) ∧ W.cell? ⟨P, 1, none⟩ = some (.int .i64 q2) ∧ W.cell? ⟨A, 0, none⟩ = some (.int .i64 u1) ∧ W.cell? ⟨A, 1, none⟩ = some (.int .i64 u2) ∧ W.cell? ⟨B, 0, none⟩ = some (.int .i64 v1) ∧ W.cell? ⟨B, 1, none⟩ = some (.int .i64 v2)) ∧ (W.cell? ⟨w.heap.size, 0, none⟩ = some (.int .i64 2) ∧ W.cell? ⟨w.heap.size, 1, none⟩ = some (.int .i64 (q1+u1)) ∧ W.cell? ⟨w.heap.size, 2, none⟩ = some (.int .i64 (q2+u2)) ∧ W.cell? ⟨w.heap.size, 3, none⟩ = some (.int .i64 (q1+v1)) ∧ W.cell? ⟨w.heap.size, 4, none⟩ = some (.int .i64 (q2+v2)) ∧ W.cell? ⟨w.heap.size, 5, none⟩ = some (.int .i64 q1) ∧ W.cell? ⟨w.heap.size, 6, none⟩ = some (.int .i64 q2) ∧ (∀ o, W.frozen? ⟨w.heap.size, o, none⟩ = false))) ?_ (fun _ h => h.1) (by rfl) (by rfl) ?_ ?_
  · (intro W W' h hb; obtain ⟨⟨hx, hz, hc⟩, hr⟩ := h; have hbc : ∀ b o, b < W.heap.size → W'.cell? ⟨b, o, none⟩ = W.cell? ⟨b, o, none⟩ := fun b o h => hb.cell (p := ⟨b, o, none⟩) h; have hbf : ∀ b o, b < W.heap.size → W'.frozen? ⟨b, o, none⟩ = W.frozen? ⟨b, o, none⟩ := fun b o h => hb.frozen (p := ⟨b, o, none⟩) h; refine ⟨⟨hx.step hb, Nat.le_trans hz hb.size, ?_⟩, ?_⟩ <;> (simp (disch := omega) only [hbc, hbf]; assumption))
  · (intro W hW; obtain ⟨⟨hx, hz, hc⟩, hr⟩ := hW; go_simp; (try dsimp only); (repeat' apply And.intro) <;> first | with_reducible assumption | (go_simp; done) | ((repeat (refine Below.setCell ?_ (by first | exact Nat.le_refl _ | omega) _)); exact hx) | omega | (simp; done) | (simp; omega))
  refine F_put ?_
  repeat (first | refine F_s ?_ | refine F_r ?_)
  rintro W ⟨⟨⟨hx1, hz, hc⟩, hr⟩, _⟩
  clear hc
  go_wp2
  exact bodyPost_ret (v := .agg #[.int .i64 2, .int .i64 (q1 + u1), .int .i64 (q2 + u2), .int .i64 (q1 + v1), .int .i64 (q2 + v2), .int .i64 q1, .int .i64 q2]) (by simp [results, Tryz.results6, go_sem, *]) rfl ⟨rfl, hx1⟩
set_option maxRecDepth 100000 in
set_option maxHeartbeats 4000000 in
theorem r07_Made_3 (L : List Int) (a : Option Addr) (len cp : Nat) (f : Int) (w : World) (hL : Ints w a len L) (hcp : len ≤ cp ∧ cp ≤ 9223372036854775807) (hf : 1 ≤ f ∧ f ≤ 1048576) (hk0 : nextV L 0 3 = 2)
    (q1 q2 r ti u1 u2 v1 v2 : Int) (Q1 : Hid (f * (nextV L (nextK L 0) 13 + 6) = q1)) (Q2 : Hid (f * (nextV L (nextK L (nextK L 0)) 13 + 6) = q2)) (Q3 : Hid (f * (1 + nextV L (nextK L (nextK L (nextK L 0))) 12) = r)) (Q4 : Hid (nextV L (nextK L (nextK L (nextK L (nextK L 0)))) 4 = ti))
    (U : Hid ((u1, u2) = rot ti.toNat (r, 0))) (V : Hid ((v1, v2) = rot ti.toNat (0, r))) :
    Calls Tryz.prog 6 #[.slice a len cp, .int .i64 f] w fun e w' => e = .returned (.agg #[.int .i64 3, .int .i64 (q1 + v1), .int .i64 (q2 + v2), .int .i64 (q1 + u1), .int .i64 (q2 + u2), .int .i64 q1, .int .i64 q2]) ∧ Ext w w' := by
  have hlt := hL.lt
  have NX := Lib.hid (fun (k : Nat) (n : Int) (W : World) (hd : DrawAt W (w.heap.size + 1) a len cp k) (hL' : Ints W a len L) (hn : 0 < n ∧ n ≤ 4294967296) (hk : k ≤ len) => r01_Next L (w.heap.size + 1) a len cp k n W hd hL' (fun h0 x e => by have := hlt h0 x e; omega) hn hk)
  have KB : ∀ k, k ≤ len → nextK L k ≤ len := fun k hk => by have := hL.1; unfold nextK; split <;> omega
  have b0 := nextV_bd L (nextK L 0) (n := 13) (by omega)
  have b1 := nextV_bd L (nextK L (nextK L 0)) (n := 13) (by omega)
  have b2 := nextV_bd L (nextK L (nextK L (nextK L 0))) (n := 12) (by omega)
  have b3 := nextV_bd L (nextK L (nextK L (nextK L (nextK L 0)))) (n := 4) (by omega)
  have HK1 := Lib.hid (KB 0 (by omega))
  have HK2 := Lib.hid (KB _ HK1.out)
  have HK3 := Lib.hid (KB _ HK2.out)
  have HK4 := Lib.hid (KB _ HK3.out)
  clear KB
  have HL := Lib.hid hL
  clear hL
  have m0 := fac_bd hf (x := nextV L (nextK L 0) 13 + 6) (by omega) (m := 18) (by omega) (by omega)
  have m1 := fac_bd hf (x := nextV L (nextK L (nextK L 0)) 13 + 6) (by omega) (m := 18) (by omega) (by omega)
  have m2 := fac_bd hf (x := 1 + nextV L (nextK L (nextK L (nextK L 0))) 12) (by omega) (m := 12) (by omega) (by omega)
  rw [Q1.out] at m0
  rw [Q2.out] at m1
  rw [Q3.out] at m2
  rw [Q4.out] at b3
  obtain ⟨x1, V1⟩ : ∃ v, Hid (nextV L (nextK L 0) 13 = v) := ⟨_, rfl⟩
  obtain ⟨x2, V2⟩ : ∃ v, Hid (nextV L (nextK L (nextK L 0)) 13 = v) := ⟨_, rfl⟩
  obtain ⟨x3, V3⟩ : ∃ v, Hid (nextV L (nextK L (nextK L (nextK L 0))) 12 = v) := ⟨_, rfl⟩
  rw [V1.out] at b0 Q1
  rw [V2.out] at b1 Q2
  rw [V3.out] at b2 Q3
  have V4 := Q4
  obtain ⟨k1, K1⟩ : ∃ v, Hid (nextK L 0 = v) := ⟨_, rfl⟩
  rw [K1.out] at HK1 HK2 HK3 HK4 V1 V2 V3 V4
  obtain ⟨k2, K2⟩ : ∃ v, Hid (nextK L k1 = v) := ⟨_, rfl⟩
  rw [K2.out] at HK2 HK3 HK4 V2 V3 V4
  obtain ⟨k3, K3⟩ : ∃ v, Hid (nextK L k2 = v) := ⟨_, rfl⟩
  rw [K3.out] at HK3 HK4 V3 V4
  obtain ⟨k4, K4⟩ : ∃ v, Hid (nextK L k3 = v) := ⟨_, rfl⟩
  rw [K4.out] at HK4 V4
  have p1 : IntKind.i64.wrap (f * (x1 + 6)) = q1 := by rw [Q1.out]; exact wrap_in (by unfold I64; omega)
  have p2 : IntKind.i64.wrap (f * (x2 + 6)) = q2 := by rw [Q2.out]; exact wrap_in (by unfold I64; omega)
  have p3 : IntKind.i64.wrap (f * (1 + x3)) = r := by rw [Q3.out]; exact wrap_in (by unfold I64; omega)
  have bu := rot_le (p := (r, 0)) (m := 12582912) ⟨by simp; omega, by simp; omega⟩ ⟨by simp, by simp⟩ ti.toNat
  have bv := rot_le (p := (0, r)) (m := 12582912) ⟨by simp, by simp⟩ ⟨by simp; omega, by simp; omega⟩ ti.toNat
  have AU := fun w => r05_Apply 0 0 ti r 0 false w (by omega) (by unfold Lo; omega) (by unfold Lo; omega) (by unfold Lo; omega) (by unfold Lo; omega)
  have AV := fun w => r05_Apply 0 0 ti 0 r false w (by omega) (by unfold Lo; omega) (by unfold Lo; omega) (by unfold Lo; omega) (by unfold Lo; omega)
  have eu : applyP 0 0 ti false r 0 = (u1, u2) := by rw [U.out]; simp [applyP, mir]
  have ev : applyP 0 0 ti false 0 r = (v1, v2) := by rw [V.out]; simp [applyP, mir]
  rw [eu] at AU
  rw [ev] at AV
  rw [← U.out] at bu
  rw [← V.out] at bv
  simp only at bu bv AU AV
  have SU := Lib.hid (fun w => r05_Add q1 q2 u1 u2 w (by unfold I64; omega) (by unfold I64; omega))
  have SV := Lib.hid (fun w => r05_Add q1 q2 v1 v2 w (by unfold I64; omega) (by unfold I64; omega))
  replace AU := Lib.hid AU
  replace AV := Lib.hid AV
  clear eu ev bu bv b3 Q4
  go_enter Tryz.func6, Tryz.ntmps6
  go_wp2_with fail
  refine (NX.out 0 3 _ (by refine ⟨?_, ?_, ?_, fun o => ?_⟩ <;> go_simp) (HL.out.ext bxx) (by omega) (by omega)).mono ?_
  rintro e w1 ⟨rfl, hd, hp⟩
  rw [hk0]
  rw [K1.out] at hd
  have hs1 := hp.size
  simp at hs1
  have hc1 : ∀ o, w1.cell? ⟨w.heap.size, o, none⟩ = _ := fun o => hp.cell o (by simp; omega) (by omega)
  have hf1 : ∀ o, w1.frozen? ⟨w.heap.size, o, none⟩ = _ := fun o => hp.frozen o (by simp; omega) (by omega)
  have hx1 : Ext w w1 := Below.trans bxx (hp.below (n := w.heap.size) (by omega) (by simp; omega))
  have z1 : ∀ o, o < 7 → w1.cell? ⟨w.heap.size, o, none⟩ = some (.int .i64 0) := by
    intro o ho
    rw [hc1]
    obtain rfl | rfl | rfl | rfl | rfl | rfl | rfl : o = 0 ∨ o = 1 ∨ o = 2 ∨ o = 3 ∨ o = 4 ∨ o = 5 ∨ o = 6 := by omega
    all_goals go_simp
  have y1 : ∀ o, w1.frozen? ⟨w.heap.size, o, none⟩ = false := by intro o; rw [hf1]; go_simp
  clear hc1 hf1 hp
  replace z1 := Lib.hid z1
  go_wp2_with fail
  refine (NX.out k1 13 _ hd (HL.out.ext hx1) (by omega) HK1.out).mono ?_
  rintro e w2 ⟨rfl, hd2, hp2⟩
  rw [V1.out]
  rw [K2.out] at hd2
  have hs2 := hp2.size
  have hx2 : Ext w w2 := Below.trans hx1 (hp2.below (n := w.heap.size) (by omega) (by omega))
  have z2 : ∀ o, o < 7 → w2.cell? ⟨w.heap.size, o, none⟩ = some (.int .i64 0) := fun o ho => (hp2.cell o (by omega) (by omega)).trans (z1.out o ho)
  have y2 : ∀ o, w2.frozen? ⟨w.heap.size, o, none⟩ = false := fun o => (hp2.frozen o (by omega) (by omega)).trans (y1 o)
  clear hp2 hd z1 y1
  replace z2 := Lib.hid z2
  go_wp2_with fail
  refine (NX.out k2 13 _ hd2 (HL.out.ext hx2) (by omega) HK2.out).mono ?_
  rintro e w3 ⟨rfl, hd3, hp3⟩
  rw [V2.out]
  rw [K3.out] at hd3
  have hs3 := hp3.size
  have hx3 : Ext w w3 := Below.trans hx2 (hp3.below (n := w.heap.size) (by omega) (by omega))
  have z3 : ∀ o, o < 7 → w3.cell? ⟨w.heap.size, o, none⟩ = some (.int .i64 0) := fun o ho => (hp3.cell o (by omega) (by omega)).trans (z2.out o ho)
  have y3 : ∀ o, w3.frozen? ⟨w.heap.size, o, none⟩ = false := fun o => (hp3.frozen o (by omega) (by omega)).trans (y2 o)
  clear hp3 hd2 z2 y2
  replace z3 := Lib.hid z3
  go_upto_region 6 with (fail)
  refine wp_world (fun W => Ext w W ∧ DrawAt W (w.heap.size + 1) a len cp k3 ∧ (∀ o, o < 7 → W.cell? ⟨w.heap.size, o, none⟩ = some (.int .i64 0)) ∧ (∀ o, W.frozen? ⟨w.heap.size, o, none⟩ = false) ∧ W.cell? ⟨w3.heap.size, 0, none⟩ = some (.int .i64 q1) ∧ W.cell? ⟨w3.heap.size, 1, none⟩ = some (.int .i64 q2) ∧ w3.heap.size < W.heap.size) ?_ ?_
  · have hA : ∀ o obj, o < w3.heap.size → (w3.alloc obj).heap[o]? = w3.heap[o]? := fun o obj h => Below.heap_alloc _ _ _ h
    refine ⟨bxx, hd3.ext bxx, fun o ho => (World.cell?_of_block (hA w.heap.size _ (by omega))).trans (z3.out o ho), fun o => (World.frozen?_of_block (hA w.heap.size _ (by omega))).trans (y3 o), by go_simp, by go_simp, by simp⟩
  rintro W5 ⟨hx5, hd5, z5, y5, c0, c1, hl5⟩
  clear hd3 z3 y3
  have hi5 := HL.out.ext hx5
  have hs5 := hx5.size
  have hne : 0 < len → ∀ x, a = some x → x.block ≠ w.heap.size + 1 := fun h0 x e => by have := hlt h0 x e; omega
  obtain ⟨P, hP⟩ : ∃ P, Hid (w3.heap.size = P) := ⟨_, rfl⟩
  rw [hP.out] at c0 c1 hl5 hs3 ⊢
  have hPn : P ≠ w.heap.size + 1 := by omega
  have hPq : P ≠ w.heap.size := by omega
  clear hP hx3 hx2 hx1
  go_wp2_with fail
  refine (NX.out k3 12 _ hd5 hi5 (by omega) HK3.out).mono ?_
  rintro e w6 ⟨rfl, hd6, hp6⟩
  rw [V3.out]
  rw [K4.out] at hd6
  have hs6 := hp6.size
  have hi6 := hp6.ints hi5 hne
  have hx6 : Ext w w6 := Below.trans hx5 (hp6.below (n := w.heap.size) (by omega) (by omega))
  have z6 : ∀ o, o < 7 → w6.cell? ⟨w.heap.size, o, none⟩ = some (.int .i64 0) := fun o ho => (hp6.cell o (by omega) (by omega)).trans (z5 o ho)
  have y6 : ∀ o, w6.frozen? ⟨w.heap.size, o, none⟩ = false := fun o => (hp6.frozen o (by omega) (by omega)).trans (y5 o)
  have d0 : w6.cell? ⟨P, 0, none⟩ = some (.int .i64 q1) := (hp6.cell 0 (by omega) hPn).trans c0
  have d1 : w6.cell? ⟨P, 1, none⟩ = some (.int .i64 q2) := (hp6.cell 1 (by omega) hPn).trans c1
  clear hp6 hd5 hi5 z5 y5 c0 c1
  replace z6 := Lib.hid z6
  go_wp2_with fail
  refine (NX.out k4 4 _ hd6 hi6 (by omega) HK4.out).mono ?_
  rintro e w7 ⟨rfl, hd7, hp7⟩
  rw [V4.out]
  have hs7 := hp7.size
  have hx7 : Ext w w7 := Below.trans hx6 (hp7.below (n := w.heap.size) (by omega) (by omega))
  have z7 : ∀ o, o < 7 → w7.cell? ⟨w.heap.size, o, none⟩ = some (.int .i64 0) := fun o ho => (hp7.cell o (by omega) (by omega)).trans (z6.out o ho)
  have y7 : ∀ o, w7.frozen? ⟨w.heap.size, o, none⟩ = false := fun o => (hp7.frozen o (by omega) (by omega)).trans (y6 o)
  have e0 : w7.cell? ⟨P, 0, none⟩ = some (.int .i64 q1) := (hp7.cell 0 (by omega) hPn).trans d0
  have e1 : w7.cell? ⟨P, 1, none⟩ = some (.int .i64 q2) := (hp7.cell 1 (by omega) hPn).trans d1
  clear hp7 hd6 hi6 z6 y6 d0 d1
  replace z7 := Lib.hid z7
  go_upto_region 8 with (fail)
  obtain ⟨M, hM⟩ : ∃ M, Hid (w7.heap.size = M) := ⟨_, rfl⟩
  refine wp_world (fun W => Ext w7 W ∧ W.cell? ⟨w7.heap.size, 0, none⟩ = some (.int .i64 0) ∧ W.cell? ⟨w7.heap.size, 1, none⟩ = some (.int .i64 0) ∧ W.cell? ⟨w7.heap.size, 2, none⟩ = some (.int .i64 ti) ∧ W.cell? ⟨w7.heap.size, 3, none⟩ = some (.bool false) ∧ w7.heap.size < W.heap.size) ?_ ?_
  · refine ⟨bxx, by go_simp, by go_simp, by go_simp, by go_simp, by simp⟩
  rintro W8 ⟨hx8, t0, t1, t2, t3, hl8⟩
  rw [hM.out] at t0 t1 t2 t3 hl8 ⊢
  go_wp2_with fail
  refine (AU.out _).mono ?_
  rintro e w9 ⟨rfl, hx9⟩
  have hq9 : ∀ b o, b < W8.heap.size → w9.cell? ⟨b, o, none⟩ = W8.cell? ⟨b, o, none⟩ := fun b o h => hx9.cell (p := ⟨b, o, none⟩) h
  have hs9 := hx9.size
  have r0 := (hq9 M 0 hl8).trans t0
  have r1 := (hq9 M 1 hl8).trans t1
  have r2 := (hq9 M 2 hl8).trans t2
  have r3 := (hq9 M 3 hl8).trans t3
  clear hq9 t0 t1 t2 t3
  go_upto_region 9 with (fail)
  obtain ⟨A, hA⟩ : ∃ A, Hid (w9.heap.size = A) := ⟨_, rfl⟩
  have hm9 : M < w9.heap.size := Nat.lt_of_lt_of_le hl8 hs9
  refine wp_world (fun W => Ext w9 W ∧ W.cell? ⟨M, 0, none⟩ = some (.int .i64 0) ∧ W.cell? ⟨M, 1, none⟩ = some (.int .i64 0) ∧ W.cell? ⟨M, 2, none⟩ = some (.int .i64 ti) ∧ W.cell? ⟨M, 3, none⟩ = some (.bool false) ∧ W.cell? ⟨w9.heap.size, 0, none⟩ = some (.int .i64 u1) ∧ W.cell? ⟨w9.heap.size, 1, none⟩ = some (.int .i64 u2) ∧ (∀ o, W.frozen? ⟨w9.heap.size, o, none⟩ = false) ∧ w9.heap.size < W.heap.size) ?_ ?_
  · refine ⟨bxx, by go_simp, by go_simp, by go_simp, by go_simp, by go_simp, by go_simp, fun o => by go_simp, by simp⟩
  clear r0 r1 r2 r3
  rintro W10 ⟨hx10, r0, r1, r2, r3, a0, a1, af, hl10⟩
  rw [hA.out] at a0 a1 af hl10 ⊢
  go_wp2_with fail
  refine (AV.out _).mono ?_
  rintro e w11 ⟨rfl, hx11⟩
  have hq11 : ∀ b o, b < W10.heap.size → w11.cell? ⟨b, o, none⟩ = W10.cell? ⟨b, o, none⟩ := fun b o h => hx11.cell (p := ⟨b, o, none⟩) h
  have hf11 : ∀ b o, b < W10.heap.size → w11.frozen? ⟨b, o, none⟩ = W10.frozen? ⟨b, o, none⟩ := fun b o h => hx11.frozen (p := ⟨b, o, none⟩) h
  have hs11 := hx11.size
  have s0 := (hq11 A 0 hl10).trans a0
  have s1 := (hq11 A 1 hl10).trans a1
  have sf : ∀ o, w11.frozen? ⟨A, o, none⟩ = false := fun o => (hf11 A o hl10).trans (af o)
  clear hq11 hf11 a0 a1 af r0 r1 r2 r3
  have hs8 := hx8.size
  have hs10 := hx10.size
  have HB : Ext w7 w11 := Ext.step (Ext.step (Ext.step hx8 hx9) hx10) hx11
  have hla : A < w11.heap.size := by omega
  have hlA : A ≠ w11.heap.size := by omega
  have hA7 : w7.heap.size ≤ A := by have h1 := hA.out; omega
  go_upto_region 12 with (fail)
  obtain ⟨B, hB⟩ : ∃ B, Hid (w11.heap.size = B) := ⟨_, rfl⟩
  refine wp_world (fun W => Below w11.heap.size w11 w11 ∧ Below w7.heap.size w11 W ∧ W.cell? ⟨A, 0, none⟩ = some (.int .i64 v1) ∧ W.cell? ⟨A, 1, none⟩ = some (.int .i64 v2) ∧ W.cell? ⟨w11.heap.size, 0, none⟩ = some (.int .i64 u1) ∧ W.cell? ⟨w11.heap.size, 1, none⟩ = some (.int .i64 u2) ∧ w11.heap.size < W.heap.size) ?_ ?_
  · refine ⟨Below.refl _ _, bxx, by go_simp, by go_simp, by go_simp, by go_simp, by first | (simp; done) | (simp; omega)⟩
  clear s0 s1 sf
  rintro W12 ⟨_, hx12, s0, s1, b0', b1', hl12⟩
  rw [hB.out] at b0' b1' hl12 ⊢
  have hx13 : Ext w7 W12 := HB.trans hx12
  have hx14 : Ext w W12 := Ext.step hx7 hx13
  have f0 : W12.cell? ⟨P, 0, none⟩ = some (.int .i64 q1) := (hx13.cell (p := ⟨P, 0, none⟩) (show P < w7.heap.size by omega)).trans e0
  have f1 : W12.cell? ⟨P, 1, none⟩ = some (.int .i64 q2) := (hx13.cell (p := ⟨P, 1, none⟩) (show P < w7.heap.size by omega)).trans e1
  have z8 : ∀ o, o < 7 → W12.cell? ⟨w.heap.size, o, none⟩ = some (.int .i64 0) := fun o ho => (hx13.cell (p := ⟨w.heap.size, o, none⟩) (show w.heap.size < w7.heap.size by omega)).trans (z7.out o ho)
  have y8 : ∀ o, W12.frozen? ⟨w.heap.size, o, none⟩ = false := fun o => (hx13.frozen (p := ⟨w.heap.size, o, none⟩) (show w.heap.size < w7.heap.size by omega)).trans (y7 o)
  have g0 := z8 0 (by omega)
  have g1 := z8 1 (by omega)
  have g2 := z8 2 (by omega)
  have g3 := z8 3 (by omega)
  have g4 := z8 4 (by omega)
  have g5 := z8 5 (by omega)
  have g6 := z8 6 (by omega)
  have hAn : A ≠ w.heap.size := by have h1 := hA.out; have h2 := hB.out; have h3 := hM.out; omega
  have hBn : B ≠ w.heap.size := by have h1 := hA.out; have h2 := hB.out; have h3 := hM.out; omega
  have hnA : w.heap.size ≠ A := by have h1 := hA.out; have h2 := hB.out; have h3 := hM.out; omega
  have hnB : w.heap.size ≠ B := by have h1 := hA.out; have h2 := hB.out; have h3 := hM.out; omega
  have hnP : w.heap.size ≠ P := by omega
  have hln : w.heap.size < W12.heap.size := by have h1 := hA.out; have h2 := hB.out; have h3 := hM.out; have h4 := hx13.size; omega
  have hlA : A < W12.heap.size := by have h1 := hA.out; have h2 := hB.out; have h3 := hM.out; have h4 := hx13.size; omega
  have hlP : P < W12.heap.size := by have h1 := hA.out; have h2 := hB.out; have h3 := hM.out; have h4 := hx13.size; omega
  have ws : W12.heap.size ≤ W12.heap.size := Nat.le_refl _
  obtain ⟨N, hN⟩ : ∃ N, N = W12.heap.size := ⟨_, rfl⟩
  rw [← hN] at hln hlA hlP hl12
  clear z8 z7 y7 e0 e1 hx13 hx12 HB
  first | refine wp_region_G (fun W => Ext w W ∧ N ≤ W.heap.size ∧ W.cell? ⟨P, 0, none⟩ = some (.int .i64 q1) ∧ W.cell? ⟨P, 1, none⟩ = some (.int .i64 q2) ∧ W.cell? ⟨A, 0, none⟩ = some (.int .i64 v1) ∧ W.cell? ⟨A, 1, none⟩ = some (.int .i64 v2) ∧ W.cell? ⟨B, 0, none⟩ = some (.int .i64 u1) ∧ W.cell? ⟨B, 1, none⟩ = some (.int .i64 u2)) (fun W => W.cell? ⟨w.heap.size, 0, none⟩ = some (.int .i64 0) ∧ W.cell? ⟨w.heap.size, 1, none⟩ = some (.int .i64 0) ∧ W.cell? ⟨w.heap.size, 2, none⟩ = some (.int .i64 0) ∧ W.cell? ⟨w.heap.size, 3, none⟩ = some (.int .i64 0) ∧ W.cell? ⟨w.heap.size, 4, none⟩ = some (.int .i64 0) ∧ W.cell? ⟨w.heap.size, 5, none⟩ = some (.int .i64 0) ∧ W.cell? ⟨w.heap.size, 6, none⟩ = some (.int .i64 0) ∧ (∀ o, W.frozen? ⟨w.heap.size, o, none⟩ = false)) (by kernel_rfl) (by kernel_rfl) ?_ ?_ ?_ ?_ | refine wp_region_Gs (fun W => Ext w W ∧ N ≤ W.heap.size ∧ W.cell? ⟨P, 0, none⟩ = some (.int .i64 q1) ∧ W.cell? ⟨P, 1, none⟩ = some (.int .i64 q2) ∧ W.cell? ⟨A, 0, none⟩ = some (.int .i64 v1) ∧ W.cell? ⟨A, 1, none⟩ = some (.int .i64 v2) ∧ W.cell? ⟨B, 0, none⟩ = some (.int .i64 u1) ∧ W.cell? ⟨B, 1, none⟩ = some (.int .i64 u2)) (fun W => W.cell? ⟨w.heap.size, 0, none⟩ = some (.int .i64 0) ∧ W.cell? ⟨w.heap.size, 1, none⟩ = some (.int .i64 0) ∧ W.cell? ⟨w.heap.size, 2, none⟩ = some (.int .i64 0) ∧ W.cell? ⟨w.heap.size, 3, none⟩ = some (.int .i64 0) ∧ W.cell? ⟨w.heap.size, 4, none⟩ = some (.int .i64 0) ∧ W.cell? ⟨w.heap.size, 5, none⟩ = some (.int .i64 0) ∧ W.cell? ⟨w.heap.size, 6, none⟩ = some (.int .i64 0) ∧ (∀ o, W.frozen? ⟨w.heap.size, o, none⟩ = false)) ?_ ?_ ?_ ?_
  · refine ⟨⟨bxx, by first | omega | (simp; done) | (simp; omega), ?_⟩, ?_⟩ <;> (try go_simp)
  · (intro W W' h hb; obtain ⟨⟨hx, hz, hc⟩, hr⟩ := h; have hbc : ∀ b o, b < W.heap.size → W'.cell? ⟨b, o, none⟩ = W.cell? ⟨b, o, none⟩ := fun b o h => hb.cell (p := ⟨b, o, none⟩) h; have hbf : ∀ b o, b < W.heap.size → W'.frozen? ⟨b, o, none⟩ = W.frozen? ⟨b, o, none⟩ := fun b o h => hb.frozen (p := ⟨b, o, none⟩) h; refine ⟨⟨hx.step hb, Nat.le_trans hz hb.size, ?_⟩, ?_⟩ <;> (simp (disch := omega) only [hbc, hbf]; assumption))
  · (intro W h; have h2 := h.2.1; first | omega | (simp; omega))
  repeat (first | refine F_s ?_ | refine F_r ?_)
  (refine F_call (v := .agg #[.int .i64 (q1 + v1), .int .i64 (q2 + v2)]) (by rfl) (by rfl) ?_ ?_; (· (intro W hW; (try dsimp only at hW); go_simp; refine (SV.out _).mono ?_; rintro e w' ⟨rfl, hx⟩; exact ⟨_, rfl, rfl, hx⟩))); refine F_put ?_
  repeat (first | refine F_s ?_ | refine F_r ?_)
  (refine F_call (v := .agg #[.int .i64 (q1 + u1), .int .i64 (q2 + u2)]) (by rfl) (by rfl) ?_ ?_; (· (intro W hW; (try dsimp only at hW); go_simp; refine (SU.out _).mono ?_; rintro e w' ⟨rfl, hx⟩; exact ⟨_, rfl, rfl, hx⟩))); refine F_put ?_
  repeat (first | refine F_s ?_ | refine F_r ?_)
  refine F_store (fun W => (Ext w W ∧ N ≤ W.heap.size ∧ W.cell? ⟨P, 0, none⟩ = some (.int .i64 q1) ∧ W.cell? ⟨P, 1, none⟩ = some (.int .i64 q2) ∧ W.cell? ⟨A, 0, none⟩ = some (.int .i64 v1) ∧ W.cell? ⟨A, 1, none⟩ = some (.int .i64 v2) ∧ W.cell? ⟨B, 0, none⟩ = some (.int .i64 u1) ∧ W.cell? ⟨B, 1, none⟩ = some (.int .i64 u2)) ∧ (W.cell? ⟨w.heap.size, 0, none⟩ = some (.int .i64 3) ∧ W.cell? ⟨w.heap.size, 1, none⟩ = some (.int .i64 (q1+v1)) ∧ W.cell? ⟨w.heap.size, 2, none⟩ = some (.int .i64 (q2+v2)) ∧ W.cell? ⟨w.heap.size, 3, none⟩ = some (.int .i64 (q1+u1)) ∧ W.cell? ⟨w.heap.size, 4, none⟩ = some (.int .i64 (q2+u2)) ∧ W.cell? ⟨w.heap.size, 5, none⟩ = some (.int .i64 q1) ∧ W.cell? ⟨w.heap.size, 6, none⟩ = some (.int .i64 q2) ∧ (∀ o, W.frozen? ⟨w.heap.size, o, none⟩ = false))) ?_ (fun _ h => h.1) (by rfl) (by rfl) ?_ ?_
  · (intro W W' h hb; obtain ⟨⟨hx, hz, hc⟩, hr⟩ := h; have hbc : ∀ b o, b < W.heap.size → W'.cell? ⟨b, o, none⟩ = W.cell? ⟨b, o, none⟩ := fun b o h => hb.cell (p := ⟨b, o, none⟩) h; have hbf : ∀ b o, b < W.heap.size → W'.frozen? ⟨b, o, none⟩ = W.frozen? ⟨b, o, none⟩ := fun b o h => hb.frozen (p := ⟨b, o, none⟩) h; refine ⟨⟨hx.step hb, Nat.le_trans hz hb.size, ?_⟩, ?_⟩ <;> (simp (disch := omega) only [hbc, hbf]; assumption))
  · (intro W hW; obtain ⟨⟨hx, hz, hc⟩, hr⟩ := hW; go_simp; (try dsimp only); (repeat' apply And.intro) <;> first | with_reducible assumption | (go_simp; done) | ((repeat (refine Below.setCell ?_ (by first | exact Nat.le_refl _ | omega) _)); exact hx) | omega | (simp; done) | (simp; omega))
  refine F_put ?_
  repeat (first | refine F_s ?_ | refine F_r ?_)
  rintro W ⟨⟨⟨hx1, hz, hc⟩, hr⟩, _⟩
  clear hc
  go_wp2
  exact bodyPost_ret (v := .agg #[.int .i64 3, .int .i64 (q1 + v1), .int .i64 (q2 + v2), .int .i64 (q1 + u1), .int .i64 (q2 + u2), .int .i64 q1, .int .i64 q2]) (by simp [results, Tryz.results6, go_sem, *]) rfl ⟨rfl, hx1⟩
end Go.Proofs.YtmmhiiiaccldmaaGreat
