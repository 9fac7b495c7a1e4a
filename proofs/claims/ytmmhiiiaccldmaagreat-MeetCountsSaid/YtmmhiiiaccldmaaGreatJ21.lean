/- Contracts: etchantref05.Turns, turned, mirrored, Apply. | Contract: etchantref07.Made. -/
import Derived.Test.YtmmhiiiaccldmaaGreatJ19
import Derived.Test.YtmmhiiiaccldmaaGreatJ09
import Derived.StillTactics
import Derived.Laws.Pointers
import Derived.Deep.DrawnRows
import Derived.Deep.DeepCutAuto
set_option linter.unusedVariables false
set_option linter.unusedSimpArgs false

namespace Go.Proofs.YtmmhiiiaccldmaaGreat
open Go.RowKit
attribute [local go_sem] Gives givesU

set_option maxRecDepth 100000 in
set_option maxHeartbeats 1000000 in
theorem r05_Turns (t : Int) (w : World) (h : 0 ≤ t ∧ t ≤ 3) : Calls Tryz.prog 58 #[.int .i64 t] w fun e w' => e = .returned (.int .i64 t) ∧ Ext w w' := by
  obtain rfl | rfl | rfl | rfl : t = 0 ∨ t = 1 ∨ t = 2 ∨ t = 3 := by omega
  all_goals
    go_enter Tryz.func58, Tryz.ntmps58
    go_wp2
    go_ret
    exact ⟨rfl, bxx⟩
set_option maxRecDepth 100000 in
set_option maxHeartbeats 1000000 in
theorem r05_mirrored (x y : Int) (m : Bool) (w : World) (h1 : Lo x) : Calls Tryz.prog 31 #[.agg #[.int .i64 x, .int .i64 y], .bool m] w fun e w' => e = .returned (.agg #[.int .i64 (mir m (x, y)).1, .int .i64 (mir m (x, y)).2]) ∧ Ext w w' := by
  unfold Lo at h1
  obtain ⟨h1a, h1b⟩ := h1
  cases m
  all_goals
    go_enter Tryz.func31, Tryz.ntmps31
    go_wp2
    refine bodyPost_ret (v := .agg #[.int .i64 (mir _ (x, y)).1, .int .i64 (mir _ (x, y)).2]) (by simp [results, Tryz.results31, go_sem, mir]) rfl ⟨rfl, bxx⟩
set_option maxRecDepth 100000 in
set_option maxHeartbeats 2000000 in
theorem r05_turned (x y t : Int) (w : World) (h : 0 ≤ t ∧ t ≤ 3) (h1 : Lo x) (h2 : Lo y) : Calls Tryz.prog 30 #[.agg #[.int .i64 x, .int .i64 y], .int .i64 t] w fun e w' => e = .returned (.agg #[.int .i64 (rot t.toNat (x, y)).1, .int .i64 (rot t.toNat (x, y)).2]) ∧ Ext w w' := by
  have TC := Lib.hid (fun w => r05_Turns t w h)
  unfold Lo at h1 h2
  obtain ⟨h1a, h1b⟩ := h1
  obtain ⟨h2a, h2b⟩ := h2
  have n1 : - -x = x := by omega
  have n2 : - -y = y := by omega
  obtain rfl | rfl | rfl | rfl : t = 0 ∨ t = 1 ∨ t = 2 ∨ t = 3 := by omega
  all_goals
    go_enter Tryz.func30, Tryz.ntmps30
    go_wp2_with fail
    refine (TC.out _).mono ?_
    rintro e w1 ⟨rfl, hx⟩
    have hx0 : Ext w w1 := Ext.step bxx hx
    have hs0 := hx0.size
    have hz_w1 : w.heap.size + 2 ≤ w1.heap.size := Nat.le_trans omm hx.size
    obtain ⟨hl_w1_0, hk_w1_0, hf_w1_0⟩ := extK hx (w.heap.size)
    obtain ⟨hl_w1_1, hk_w1_1, hf_w1_1⟩ := extK hx (w.heap.size + 1)
    clear hx
    go_wp2
    refine bodyPost_ret (v := .agg #[.int .i64 (rot _ (x, y)).1, .int .i64 (rot _ (x, y)).2]) (by simp [results, Tryz.results30, go_sem, rot, *]) rfl ⟨rfl, bxx⟩
set_option maxRecDepth 100000 in
set_option maxHeartbeats 2000000 in
theorem r05_Apply (ax ay t x y : Int) (m : Bool) (w : World) (ht : 0 ≤ t ∧ t ≤ 3) (h1 : Lo ax) (h2 : Lo ay) (h3 : Lo x) (h4 : Lo y) :
    Calls Tryz.prog 15 #[.agg #[.int .i64 ax, .int .i64 ay, .int .i64 t, .bool m], .agg #[.int .i64 x, .int .i64 y]] w fun e w' => e = .returned (.agg #[.int .i64 (applyP ax ay t m x y).1, .int .i64 (applyP ax ay t m x y).2]) ∧ Ext w w' := by
  obtain ⟨l1, l2⟩ := mir_lo (b := m) (p := (x, y)) h3 h4
  obtain ⟨l3, l4⟩ := rot_lo l1 l2 t.toNat
  have MI := fun w => r05_mirrored x y m w h3
  have TU := fun w => r05_turned (mir m (x, y)).1 (mir m (x, y)).2 t w ht l1 l2
  have AD := fun w => r05_Add (rot t.toNat (mir m (x, y))).1 (rot t.toNat (mir m (x, y))).2 ax ay w (by unfold Lo I64 at *; omega) (by unfold Lo I64 at *; omega)
  have e1 : (applyP ax ay t m x y).1 = (rot t.toNat (mir m (x, y))).1 + ax := rfl
  have e2 : (applyP ax ay t m x y).2 = (rot t.toNat (mir m (x, y))).2 + ay := rfl
  rw [e1, e2]
  rw [show ((mir m (x, y)).1, (mir m (x, y)).2) = mir m (x, y) from rfl] at TU
  obtain ⟨u, U⟩ : ∃ u, mir m (x, y) = u := ⟨_, rfl⟩
  rw [U] at MI TU AD ⊢
  obtain ⟨v, V⟩ : ∃ v, rot t.toNat u = v := ⟨_, rfl⟩
  rw [V] at TU AD ⊢
  obtain ⟨u1, u2⟩ := u
  obtain ⟨v1, v2⟩ := v
  simp only at MI TU AD ⊢
  replace MI := Lib.hid MI
  replace TU := Lib.hid TU
  replace AD := Lib.hid AD
  clear l1 l2 l3 l4 h1 h2 h3 h4 e1 e2 U V ht
  go_enter Tryz.func15, Tryz.ntmps15
  go_wp2_with fail
  refine wp_GR (w.heap.size + 1 + 1) (.cells #[.int .i64 0, .int .i64 0] 25) (fun W => Ext w W ∧ w.heap.size + 1 + 1 + 1 ≤ W.heap.size ∧ W.cell? ⟨w.heap.size, 0, none⟩ = some (.int .i64 ax) ∧ W.cell? ⟨w.heap.size, 1, none⟩ = some (.int .i64 ay) ∧ W.cell? ⟨w.heap.size, 2, none⟩ = some (.int .i64 t) ∧ W.cell? ⟨w.heap.size, 3, none⟩ = some (.bool m) ∧ W.cell? ⟨w.heap.size + 1, 0, none⟩ = some (.int .i64 x) ∧ W.cell? ⟨w.heap.size + 1, 1, none⟩ = some (.int .i64 y)) ?_
  intro hSM hRKS
  repeat (first | refine F_s ?_ | refine F_r ?_)
  (refine F_call (v := .agg #[.int .i64 u1, .int .i64 u2]) (by rfl) (by rfl) ?_ ?_; (· (intro W hW; (try dsimp only at hW); go_simp; refine (MI.out _).mono ?_; rintro e w' ⟨rfl, hx⟩; exact ⟨_, rfl, rfl, hx⟩))); refine F_put ?_
  repeat (first | refine F_s ?_ | refine F_r ?_)
  (refine F_call (v := .agg #[.int .i64 v1, .int .i64 v2]) (by rfl) (by rfl) ?_ ?_; (· (intro W hW; (try dsimp only at hW); go_simp; refine (TU.out _).mono ?_; rintro e w' ⟨rfl, hx⟩; exact ⟨_, rfl, rfl, hx⟩))); refine F_put ?_
  repeat (first | refine F_s ?_ | refine F_r ?_)
  (refine F_call (v := .agg #[.int .i64 (v1+ax), .int .i64 (v2+ay)]) (by rfl) (by rfl) ?_ ?_; (· (intro W hW; (try dsimp only at hW); go_simp; refine (AD.out _).mono ?_; rintro e w' ⟨rfl, hx⟩; exact ⟨_, rfl, rfl, hx⟩))); refine F_put ?_
  refine F_w (fun W => _) (fun W hW => hW) ?_
  rintro W ⟨⟨⟨hx, hz, hc⟩, hb⟩, _⟩
  obtain ⟨c0, c1, _, hl⟩ := pt_block hb
  clear hc hb
  go_wp2
  exact bodyPost_ret (v := .agg #[.int .i64 (v1+ax), .int .i64 (v2+ay)]) (by simp [results, Tryz.results15, go_sem, *]) rfl ⟨rfl, hx⟩
end Go.Proofs.YtmmhiiiaccldmaaGreat

namespace Go.Proofs.YtmmhiiiaccldmaaGreat
open Go.RowKit
attribute [local go_sem] Gives givesU
attribute [local go_sem ↓] Go.wp_at_zero Go.wp_at_succ

/-- The edge that numbers make. -/
def madeE (L : List Int) (f : Int) : Ed :=
  let k1 := nextK L 0
  let k2 := nextK L k1
  let k3 := nextK L k2
  let k4 := nextK L k3
  let px := f * (nextV L k1 13 + 6)
  let py := f * (nextV L k2 13 + 6)
  if 1 + nextV L 0 3 = 1 then ⟨1, px, py, f * nextV L k3 25, f * nextV L k4 25, 0, 0⟩
  else
    let r := f * (1 + nextV L k3 12)
    let t := nextV L k4 4
    let u := rot t.toNat (r, 0)
    let v := rot t.toNat (0, r)
    if 1 + nextV L 0 3 = 3 then ⟨3, px + v.1, py + v.2, px + u.1, py + u.2, px, py⟩
    else ⟨1 + nextV L 0 3, px + u.1, py + u.2, px + v.1, py + v.2, px, py⟩

theorem Past.keep {B : Nat} {w w' : World} (h : Past B w w') : ∀ b o, b < w.heap.size → b ≠ B → w'.cell? ⟨b, o, none⟩ = w.cell? ⟨b, o, none⟩ := fun _ o hl hb => h.cell o hl hb
theorem Past.keepf {B : Nat} {w w' : World} (h : Past B w w') : ∀ b o, b < w.heap.size → b ≠ B → w'.frozen? ⟨b, o, none⟩ = w.frozen? ⟨b, o, none⟩ := fun _ o hl hb => h.frozen o hl hb
theorem fac_bd {f x m : Int} (hf : 1 ≤ f ∧ f ≤ 1048576) (h0 : 0 ≤ x) (h1 : x ≤ m) (hm : m ≤ 100) : 0 ≤ f * x ∧ f * x ≤ 1048576 * m := by
  refine ⟨Int.mul_nonneg (by omega) h0, ?_⟩
  have a := Int.mul_le_mul_of_nonneg_left h1 (show (0 : Int) ≤ f by omega)
  have b := Int.mul_le_mul_of_nonneg_right hf.2 (show (0 : Int) ≤ m by omega)
  omega

set_option maxRecDepth 100000 in
set_option maxHeartbeats 4000000 in
theorem r07_Made_line (L : List Int) (a : Option Addr) (len cp : Nat) (f : Int) (w : World) (hL : Ints w a len L) (hcp : len ≤ cp ∧ cp ≤ 9223372036854775807) (hf : 1 ≤ f ∧ f ≤ 1048576) (hk : 1 + nextV L 0 3 = 1) :
    Calls Tryz.prog 6 #[.slice a len cp, .int .i64 f] w fun e w' => e = .returned (.agg #[.int .i64 1, .int .i64 (f * (nextV L (nextK L 0) 13 + 6)), .int .i64 (f * (nextV L (nextK L (nextK L 0)) 13 + 6)), .int .i64 (f * nextV L (nextK L (nextK L (nextK L 0))) 25), .int .i64 (f * nextV L (nextK L (nextK L (nextK L (nextK L 0)))) 25), .int .i64 0, .int .i64 0]) ∧ Ext w w' := by
  have hlt := hL.lt
  have NX := Lib.hid (fun (k : Nat) (n : Int) (W : World) (hd : DrawAt W (w.heap.size + 1) a len cp k) (hL' : Ints W a len L) (hn : 0 < n ∧ n ≤ 4294967296) (hk : k ≤ len) => r01_Next L (w.heap.size + 1) a len cp k n W hd hL' (fun h0 x e => by have := hlt h0 x e; omega) hn hk)
  have KB : ∀ k, k ≤ len → nextK L k ≤ len := fun k hk => by have := hL.1; unfold nextK; split <;> omega
  have b0 := nextV_bd L (nextK L 0) (n := 13) (by omega)
  have b1 := nextV_bd L (nextK L (nextK L 0)) (n := 13) (by omega)
  have b2 := nextV_bd L (nextK L (nextK L (nextK L 0))) (n := 25) (by omega)
  have b3 := nextV_bd L (nextK L (nextK L (nextK L (nextK L 0)))) (n := 25) (by omega)
  have HK1 := Lib.hid (KB 0 (by omega))
  have HK2 := Lib.hid (KB _ HK1.out)
  have HK3 := Lib.hid (KB _ HK2.out)
  have HK4 := Lib.hid (KB _ HK3.out)
  clear KB
  have HL := Lib.hid hL
  have hk0 : nextV L 0 3 = 0 := by omega
  clear hL hk
  have m0 := fac_bd hf (x := nextV L (nextK L 0) 13 + 6) (by omega) (m := 18) (by omega) (by omega)
  have m1 := fac_bd hf (x := nextV L (nextK L (nextK L 0)) 13 + 6) (by omega) (m := 18) (by omega) (by omega)
  have m2 := fac_bd hf (x := nextV L (nextK L (nextK L (nextK L 0))) 25) (by omega) (m := 24) (by omega) (by omega)
  have m3 := fac_bd hf (x := nextV L (nextK L (nextK L (nextK L (nextK L 0)))) 25) (by omega) (m := 24) (by omega) (by omega)
  obtain ⟨v1, V1⟩ : ∃ v, Hid (nextV L (nextK L 0) 13 = v) := ⟨_, rfl⟩
  obtain ⟨v2, V2⟩ : ∃ v, Hid (nextV L (nextK L (nextK L 0)) 13 = v) := ⟨_, rfl⟩
  obtain ⟨v3, V3⟩ : ∃ v, Hid (nextV L (nextK L (nextK L (nextK L 0))) 25 = v) := ⟨_, rfl⟩
  obtain ⟨v4, V4⟩ : ∃ v, Hid (nextV L (nextK L (nextK L (nextK L (nextK L 0)))) 25 = v) := ⟨_, rfl⟩
  rw [V1.out] at b0 m0 ⊢
  rw [V2.out] at b1 m1 ⊢
  rw [V3.out] at b2 m2 ⊢
  rw [V4.out] at b3 m3 ⊢
  obtain ⟨k1, K1⟩ : ∃ v, Hid (nextK L 0 = v) := ⟨_, rfl⟩
  rw [K1.out] at HK1 HK2 HK3 HK4 V1 V2 V3 V4
  obtain ⟨k2, K2⟩ : ∃ v, Hid (nextK L k1 = v) := ⟨_, rfl⟩
  rw [K2.out] at HK2 HK3 HK4 V2 V3 V4
  obtain ⟨k3, K3⟩ : ∃ v, Hid (nextK L k2 = v) := ⟨_, rfl⟩
  rw [K3.out] at HK3 HK4 V3 V4
  obtain ⟨k4, K4⟩ : ∃ v, Hid (nextK L k3 = v) := ⟨_, rfl⟩
  rw [K4.out] at HK4 V4
  obtain ⟨q1, Q1⟩ : ∃ v, Hid (f * (v1 + 6) = v) := ⟨_, rfl⟩
  obtain ⟨q2, Q2⟩ : ∃ v, Hid (f * (v2 + 6) = v) := ⟨_, rfl⟩
  obtain ⟨q3, Q3⟩ : ∃ v, Hid (f * v3 = v) := ⟨_, rfl⟩
  obtain ⟨q4, Q4⟩ : ∃ v, Hid (f * v4 = v) := ⟨_, rfl⟩
  rw [Q1.out] at m0 ⊢
  rw [Q2.out] at m1 ⊢
  rw [Q3.out] at m2 ⊢
  rw [Q4.out] at m3 ⊢
  have p1 : IntKind.i64.wrap (f * (v1 + 6)) = q1 := by rw [Q1.out]; exact wrap_in (by unfold I64; omega)
  have p2 : IntKind.i64.wrap (f * (v2 + 6)) = q2 := by rw [Q2.out]; exact wrap_in (by unfold I64; omega)
  have p3 : IntKind.i64.wrap (f * v3) = q3 := by rw [Q3.out]; exact wrap_in (by unfold I64; omega)
  have p4 : IntKind.i64.wrap (f * v4) = q4 := by rw [Q4.out]; exact wrap_in (by unfold I64; omega)
  go_enter Tryz.func6, Tryz.ntmps6
  go_wp2_with fail
  refine (NX.out 0 3 _ (by refine ⟨?_, ?_, ?_, fun o => ?_⟩ <;> go_simp) (HL.out.ext bxx) (by omega) (by omega)).mono ?_
  rintro e w1 ⟨rfl, hd, hp⟩
  rw [hk0]
  rw [K1.out] at hd
  have hs1 := hp.size
  simp at hs1
  have hc1 : ∀ o, w1.cell? ⟨w.heap.size, o, none⟩ = _ := fun o => hp.cell o (by simp; omega) (by omega)
  have hf1 : ∀ o, w1.frozen? ⟨w.heap.size, o, none⟩ = _ := fun o => hp.frozen o (by simp; omega) (by omega)
  have hx1 : Ext w w1 := Below.trans bxx (hp.below (n := w.heap.size) (by omega) (by simp; omega))
  have z1 : ∀ o, o < 7 → w1.cell? ⟨w.heap.size, o, none⟩ = some (.int .i64 0) := by
    intro o ho
    rw [hc1]
    obtain rfl | rfl | rfl | rfl | rfl | rfl | rfl : o = 0 ∨ o = 1 ∨ o = 2 ∨ o = 3 ∨ o = 4 ∨ o = 5 ∨ o = 6 := by omega
    all_goals go_simp
  have y1 : ∀ o, w1.frozen? ⟨w.heap.size, o, none⟩ = false := by intro o; rw [hf1]; go_simp
  clear hc1 hf1 hp
  replace z1 := Lib.hid z1
  go_wp2_with fail
  refine (NX.out k1 13 _ hd (HL.out.ext hx1) (by omega) HK1.out).mono ?_
  rintro e w2 ⟨rfl, hd2, hp2⟩
  rw [V1.out]
  rw [K2.out] at hd2
  have hs2 := hp2.size
  have hx2 : Ext w w2 := Below.trans hx1 (hp2.below (n := w.heap.size) (by omega) (by omega))
  have z2 : ∀ o, o < 7 → w2.cell? ⟨w.heap.size, o, none⟩ = some (.int .i64 0) := fun o ho => (hp2.cell o (by omega) (by omega)).trans (z1.out o ho)
  have y2 : ∀ o, w2.frozen? ⟨w.heap.size, o, none⟩ = false := fun o => (hp2.frozen o (by omega) (by omega)).trans (y1 o)
  clear hp2 hd z1 y1
  replace z2 := Lib.hid z2
  go_wp2_with fail
  refine (NX.out k2 13 _ hd2 (HL.out.ext hx2) (by omega) HK2.out).mono ?_
  rintro e w3 ⟨rfl, hd3, hp3⟩
  rw [V2.out]
  rw [K3.out] at hd3
  have hs3 := hp3.size
  have hx3 : Ext w w3 := Below.trans hx2 (hp3.below (n := w.heap.size) (by omega) (by omega))
  have z3 : ∀ o, o < 7 → w3.cell? ⟨w.heap.size, o, none⟩ = some (.int .i64 0) := fun o ho => (hp3.cell o (by omega) (by omega)).trans (z2.out o ho)
  have y3 : ∀ o, w3.frozen? ⟨w.heap.size, o, none⟩ = false := fun o => (hp3.frozen o (by omega) (by omega)).trans (y2 o)
  clear hp3 hd2 z2 y2
  replace z3 := Lib.hid z3
  go_upto_region 5 with (fail)
  refine wp_world (fun W => Ext w W ∧ DrawAt W (w.heap.size + 1) a len cp k3 ∧ (∀ o, o < 7 → W.cell? ⟨w.heap.size, o, none⟩ = some (.int .i64 0)) ∧ (∀ o, W.frozen? ⟨w.heap.size, o, none⟩ = false) ∧ W.cell? ⟨w3.heap.size, 0, none⟩ = some (.int .i64 q1) ∧ W.cell? ⟨w3.heap.size, 1, none⟩ = some (.int .i64 q2) ∧ w3.heap.size < W.heap.size) ?_ ?_
  · have hA : ∀ o obj, o < w3.heap.size → (w3.alloc obj).heap[o]? = w3.heap[o]? := fun o obj h => Below.heap_alloc _ _ _ h
    refine ⟨bxx, hd3.ext bxx, fun o ho => (World.cell?_of_block (hA w.heap.size _ (by omega))).trans (z3.out o ho), fun o => (World.frozen?_of_block (hA w.heap.size _ (by omega))).trans (y3 o), by go_simp, by go_simp, by simp⟩
  rintro W5 ⟨hx5, hd5, z5, y5, c0, c1, hl5⟩
  clear hd3 z3 y3
  have hi5 := HL.out.ext hx5
  have hs5 := hx5.size
  obtain ⟨P, hP⟩ : ∃ P, w3.heap.size = P := ⟨_, rfl⟩
  rw [hP] at c0 c1 hl5 hs3 ⊢
  clear hP hx3 hx2 hx1
  have hd6 : DrawAt W5.drew (w.heap.size + 1) a len cp k3 := hd5
  have hi6 : Ints W5.drew a len L := hi5
  have hne : 0 < len → ∀ x, a = some x → x.block ≠ w.heap.size + 1 := fun h0 x e => by have := hlt h0 x e; omega
  have hPn : P ≠ w.heap.size + 1 := by omega
  have d0 : W5.drew.cell? ⟨P, 0, none⟩ = some (.int .i64 q1) := c0
  have d1 : W5.drew.cell? ⟨P, 1, none⟩ = some (.int .i64 q2) := c1
  have hl6 : P < W5.drew.heap.size := hl5
  have hl7 : w.heap.size < W5.drew.heap.size := show w.heap.size < W5.heap.size by omega
  have hnn : w.heap.size ≠ w.heap.size + 1 := by omega
  have hPq : P ≠ w.heap.size := by omega
  have hPr : w.heap.size ≠ P := by omega
  have Z5 := Lib.hid z5
  clear z5
  go_region_held3 (fun W => W.cell? ⟨P, 0, none⟩ = some (.int .i64 q1) ∧ W.cell? ⟨P, 1, none⟩ = some (.int .i64 q2)) (first | (refine ⟨?_, ?_⟩ <;> with_reducible assumption) | go_keep)
    (first
      | (go_at_call 14; refine (NX.out k3 25 W5.drew hd6 hi6 (by omega) HK3.out).mono ?_; rintro e W6 ⟨rfl, hd7, hp7⟩; rw [V3.out]; have e0 : W6.cell? ⟨P, 0, none⟩ = some (.int .i64 q1) := (hp7.cell 0 hl6 hPn).trans d0; have e1 : W6.cell? ⟨P, 1, none⟩ = some (.int .i64 q2) := (hp7.cell 1 hl6 hPn).trans d1)
      | (go_at_call 14; refine (NX.out k4 25 W6 (by rw [← K4.out]; exact hd7) (hp7.ints hi6 hne) (by omega) HK4.out).mono ?_; rintro e W8 ⟨rfl, hd8, hp8⟩; rw [V4.out]; have e2 : W8.cell? ⟨P, 0, none⟩ = some (.int .i64 q1) := (hp8.cell 0 (Nat.lt_of_lt_of_le hl6 hp7.size) hPn).trans e0; have e3 : W8.cell? ⟨P, 1, none⟩ = some (.int .i64 q2) := (hp8.cell 1 (Nat.lt_of_lt_of_le hl6 hp7.size) hPn).trans e1; have zz : ∀ o, o < 7 → W8.cell? ⟨w.heap.size, o, none⟩ = some (.int .i64 0) := (fun o ho => ((hp8.cell o (Nat.lt_of_lt_of_le hl7 hp7.size) hnn).trans (hp7.cell o hl7 hnn)).trans (Z5.out o ho)); have yy : ∀ o, W8.frozen? ⟨w.heap.size, o, none⟩ = false := (fun o => ((hp8.frozen o (Nat.lt_of_lt_of_le hl7 hp7.size) hnn).trans (hp7.frozen o hl7 hnn)).trans (y5 o)); have g0 := zz 0 (by omega); have g1 := zz 1 (by omega); have g2 := zz 2 (by omega); have g3 := zz 3 (by omega); have g4 := zz 4 (by omega); have g5 := zz 5 (by omega); have g6 := zz 6 (by omega); clear zz))
  go_wp2
  refine bodyPost_ret (v := .agg #[.int .i64 1, .int .i64 q1, .int .i64 q2, .int .i64 q3, .int .i64 q4, .int .i64 0, .int .i64 0]) (by simp only [results, Tryz.results6]; go_simp) rfl ⟨rfl, ?_⟩
  iterate 7 refine Below.setCell ?_ (by exact Nat.le_refl _) _
  exact Below.trans hx5 (Below.trans (Below.drew (Below.refl _ _)) (Below.trans (hp7.below (by omega) (Nat.le_of_lt hl7)) (hp8.below (by omega) (Nat.le_trans (Nat.le_of_lt hl7) hp7.size))))
end Go.Proofs.YtmmhiiiaccldmaaGreat
