/- Contracts: edge.of, edge.Check. -/
import Derived.Test.YtmmhiiiaccldmaaGreatJ11
set_option linter.unusedVariables false
set_option linter.unusedSimpArgs false

namespace Go.Proofs.YtmmhiiiaccldmaaGreat
open Go.RowKit
attribute [local go_sem] Gives givesU

theorem fam1 : fam 1 = ⟨.func (.func 72) #[] #[], .func (.func 73) #[] #[], .func (.func 74) #[] #[], 1⟩ := rfl
theorem fam2 : fam 2 = ⟨.func (.func 75) #[] #[], .func (.func 76) #[] #[], .func (.func 77) #[] #[], 3⟩ := rfl
theorem fam3 : fam 3 = ⟨.func (.func 78) #[] #[], .func (.func 76) #[] #[], .func (.func 77) #[] #[], 2⟩ := rfl
theorem okA {e : Ed} (h : coordB e.ax e.ay = false) : e.ok = false := by simp [Ed.ok, Ed.right, h]
theorem okB {e : Ed} (h : coordB e.bx e.by' = false) : e.ok = false := by simp [Ed.ok, Ed.right, h]
theorem okC {e : Ed} (h : coordB e.cx e.cy = false) : e.ok = false := by simp [Ed.ok, Ed.right, h]

theorem kindB_fam {k : Int} (h : kindB k = false) : fam k = ⟨.nilFunc, .nilFunc, .nilFunc, k⟩ := by
  simp [kindB] at h
  unfold fam
  rw [if_neg h.1.1, if_neg h.1.2, if_neg h.2]
theorem hk_ok {k ax ay bx by' cx cy : Int} (h : kindB k = false) : (Ed.mk k ax ay bx by' cx cy).ok = false := by
  simp [kindB] at h
  simp [Ed.ok, h]
set_option maxRecDepth 100000 in
set_option maxHeartbeats 4000000 in
theorem edge_of1 (ax ay bx by' cx cy : Int) (w : World) :
    Calls Tryz.prog 32 #[.agg #[.int .i64 1, .int .i64 ax, .int .i64 ay, .int .i64 bx, .int .i64 by', .int .i64 cx, .int .i64 cy]] w fun e w' => e = .returned (.tuple #[.agg #[(fam 1).c, (fam 1).o, (fam 1).r, .int .i64 (fam 1).k], .bool (Ed.mk 1 ax ay bx by' cx cy).ok]) ∧ Ext w w' := by
  have FC := fun w => edge_families 1 w
  rw [fam1] at FC ⊢
  rw [show kindB 1 = true from rfl] at FC
  have FC := Lib.hid FC
  obtain ⟨r, RES⟩ : ∃ r, Hid ((Ed.mk 1 ax ay bx by' cx cy).ok = r) := ⟨_, rfl⟩
  rw [RES.out]
  go_enter Tryz.func32, Tryz.ntmps32
  go_wp2_with fail
  refine (FC.out _).mono ?_
  rintro e w1 ⟨rfl, hx⟩
  have hs := hx.size
  simp at hs
  have hx0 : Ext w w1 := Ext.step bxx hx
  have hbc : ∀ b o, b < w.heap.size + 2 → w1.cell? ⟨b, o, none⟩ = _ := fun b o h => hx.cell (p := ⟨b, o, none⟩) (by simp; omega)
  have hbf : ∀ b o, b < w.heap.size + 2 → w1.frozen? ⟨b, o, none⟩ = _ := fun b o h => hx.frozen (p := ⟨b, o, none⟩) (by simp; omega)
  have e0 : ∀ o, w1.cell? ⟨w.heap.size, o, none⟩ = _ := fun o => hbc w.heap.size o (by omega)
  have r0 : ∀ o, w1.cell? ⟨w.heap.size + 1, o, none⟩ = _ := fun o => hbc (w.heap.size + 1) o (by omega)
  have rf : ∀ o, w1.frozen? ⟨w.heap.size + 1, o, none⟩ = false := fun o => (hbf (w.heap.size + 1) o (by omega)).trans (by go_simp)
  have hl : w.heap.size < w1.heap.size := by omega
  have hl1 : w.heap.size + 1 < w1.heap.size := by omega
  clear hbc hbf hx
  go_wp2_with fail
  have RA := fun w => vec_Right ax ay w
  have RB := fun w => vec_Right bx by' w
  have RC := fun w => vec_Right cx cy w
  cases hA : coordB ax ay with
  | false =>
    rw [hA] at RA
    have RA := Lib.hid RA
    have OKH := Lib.hid (@okA (Ed.mk 1 ax ay bx by' cx cy) hA)
    clear hA
    first | refine wp_region_G (fun W => Ext w W ∧ w1.heap.size + 1 ≤ W.heap.size ∧ W.cell? ⟨w.heap.size, 0, none⟩ = some (.int .i64 1) ∧ W.cell? ⟨w.heap.size, 1, none⟩ = some (.int .i64 ax) ∧ W.cell? ⟨w.heap.size, 2, none⟩ = some (.int .i64 ay) ∧ W.cell? ⟨w.heap.size, 3, none⟩ = some (.int .i64 bx) ∧ W.cell? ⟨w.heap.size, 4, none⟩ = some (.int .i64 by') ∧ W.cell? ⟨w.heap.size, 5, none⟩ = some (.int .i64 cx) ∧ W.cell? ⟨w.heap.size, 6, none⟩ = some (.int .i64 cy) ∧ W.cell? ⟨w1.heap.size, 0, none⟩ = some (.func (.func 72) #[] #[]) ∧ W.cell? ⟨w1.heap.size, 1, none⟩ = some (.func (.func 73) #[] #[]) ∧ W.cell? ⟨w1.heap.size, 2, none⟩ = some (.func (.func 74) #[] #[]) ∧ W.cell? ⟨w1.heap.size, 3, none⟩ = some (.int .i64 1)) (fun W => W.cell? ⟨w.heap.size + 1, 0, none⟩ = some (.nilFunc) ∧ W.cell? ⟨w.heap.size + 1, 1, none⟩ = some (.nilFunc) ∧ W.cell? ⟨w.heap.size + 1, 2, none⟩ = some (.nilFunc) ∧ W.cell? ⟨w.heap.size + 1, 3, none⟩ = some (.int .i64 0) ∧ (∀ o, W.frozen? ⟨w.heap.size + 1, o, none⟩ = false)) (by kernel_rfl) (by kernel_rfl) ?_ ?_ ?_ ?_ | refine wp_region_Gs (fun W => Ext w W ∧ w1.heap.size + 1 ≤ W.heap.size ∧ W.cell? ⟨w.heap.size, 0, none⟩ = some (.int .i64 1) ∧ W.cell? ⟨w.heap.size, 1, none⟩ = some (.int .i64 ax) ∧ W.cell? ⟨w.heap.size, 2, none⟩ = some (.int .i64 ay) ∧ W.cell? ⟨w.heap.size, 3, none⟩ = some (.int .i64 bx) ∧ W.cell? ⟨w.heap.size, 4, none⟩ = some (.int .i64 by') ∧ W.cell? ⟨w.heap.size, 5, none⟩ = some (.int .i64 cx) ∧ W.cell? ⟨w.heap.size, 6, none⟩ = some (.int .i64 cy) ∧ W.cell? ⟨w1.heap.size, 0, none⟩ = some (.func (.func 72) #[] #[]) ∧ W.cell? ⟨w1.heap.size, 1, none⟩ = some (.func (.func 73) #[] #[]) ∧ W.cell? ⟨w1.heap.size, 2, none⟩ = some (.func (.func 74) #[] #[]) ∧ W.cell? ⟨w1.heap.size, 3, none⟩ = some (.int .i64 1)) (fun W => W.cell? ⟨w.heap.size + 1, 0, none⟩ = some (.nilFunc) ∧ W.cell? ⟨w.heap.size + 1, 1, none⟩ = some (.nilFunc) ∧ W.cell? ⟨w.heap.size + 1, 2, none⟩ = some (.nilFunc) ∧ W.cell? ⟨w.heap.size + 1, 3, none⟩ = some (.int .i64 0) ∧ (∀ o, W.frozen? ⟨w.heap.size + 1, o, none⟩ = false)) ?_ ?_ ?_ ?_
    · refine ⟨⟨bxx, by first | omega | (simp; done) | (simp; omega), ?_⟩, ?_⟩ <;> (try go_simp)
    · (intro W W' h hb; obtain ⟨⟨hx, hz, hc⟩, hr⟩ := h; have hbc : ∀ b o, b < W.heap.size → W'.cell? ⟨b, o, none⟩ = W.cell? ⟨b, o, none⟩ := fun b o h => hb.cell (p := ⟨b, o, none⟩) h; have hbf : ∀ b o, b < W.heap.size → W'.frozen? ⟨b, o, none⟩ = W.frozen? ⟨b, o, none⟩ := fun b o h => hb.frozen (p := ⟨b, o, none⟩) h; refine ⟨⟨hx.step hb, Nat.le_trans hz hb.size, ?_⟩, ?_⟩ <;> (simp (disch := omega) only [hbc, hbf]; assumption))
    · (intro W h; have h2 := h.2.1; first | omega | (simp; omega))
    repeat (first | refine F_s ?_ | refine F_r ?_)
    (refine F_call (v := .bool false) (by rfl) (by rfl) ?_ ?_; (· (intro W hW; (try dsimp only at hW); go_simp; refine (RA.out _).mono ?_; rintro e w' ⟨rfl, hx⟩; exact ⟨_, rfl, rfl, hx⟩))); refine F_put ?_
    repeat (first | refine F_s ?_ | refine F_r ?_)
    refine F_store (fun W => (Ext w W ∧ w1.heap.size + 1 ≤ W.heap.size ∧ W.cell? ⟨w.heap.size, 0, none⟩ = some (.int .i64 1) ∧ W.cell? ⟨w.heap.size, 1, none⟩ = some (.int .i64 ax) ∧ W.cell? ⟨w.heap.size, 2, none⟩ = some (.int .i64 ay) ∧ W.cell? ⟨w.heap.size, 3, none⟩ = some (.int .i64 bx) ∧ W.cell? ⟨w.heap.size, 4, none⟩ = some (.int .i64 by') ∧ W.cell? ⟨w.heap.size, 5, none⟩ = some (.int .i64 cx) ∧ W.cell? ⟨w.heap.size, 6, none⟩ = some (.int .i64 cy) ∧ W.cell? ⟨w1.heap.size, 0, none⟩ = some (.func (.func 72) #[] #[]) ∧ W.cell? ⟨w1.heap.size, 1, none⟩ = some (.func (.func 73) #[] #[]) ∧ W.cell? ⟨w1.heap.size, 2, none⟩ = some (.func (.func 74) #[] #[]) ∧ W.cell? ⟨w1.heap.size, 3, none⟩ = some (.int .i64 1)) ∧ (W.cell? ⟨w.heap.size + 1, 0, none⟩ = some (.func (.func 72) #[] #[]) ∧ W.cell? ⟨w.heap.size + 1, 1, none⟩ = some (.func (.func 73) #[] #[]) ∧ W.cell? ⟨w.heap.size + 1, 2, none⟩ = some (.func (.func 74) #[] #[]) ∧ W.cell? ⟨w.heap.size + 1, 3, none⟩ = some (.int .i64 1) ∧ (∀ o, W.frozen? ⟨w.heap.size + 1, o, none⟩ = false))) ?_ (fun _ h => h.1) (by rfl) (by rfl) ?_ ?_
    · (intro W W' h hb; obtain ⟨⟨hx, hz, hc⟩, hr⟩ := h; have hbc : ∀ b o, b < W.heap.size → W'.cell? ⟨b, o, none⟩ = W.cell? ⟨b, o, none⟩ := fun b o h => hb.cell (p := ⟨b, o, none⟩) h; have hbf : ∀ b o, b < W.heap.size → W'.frozen? ⟨b, o, none⟩ = W.frozen? ⟨b, o, none⟩ := fun b o h => hb.frozen (p := ⟨b, o, none⟩) h; refine ⟨⟨hx.step hb, Nat.le_trans hz hb.size, ?_⟩, ?_⟩ <;> (simp (disch := omega) only [hbc, hbf]; assumption))
    · (intro W hW; obtain ⟨⟨hx, hz, hc⟩, hr⟩ := hW; go_simp; (try dsimp only); (repeat' apply And.intro) <;> first | assumption | omega | (exact bxx; done) | (simp; done) | (simp; omega) | (go_simp; done))
    refine F_put ?_
    repeat (first | refine F_s ?_ | refine F_r ?_)
    rintro W ⟨⟨⟨hx1, hz, hc⟩, hr⟩, _⟩
    clear hc
    go_wp2
    exact bodyPost_ret (v := .tuple #[.agg #[.func (.func 72) #[] #[], .func (.func 73) #[] #[], .func (.func 74) #[] #[], .int .i64 1], .bool false]) (by simp [results, Tryz.results32, go_sem, *]) rfl ⟨by rw [← RES.out, OKH.out], hx1⟩
  | true =>
    rw [hA] at RA
    have RA := Lib.hid RA
    have HA := Lib.hid hA
    clear hA
    cases hB : coordB bx by' with
    | false =>
      rw [hB] at RB
      have RB := Lib.hid RB
      have OKH := Lib.hid (@okB (Ed.mk 1 ax ay bx by' cx cy) hB)
      clear hB
      first | refine wp_region_G (fun W => Ext w W ∧ w1.heap.size + 1 ≤ W.heap.size ∧ W.cell? ⟨w.heap.size, 0, none⟩ = some (.int .i64 1) ∧ W.cell? ⟨w.heap.size, 1, none⟩ = some (.int .i64 ax) ∧ W.cell? ⟨w.heap.size, 2, none⟩ = some (.int .i64 ay) ∧ W.cell? ⟨w.heap.size, 3, none⟩ = some (.int .i64 bx) ∧ W.cell? ⟨w.heap.size, 4, none⟩ = some (.int .i64 by') ∧ W.cell? ⟨w.heap.size, 5, none⟩ = some (.int .i64 cx) ∧ W.cell? ⟨w.heap.size, 6, none⟩ = some (.int .i64 cy) ∧ W.cell? ⟨w1.heap.size, 0, none⟩ = some (.func (.func 72) #[] #[]) ∧ W.cell? ⟨w1.heap.size, 1, none⟩ = some (.func (.func 73) #[] #[]) ∧ W.cell? ⟨w1.heap.size, 2, none⟩ = some (.func (.func 74) #[] #[]) ∧ W.cell? ⟨w1.heap.size, 3, none⟩ = some (.int .i64 1)) (fun W => W.cell? ⟨w.heap.size + 1, 0, none⟩ = some (.nilFunc) ∧ W.cell? ⟨w.heap.size + 1, 1, none⟩ = some (.nilFunc) ∧ W.cell? ⟨w.heap.size + 1, 2, none⟩ = some (.nilFunc) ∧ W.cell? ⟨w.heap.size + 1, 3, none⟩ = some (.int .i64 0) ∧ (∀ o, W.frozen? ⟨w.heap.size + 1, o, none⟩ = false)) (by kernel_rfl) (by kernel_rfl) ?_ ?_ ?_ ?_ | refine wp_region_Gs (fun W => Ext w W ∧ w1.heap.size + 1 ≤ W.heap.size ∧ W.cell? ⟨w.heap.size, 0, none⟩ = some (.int .i64 1) ∧ W.cell? ⟨w.heap.size, 1, none⟩ = some (.int .i64 ax) ∧ W.cell? ⟨w.heap.size, 2, none⟩ = some (.int .i64 ay) ∧ W.cell? ⟨w.heap.size, 3, none⟩ = some (.int .i64 bx) ∧ W.cell? ⟨w.heap.size, 4, none⟩ = some (.int .i64 by') ∧ W.cell? ⟨w.heap.size, 5, none⟩ = some (.int .i64 cx) ∧ W.cell? ⟨w.heap.size, 6, none⟩ = some (.int .i64 cy) ∧ W.cell? ⟨w1.heap.size, 0, none⟩ = some (.func (.func 72) #[] #[]) ∧ W.cell? ⟨w1.heap.size, 1, none⟩ = some (.func (.func 73) #[] #[]) ∧ W.cell? ⟨w1.heap.size, 2, none⟩ = some (.func (.func 74) #[] #[]) ∧ W.cell? ⟨w1.heap.size, 3, none⟩ = some (.int .i64 1)) (fun W => W.cell? ⟨w.heap.size + 1, 0, none⟩ = some (.nilFunc) ∧ W.cell? ⟨w.heap.size + 1, 1, none⟩ = some (.nilFunc) ∧ W.cell? ⟨w.heap.size + 1, 2, none⟩ = some (.nilFunc) ∧ W.cell? ⟨w.heap.size + 1, 3, none⟩ = some (.int .i64 0) ∧ (∀ o, W.frozen? ⟨w.heap.size + 1, o, none⟩ = false)) ?_ ?_ ?_ ?_
      · refine ⟨⟨bxx, by first | omega | (simp; done) | (simp; omega), ?_⟩, ?_⟩ <;> (try go_simp)
      · (intro W W' h hb; obtain ⟨⟨hx, hz, hc⟩, hr⟩ := h; have hbc : ∀ b o, b < W.heap.size → W'.cell? ⟨b, o, none⟩ = W.cell? ⟨b, o, none⟩ := fun b o h => hb.cell (p := ⟨b, o, none⟩) h; have hbf : ∀ b o, b < W.heap.size → W'.frozen? ⟨b, o, none⟩ = W.frozen? ⟨b, o, none⟩ := fun b o h => hb.frozen (p := ⟨b, o, none⟩) h; refine ⟨⟨hx.step hb, Nat.le_trans hz hb.size, ?_⟩, ?_⟩ <;> (simp (disch := omega) only [hbc, hbf]; assumption))
      · (intro W h; have h2 := h.2.1; first | omega | (simp; omega))
      repeat (first | refine F_s ?_ | refine F_r ?_)
      (refine F_call (v := .bool true) (by rfl) (by rfl) ?_ ?_; (· (intro W hW; (try dsimp only at hW); go_simp; refine (RA.out _).mono ?_; rintro e w' ⟨rfl, hx⟩; exact ⟨_, rfl, rfl, hx⟩))); refine F_put ?_
      repeat (first | refine F_s ?_ | refine F_r ?_)
      (refine F_call (v := .bool false) (by rfl) (by rfl) ?_ ?_; (· (intro W hW; (try dsimp only at hW); go_simp; refine (RB.out _).mono ?_; rintro e w' ⟨rfl, hx⟩; exact ⟨_, rfl, rfl, hx⟩))); refine F_put ?_
      repeat (first | refine F_s ?_ | refine F_r ?_)
      refine F_store (fun W => (Ext w W ∧ w1.heap.size + 1 ≤ W.heap.size ∧ W.cell? ⟨w.heap.size, 0, none⟩ = some (.int .i64 1) ∧ W.cell? ⟨w.heap.size, 1, none⟩ = some (.int .i64 ax) ∧ W.cell? ⟨w.heap.size, 2, none⟩ = some (.int .i64 ay) ∧ W.cell? ⟨w.heap.size, 3, none⟩ = some (.int .i64 bx) ∧ W.cell? ⟨w.heap.size, 4, none⟩ = some (.int .i64 by') ∧ W.cell? ⟨w.heap.size, 5, none⟩ = some (.int .i64 cx) ∧ W.cell? ⟨w.heap.size, 6, none⟩ = some (.int .i64 cy) ∧ W.cell? ⟨w1.heap.size, 0, none⟩ = some (.func (.func 72) #[] #[]) ∧ W.cell? ⟨w1.heap.size, 1, none⟩ = some (.func (.func 73) #[] #[]) ∧ W.cell? ⟨w1.heap.size, 2, none⟩ = some (.func (.func 74) #[] #[]) ∧ W.cell? ⟨w1.heap.size, 3, none⟩ = some (.int .i64 1)) ∧ (W.cell? ⟨w.heap.size + 1, 0, none⟩ = some (.func (.func 72) #[] #[]) ∧ W.cell? ⟨w.heap.size + 1, 1, none⟩ = some (.func (.func 73) #[] #[]) ∧ W.cell? ⟨w.heap.size + 1, 2, none⟩ = some (.func (.func 74) #[] #[]) ∧ W.cell? ⟨w.heap.size + 1, 3, none⟩ = some (.int .i64 1) ∧ (∀ o, W.frozen? ⟨w.heap.size + 1, o, none⟩ = false))) ?_ (fun _ h => h.1) (by rfl) (by rfl) ?_ ?_
      · (intro W W' h hb; obtain ⟨⟨hx, hz, hc⟩, hr⟩ := h; have hbc : ∀ b o, b < W.heap.size → W'.cell? ⟨b, o, none⟩ = W.cell? ⟨b, o, none⟩ := fun b o h => hb.cell (p := ⟨b, o, none⟩) h; have hbf : ∀ b o, b < W.heap.size → W'.frozen? ⟨b, o, none⟩ = W.frozen? ⟨b, o, none⟩ := fun b o h => hb.frozen (p := ⟨b, o, none⟩) h; refine ⟨⟨hx.step hb, Nat.le_trans hz hb.size, ?_⟩, ?_⟩ <;> (simp (disch := omega) only [hbc, hbf]; assumption))
      · (intro W hW; obtain ⟨⟨hx, hz, hc⟩, hr⟩ := hW; go_simp; (try dsimp only); (repeat' apply And.intro) <;> first | assumption | omega | (exact bxx; done) | (simp; done) | (simp; omega) | (go_simp; done))
      refine F_put ?_
      repeat (first | refine F_s ?_ | refine F_r ?_)
      rintro W ⟨⟨⟨hx1, hz, hc⟩, hr⟩, _⟩
      clear hc
      go_wp2
      exact bodyPost_ret (v := .tuple #[.agg #[.func (.func 72) #[] #[], .func (.func 73) #[] #[], .func (.func 74) #[] #[], .int .i64 1], .bool false]) (by simp [results, Tryz.results32, go_sem, *]) rfl ⟨by rw [← RES.out, OKH.out], hx1⟩
    | true =>
      rw [hB] at RB
      have RB := Lib.hid RB
      have HB := Lib.hid hB
      clear hB
      cases hC : coordB cx cy with
      | false =>
        rw [hC] at RC
        have RC := Lib.hid RC
        have OKH := Lib.hid (@okC (Ed.mk 1 ax ay bx by' cx cy) hC)
        clear hC
        first | refine wp_region_G (fun W => Ext w W ∧ w1.heap.size + 1 ≤ W.heap.size ∧ W.cell? ⟨w.heap.size, 0, none⟩ = some (.int .i64 1) ∧ W.cell? ⟨w.heap.size, 1, none⟩ = some (.int .i64 ax) ∧ W.cell? ⟨w.heap.size, 2, none⟩ = some (.int .i64 ay) ∧ W.cell? ⟨w.heap.size, 3, none⟩ = some (.int .i64 bx) ∧ W.cell? ⟨w.heap.size, 4, none⟩ = some (.int .i64 by') ∧ W.cell? ⟨w.heap.size, 5, none⟩ = some (.int .i64 cx) ∧ W.cell? ⟨w.heap.size, 6, none⟩ = some (.int .i64 cy) ∧ W.cell? ⟨w1.heap.size, 0, none⟩ = some (.func (.func 72) #[] #[]) ∧ W.cell? ⟨w1.heap.size, 1, none⟩ = some (.func (.func 73) #[] #[]) ∧ W.cell? ⟨w1.heap.size, 2, none⟩ = some (.func (.func 74) #[] #[]) ∧ W.cell? ⟨w1.heap.size, 3, none⟩ = some (.int .i64 1)) (fun W => W.cell? ⟨w.heap.size + 1, 0, none⟩ = some (.nilFunc) ∧ W.cell? ⟨w.heap.size + 1, 1, none⟩ = some (.nilFunc) ∧ W.cell? ⟨w.heap.size + 1, 2, none⟩ = some (.nilFunc) ∧ W.cell? ⟨w.heap.size + 1, 3, none⟩ = some (.int .i64 0) ∧ (∀ o, W.frozen? ⟨w.heap.size + 1, o, none⟩ = false)) (by kernel_rfl) (by kernel_rfl) ?_ ?_ ?_ ?_ | refine wp_region_Gs (fun W => Ext w W ∧ w1.heap.size + 1 ≤ W.heap.size ∧ W.cell? ⟨w.heap.size, 0, none⟩ = some (.int .i64 1) ∧ W.cell? ⟨w.heap.size, 1, none⟩ = some (.int .i64 ax) ∧ W.cell? ⟨w.heap.size, 2, none⟩ = some (.int .i64 ay) ∧ W.cell? ⟨w.heap.size, 3, none⟩ = some (.int .i64 bx) ∧ W.cell? ⟨w.heap.size, 4, none⟩ = some (.int .i64 by') ∧ W.cell? ⟨w.heap.size, 5, none⟩ = some (.int .i64 cx) ∧ W.cell? ⟨w.heap.size, 6, none⟩ = some (.int .i64 cy) ∧ W.cell? ⟨w1.heap.size, 0, none⟩ = some (.func (.func 72) #[] #[]) ∧ W.cell? ⟨w1.heap.size, 1, none⟩ = some (.func (.func 73) #[] #[]) ∧ W.cell? ⟨w1.heap.size, 2, none⟩ = some (.func (.func 74) #[] #[]) ∧ W.cell? ⟨w1.heap.size, 3, none⟩ = some (.int .i64 1)) (fun W => W.cell? ⟨w.heap.size + 1, 0, none⟩ = some (.nilFunc) ∧ W.cell? ⟨w.heap.size + 1, 1, none⟩ = some (.nilFunc) ∧ W.cell? ⟨w.heap.size + 1, 2, none⟩ = some (.nilFunc) ∧ W.cell? ⟨w.heap.size + 1, 3, none⟩ = some (.int .i64 0) ∧ (∀ o, W.frozen? ⟨w.heap.size + 1, o, none⟩ = false)) ?_ ?_ ?_ ?_
        · refine ⟨⟨bxx, by first | omega | (simp; done) | (simp; omega), ?_⟩, ?_⟩ <;> (try go_simp)
        · (intro W W' h hb; obtain ⟨⟨hx, hz, hc⟩, hr⟩ := h; have hbc : ∀ b o, b < W.heap.size → W'.cell? ⟨b, o, none⟩ = W.cell? ⟨b, o, none⟩ := fun b o h => hb.cell (p := ⟨b, o, none⟩) h; have hbf : ∀ b o, b < W.heap.size → W'.frozen? ⟨b, o, none⟩ = W.frozen? ⟨b, o, none⟩ := fun b o h => hb.frozen (p := ⟨b, o, none⟩) h; refine ⟨⟨hx.step hb, Nat.le_trans hz hb.size, ?_⟩, ?_⟩ <;> (simp (disch := omega) only [hbc, hbf]; assumption))
        · (intro W h; have h2 := h.2.1; first | omega | (simp; omega))
        repeat (first | refine F_s ?_ | refine F_r ?_)
        (refine F_call (v := .bool true) (by rfl) (by rfl) ?_ ?_; (· (intro W hW; (try dsimp only at hW); go_simp; refine (RA.out _).mono ?_; rintro e w' ⟨rfl, hx⟩; exact ⟨_, rfl, rfl, hx⟩))); refine F_put ?_
        repeat (first | refine F_s ?_ | refine F_r ?_)
        (refine F_call (v := .bool true) (by rfl) (by rfl) ?_ ?_; (· (intro W hW; (try dsimp only at hW); go_simp; refine (RB.out _).mono ?_; rintro e w' ⟨rfl, hx⟩; exact ⟨_, rfl, rfl, hx⟩))); refine F_put ?_
        repeat (first | refine F_s ?_ | refine F_r ?_)
        (refine F_call (v := .bool false) (by rfl) (by rfl) ?_ ?_; (· (intro W hW; (try dsimp only at hW); go_simp; refine (RC.out _).mono ?_; rintro e w' ⟨rfl, hx⟩; exact ⟨_, rfl, rfl, hx⟩))); refine F_put ?_
        repeat (first | refine F_s ?_ | refine F_r ?_)
        refine F_store (fun W => (Ext w W ∧ w1.heap.size + 1 ≤ W.heap.size ∧ W.cell? ⟨w.heap.size, 0, none⟩ = some (.int .i64 1) ∧ W.cell? ⟨w.heap.size, 1, none⟩ = some (.int .i64 ax) ∧ W.cell? ⟨w.heap.size, 2, none⟩ = some (.int .i64 ay) ∧ W.cell? ⟨w.heap.size, 3, none⟩ = some (.int .i64 bx) ∧ W.cell? ⟨w.heap.size, 4, none⟩ = some (.int .i64 by') ∧ W.cell? ⟨w.heap.size, 5, none⟩ = some (.int .i64 cx) ∧ W.cell? ⟨w.heap.size, 6, none⟩ = some (.int .i64 cy) ∧ W.cell? ⟨w1.heap.size, 0, none⟩ = some (.func (.func 72) #[] #[]) ∧ W.cell? ⟨w1.heap.size, 1, none⟩ = some (.func (.func 73) #[] #[]) ∧ W.cell? ⟨w1.heap.size, 2, none⟩ = some (.func (.func 74) #[] #[]) ∧ W.cell? ⟨w1.heap.size, 3, none⟩ = some (.int .i64 1)) ∧ (W.cell? ⟨w.heap.size + 1, 0, none⟩ = some (.func (.func 72) #[] #[]) ∧ W.cell? ⟨w.heap.size + 1, 1, none⟩ = some (.func (.func 73) #[] #[]) ∧ W.cell? ⟨w.heap.size + 1, 2, none⟩ = some (.func (.func 74) #[] #[]) ∧ W.cell? ⟨w.heap.size + 1, 3, none⟩ = some (.int .i64 1) ∧ (∀ o, W.frozen? ⟨w.heap.size + 1, o, none⟩ = false))) ?_ (fun _ h => h.1) (by rfl) (by rfl) ?_ ?_
        · (intro W W' h hb; obtain ⟨⟨hx, hz, hc⟩, hr⟩ := h; have hbc : ∀ b o, b < W.heap.size → W'.cell? ⟨b, o, none⟩ = W.cell? ⟨b, o, none⟩ := fun b o h => hb.cell (p := ⟨b, o, none⟩) h; have hbf : ∀ b o, b < W.heap.size → W'.frozen? ⟨b, o, none⟩ = W.frozen? ⟨b, o, none⟩ := fun b o h => hb.frozen (p := ⟨b, o, none⟩) h; refine ⟨⟨hx.step hb, Nat.le_trans hz hb.size, ?_⟩, ?_⟩ <;> (simp (disch := omega) only [hbc, hbf]; assumption))
        · (intro W hW; obtain ⟨⟨hx, hz, hc⟩, hr⟩ := hW; go_simp; (try dsimp only); (repeat' apply And.intro) <;> first | assumption | omega | (exact bxx; done) | (simp; done) | (simp; omega) | (go_simp; done))
        refine F_put ?_
        repeat (first | refine F_s ?_ | refine F_r ?_)
        rintro W ⟨⟨⟨hx1, hz, hc⟩, hr⟩, _⟩
        clear hc
        go_wp2
        exact bodyPost_ret (v := .tuple #[.agg #[.func (.func 72) #[] #[], .func (.func 73) #[] #[], .func (.func 74) #[] #[], .int .i64 1], .bool false]) (by simp [results, Tryz.results32, go_sem, *]) rfl ⟨by rw [← RES.out, OKH.out], hx1⟩
      | true =>
        rw [hC] at RC
        have RC := Lib.hid RC
        have HC := Lib.hid hC
        clear hC
        have ha := coordB_iff.1 HA.out
        have hb := coordB_iff.1 HB.out
        have hc := coordB_iff.1 HC.out
        have CK := Lib.hid (fun w => edge_lone 1 ax ay bx by' cx cy w)
        have OKH : Hid ((Ed.mk 1 ax ay bx by' cx cy).ok = (Ed.mk 1 ax ay bx by' cx cy).lone) := by
          show Ed.ok _ = _
          simp [Ed.ok, Ed.right, HA.out, HB.out, HC.out]
        clear ha hb hc
        first | refine wp_region_G (fun W => Ext w W ∧ w1.heap.size + 1 ≤ W.heap.size ∧ W.cell? ⟨w.heap.size, 0, none⟩ = some (.int .i64 1) ∧ W.cell? ⟨w.heap.size, 1, none⟩ = some (.int .i64 ax) ∧ W.cell? ⟨w.heap.size, 2, none⟩ = some (.int .i64 ay) ∧ W.cell? ⟨w.heap.size, 3, none⟩ = some (.int .i64 bx) ∧ W.cell? ⟨w.heap.size, 4, none⟩ = some (.int .i64 by') ∧ W.cell? ⟨w.heap.size, 5, none⟩ = some (.int .i64 cx) ∧ W.cell? ⟨w.heap.size, 6, none⟩ = some (.int .i64 cy) ∧ W.cell? ⟨w1.heap.size, 0, none⟩ = some (.func (.func 72) #[] #[]) ∧ W.cell? ⟨w1.heap.size, 1, none⟩ = some (.func (.func 73) #[] #[]) ∧ W.cell? ⟨w1.heap.size, 2, none⟩ = some (.func (.func 74) #[] #[]) ∧ W.cell? ⟨w1.heap.size, 3, none⟩ = some (.int .i64 1)) (fun W => W.cell? ⟨w.heap.size + 1, 0, none⟩ = some (.nilFunc) ∧ W.cell? ⟨w.heap.size + 1, 1, none⟩ = some (.nilFunc) ∧ W.cell? ⟨w.heap.size + 1, 2, none⟩ = some (.nilFunc) ∧ W.cell? ⟨w.heap.size + 1, 3, none⟩ = some (.int .i64 0) ∧ (∀ o, W.frozen? ⟨w.heap.size + 1, o, none⟩ = false)) (by kernel_rfl) (by kernel_rfl) ?_ ?_ ?_ ?_ | refine wp_region_Gs (fun W => Ext w W ∧ w1.heap.size + 1 ≤ W.heap.size ∧ W.cell? ⟨w.heap.size, 0, none⟩ = some (.int .i64 1) ∧ W.cell? ⟨w.heap.size, 1, none⟩ = some (.int .i64 ax) ∧ W.cell? ⟨w.heap.size, 2, none⟩ = some (.int .i64 ay) ∧ W.cell? ⟨w.heap.size, 3, none⟩ = some (.int .i64 bx) ∧ W.cell? ⟨w.heap.size, 4, none⟩ = some (.int .i64 by') ∧ W.cell? ⟨w.heap.size, 5, none⟩ = some (.int .i64 cx) ∧ W.cell? ⟨w.heap.size, 6, none⟩ = some (.int .i64 cy) ∧ W.cell? ⟨w1.heap.size, 0, none⟩ = some (.func (.func 72) #[] #[]) ∧ W.cell? ⟨w1.heap.size, 1, none⟩ = some (.func (.func 73) #[] #[]) ∧ W.cell? ⟨w1.heap.size, 2, none⟩ = some (.func (.func 74) #[] #[]) ∧ W.cell? ⟨w1.heap.size, 3, none⟩ = some (.int .i64 1)) (fun W => W.cell? ⟨w.heap.size + 1, 0, none⟩ = some (.nilFunc) ∧ W.cell? ⟨w.heap.size + 1, 1, none⟩ = some (.nilFunc) ∧ W.cell? ⟨w.heap.size + 1, 2, none⟩ = some (.nilFunc) ∧ W.cell? ⟨w.heap.size + 1, 3, none⟩ = some (.int .i64 0) ∧ (∀ o, W.frozen? ⟨w.heap.size + 1, o, none⟩ = false)) ?_ ?_ ?_ ?_
        · refine ⟨⟨bxx, by first | omega | (simp; done) | (simp; omega), ?_⟩, ?_⟩ <;> (try go_simp)
        · (intro W W' h hb; obtain ⟨⟨hx, hz, hc⟩, hr⟩ := h; have hbc : ∀ b o, b < W.heap.size → W'.cell? ⟨b, o, none⟩ = W.cell? ⟨b, o, none⟩ := fun b o h => hb.cell (p := ⟨b, o, none⟩) h; have hbf : ∀ b o, b < W.heap.size → W'.frozen? ⟨b, o, none⟩ = W.frozen? ⟨b, o, none⟩ := fun b o h => hb.frozen (p := ⟨b, o, none⟩) h; refine ⟨⟨hx.step hb, Nat.le_trans hz hb.size, ?_⟩, ?_⟩ <;> (simp (disch := omega) only [hbc, hbf]; assumption))
        · (intro W h; have h2 := h.2.1; first | omega | (simp; omega))
        repeat (first | refine F_s ?_ | refine F_r ?_)
        (refine F_call (v := .bool true) (by rfl) (by rfl) ?_ ?_; (· (intro W hW; (try dsimp only at hW); go_simp; refine (RA.out _).mono ?_; rintro e w' ⟨rfl, hx⟩; exact ⟨_, rfl, rfl, hx⟩))); refine F_put ?_
        repeat (first | refine F_s ?_ | refine F_r ?_)
        (refine F_call (v := .bool true) (by rfl) (by rfl) ?_ ?_; (· (intro W hW; (try dsimp only at hW); go_simp; refine (RB.out _).mono ?_; rintro e w' ⟨rfl, hx⟩; exact ⟨_, rfl, rfl, hx⟩))); refine F_put ?_
        repeat (first | refine F_s ?_ | refine F_r ?_)
        (refine F_call (v := .bool true) (by rfl) (by rfl) ?_ ?_; (· (intro W hW; (try dsimp only at hW); go_simp; refine (RC.out _).mono ?_; rintro e w' ⟨rfl, hx⟩; exact ⟨_, rfl, rfl, hx⟩))); refine F_put ?_
        repeat (first | refine F_s ?_ | refine F_r ?_)
        (refine F_call (v := .bool ((Ed.mk 1 ax ay bx by' cx cy).lone)) (by rfl) (by rfl) ?_ ?_; (· (intro W hW; (try dsimp only at hW); go_simp; refine (CK.out _).mono ?_; rintro e w' ⟨rfl, hx⟩; exact ⟨_, rfl, rfl, hx⟩))); refine F_put ?_
        repeat (first | refine F_s ?_ | refine F_r ?_)
        refine F_store (fun W => (Ext w W ∧ w1.heap.size + 1 ≤ W.heap.size ∧ W.cell? ⟨w.heap.size, 0, none⟩ = some (.int .i64 1) ∧ W.cell? ⟨w.heap.size, 1, none⟩ = some (.int .i64 ax) ∧ W.cell? ⟨w.heap.size, 2, none⟩ = some (.int .i64 ay) ∧ W.cell? ⟨w.heap.size, 3, none⟩ = some (.int .i64 bx) ∧ W.cell? ⟨w.heap.size, 4, none⟩ = some (.int .i64 by') ∧ W.cell? ⟨w.heap.size, 5, none⟩ = some (.int .i64 cx) ∧ W.cell? ⟨w.heap.size, 6, none⟩ = some (.int .i64 cy) ∧ W.cell? ⟨w1.heap.size, 0, none⟩ = some (.func (.func 72) #[] #[]) ∧ W.cell? ⟨w1.heap.size, 1, none⟩ = some (.func (.func 73) #[] #[]) ∧ W.cell? ⟨w1.heap.size, 2, none⟩ = some (.func (.func 74) #[] #[]) ∧ W.cell? ⟨w1.heap.size, 3, none⟩ = some (.int .i64 1)) ∧ (W.cell? ⟨w.heap.size + 1, 0, none⟩ = some (.func (.func 72) #[] #[]) ∧ W.cell? ⟨w.heap.size + 1, 1, none⟩ = some (.func (.func 73) #[] #[]) ∧ W.cell? ⟨w.heap.size + 1, 2, none⟩ = some (.func (.func 74) #[] #[]) ∧ W.cell? ⟨w.heap.size + 1, 3, none⟩ = some (.int .i64 1) ∧ (∀ o, W.frozen? ⟨w.heap.size + 1, o, none⟩ = false))) ?_ (fun _ h => h.1) (by rfl) (by rfl) ?_ ?_
        · (intro W W' h hb; obtain ⟨⟨hx, hz, hc⟩, hr⟩ := h; have hbc : ∀ b o, b < W.heap.size → W'.cell? ⟨b, o, none⟩ = W.cell? ⟨b, o, none⟩ := fun b o h => hb.cell (p := ⟨b, o, none⟩) h; have hbf : ∀ b o, b < W.heap.size → W'.frozen? ⟨b, o, none⟩ = W.frozen? ⟨b, o, none⟩ := fun b o h => hb.frozen (p := ⟨b, o, none⟩) h; refine ⟨⟨hx.step hb, Nat.le_trans hz hb.size, ?_⟩, ?_⟩ <;> (simp (disch := omega) only [hbc, hbf]; assumption))
        · (intro W hW; obtain ⟨⟨hx, hz, hc⟩, hr⟩ := hW; go_simp; (try dsimp only); (repeat' apply And.intro) <;> first | assumption | omega | (exact bxx; done) | (simp; done) | (simp; omega) | (go_simp; done))
        refine F_put ?_
        repeat (first | refine F_s ?_ | refine F_r ?_)
        rintro W ⟨⟨⟨hx1, hz, hc⟩, hr⟩, _⟩
        clear hc
        go_wp2
        exact bodyPost_ret (v := .tuple #[.agg #[.func (.func 72) #[] #[], .func (.func 73) #[] #[], .func (.func 74) #[] #[], .int .i64 1], .bool ((Ed.mk 1 ax ay bx by' cx cy).lone)]) (by simp [results, Tryz.results32, go_sem, *]) rfl ⟨by rw [← RES.out, OKH.out], hx1⟩
set_option maxRecDepth 100000 in
set_option maxHeartbeats 4000000 in
theorem edge_of2 (ax ay bx by' cx cy : Int) (w : World) :
    Calls Tryz.prog 32 #[.agg #[.int .i64 2, .int .i64 ax, .int .i64 ay, .int .i64 bx, .int .i64 by', .int .i64 cx, .int .i64 cy]] w fun e w' => e = .returned (.tuple #[.agg #[(fam 2).c, (fam 2).o, (fam 2).r, .int .i64 (fam 2).k], .bool (Ed.mk 2 ax ay bx by' cx cy).ok]) ∧ Ext w w' := by
  have FC := fun w => edge_families 2 w
  rw [fam2] at FC ⊢
  rw [show kindB 2 = true from rfl] at FC
  have FC := Lib.hid FC
  obtain ⟨r, RES⟩ : ∃ r, Hid ((Ed.mk 2 ax ay bx by' cx cy).ok = r) := ⟨_, rfl⟩
  rw [RES.out]
  go_enter Tryz.func32, Tryz.ntmps32
  go_wp2_with fail
  refine (FC.out _).mono ?_
  rintro e w1 ⟨rfl, hx⟩
  have hs := hx.size
  simp at hs
  have hx0 : Ext w w1 := Ext.step bxx hx
  have hbc : ∀ b o, b < w.heap.size + 2 → w1.cell? ⟨b, o, none⟩ = _ := fun b o h => hx.cell (p := ⟨b, o, none⟩) (by simp; omega)
  have hbf : ∀ b o, b < w.heap.size + 2 → w1.frozen? ⟨b, o, none⟩ = _ := fun b o h => hx.frozen (p := ⟨b, o, none⟩) (by simp; omega)
  have e0 : ∀ o, w1.cell? ⟨w.heap.size, o, none⟩ = _ := fun o => hbc w.heap.size o (by omega)
  have r0 : ∀ o, w1.cell? ⟨w.heap.size + 1, o, none⟩ = _ := fun o => hbc (w.heap.size + 1) o (by omega)
  have rf : ∀ o, w1.frozen? ⟨w.heap.size + 1, o, none⟩ = false := fun o => (hbf (w.heap.size + 1) o (by omega)).trans (by go_simp)
  have hl : w.heap.size < w1.heap.size := by omega
  have hl1 : w.heap.size + 1 < w1.heap.size := by omega
  clear hbc hbf hx
  go_wp2_with fail
  have RA := fun w => vec_Right ax ay w
  have RB := fun w => vec_Right bx by' w
  have RC := fun w => vec_Right cx cy w
  cases hA : coordB ax ay with
  | false =>
    rw [hA] at RA
    have RA := Lib.hid RA
    have OKH := Lib.hid (@okA (Ed.mk 2 ax ay bx by' cx cy) hA)
    clear hA
    first | refine wp_region_G (fun W => Ext w W ∧ w1.heap.size + 1 ≤ W.heap.size ∧ W.cell? ⟨w.heap.size, 0, none⟩ = some (.int .i64 2) ∧ W.cell? ⟨w.heap.size, 1, none⟩ = some (.int .i64 ax) ∧ W.cell? ⟨w.heap.size, 2, none⟩ = some (.int .i64 ay) ∧ W.cell? ⟨w.heap.size, 3, none⟩ = some (.int .i64 bx) ∧ W.cell? ⟨w.heap.size, 4, none⟩ = some (.int .i64 by') ∧ W.cell? ⟨w.heap.size, 5, none⟩ = some (.int .i64 cx) ∧ W.cell? ⟨w.heap.size, 6, none⟩ = some (.int .i64 cy) ∧ W.cell? ⟨w1.heap.size, 0, none⟩ = some (.func (.func 75) #[] #[]) ∧ W.cell? ⟨w1.heap.size, 1, none⟩ = some (.func (.func 76) #[] #[]) ∧ W.cell? ⟨w1.heap.size, 2, none⟩ = some (.func (.func 77) #[] #[]) ∧ W.cell? ⟨w1.heap.size, 3, none⟩ = some (.int .i64 3)) (fun W => W.cell? ⟨w.heap.size + 1, 0, none⟩ = some (.nilFunc) ∧ W.cell? ⟨w.heap.size + 1, 1, none⟩ = some (.nilFunc) ∧ W.cell? ⟨w.heap.size + 1, 2, none⟩ = some (.nilFunc) ∧ W.cell? ⟨w.heap.size + 1, 3, none⟩ = some (.int .i64 0) ∧ (∀ o, W.frozen? ⟨w.heap.size + 1, o, none⟩ = false)) (by kernel_rfl) (by kernel_rfl) ?_ ?_ ?_ ?_ | refine wp_region_Gs (fun W => Ext w W ∧ w1.heap.size + 1 ≤ W.heap.size ∧ W.cell? ⟨w.heap.size, 0, none⟩ = some (.int .i64 2) ∧ W.cell? ⟨w.heap.size, 1, none⟩ = some (.int .i64 ax) ∧ W.cell? ⟨w.heap.size, 2, none⟩ = some (.int .i64 ay) ∧ W.cell? ⟨w.heap.size, 3, none⟩ = some (.int .i64 bx) ∧ W.cell? ⟨w.heap.size, 4, none⟩ = some (.int .i64 by') ∧ W.cell? ⟨w.heap.size, 5, none⟩ = some (.int .i64 cx) ∧ W.cell? ⟨w.heap.size, 6, none⟩ = some (.int .i64 cy) ∧ W.cell? ⟨w1.heap.size, 0, none⟩ = some (.func (.func 75) #[] #[]) ∧ W.cell? ⟨w1.heap.size, 1, none⟩ = some (.func (.func 76) #[] #[]) ∧ W.cell? ⟨w1.heap.size, 2, none⟩ = some (.func (.func 77) #[] #[]) ∧ W.cell? ⟨w1.heap.size, 3, none⟩ = some (.int .i64 3)) (fun W => W.cell? ⟨w.heap.size + 1, 0, none⟩ = some (.nilFunc) ∧ W.cell? ⟨w.heap.size + 1, 1, none⟩ = some (.nilFunc) ∧ W.cell? ⟨w.heap.size + 1, 2, none⟩ = some (.nilFunc) ∧ W.cell? ⟨w.heap.size + 1, 3, none⟩ = some (.int .i64 0) ∧ (∀ o, W.frozen? ⟨w.heap.size + 1, o, none⟩ = false)) ?_ ?_ ?_ ?_
    · refine ⟨⟨bxx, by first | omega | (simp; done) | (simp; omega), ?_⟩, ?_⟩ <;> (try go_simp)
    · (intro W W' h hb; obtain ⟨⟨hx, hz, hc⟩, hr⟩ := h; have hbc : ∀ b o, b < W.heap.size → W'.cell? ⟨b, o, none⟩ = W.cell? ⟨b, o, none⟩ := fun b o h => hb.cell (p := ⟨b, o, none⟩) h; have hbf : ∀ b o, b < W.heap.size → W'.frozen? ⟨b, o, none⟩ = W.frozen? ⟨b, o, none⟩ := fun b o h => hb.frozen (p := ⟨b, o, none⟩) h; refine ⟨⟨hx.step hb, Nat.le_trans hz hb.size, ?_⟩, ?_⟩ <;> (simp (disch := omega) only [hbc, hbf]; assumption))
    · (intro W h; have h2 := h.2.1; first | omega | (simp; omega))
    repeat (first | refine F_s ?_ | refine F_r ?_)
    (refine F_call (v := .bool false) (by rfl) (by rfl) ?_ ?_; (· (intro W hW; (try dsimp only at hW); go_simp; refine (RA.out _).mono ?_; rintro e w' ⟨rfl, hx⟩; exact ⟨_, rfl, rfl, hx⟩))); refine F_put ?_
    repeat (first | refine F_s ?_ | refine F_r ?_)
    refine F_store (fun W => (Ext w W ∧ w1.heap.size + 1 ≤ W.heap.size ∧ W.cell? ⟨w.heap.size, 0, none⟩ = some (.int .i64 2) ∧ W.cell? ⟨w.heap.size, 1, none⟩ = some (.int .i64 ax) ∧ W.cell? ⟨w.heap.size, 2, none⟩ = some (.int .i64 ay) ∧ W.cell? ⟨w.heap.size, 3, none⟩ = some (.int .i64 bx) ∧ W.cell? ⟨w.heap.size, 4, none⟩ = some (.int .i64 by') ∧ W.cell? ⟨w.heap.size, 5, none⟩ = some (.int .i64 cx) ∧ W.cell? ⟨w.heap.size, 6, none⟩ = some (.int .i64 cy) ∧ W.cell? ⟨w1.heap.size, 0, none⟩ = some (.func (.func 75) #[] #[]) ∧ W.cell? ⟨w1.heap.size, 1, none⟩ = some (.func (.func 76) #[] #[]) ∧ W.cell? ⟨w1.heap.size, 2, none⟩ = some (.func (.func 77) #[] #[]) ∧ W.cell? ⟨w1.heap.size, 3, none⟩ = some (.int .i64 3)) ∧ (W.cell? ⟨w.heap.size + 1, 0, none⟩ = some (.func (.func 75) #[] #[]) ∧ W.cell? ⟨w.heap.size + 1, 1, none⟩ = some (.func (.func 76) #[] #[]) ∧ W.cell? ⟨w.heap.size + 1, 2, none⟩ = some (.func (.func 77) #[] #[]) ∧ W.cell? ⟨w.heap.size + 1, 3, none⟩ = some (.int .i64 3) ∧ (∀ o, W.frozen? ⟨w.heap.size + 1, o, none⟩ = false))) ?_ (fun _ h => h.1) (by rfl) (by rfl) ?_ ?_
    · (intro W W' h hb; obtain ⟨⟨hx, hz, hc⟩, hr⟩ := h; have hbc : ∀ b o, b < W.heap.size → W'.cell? ⟨b, o, none⟩ = W.cell? ⟨b, o, none⟩ := fun b o h => hb.cell (p := ⟨b, o, none⟩) h; have hbf : ∀ b o, b < W.heap.size → W'.frozen? ⟨b, o, none⟩ = W.frozen? ⟨b, o, none⟩ := fun b o h => hb.frozen (p := ⟨b, o, none⟩) h; refine ⟨⟨hx.step hb, Nat.le_trans hz hb.size, ?_⟩, ?_⟩ <;> (simp (disch := omega) only [hbc, hbf]; assumption))
    · (intro W hW; obtain ⟨⟨hx, hz, hc⟩, hr⟩ := hW; go_simp; (try dsimp only); (repeat' apply And.intro) <;> first | assumption | omega | (exact bxx; done) | (simp; done) | (simp; omega) | (go_simp; done))
    refine F_put ?_
    repeat (first | refine F_s ?_ | refine F_r ?_)
    rintro W ⟨⟨⟨hx1, hz, hc⟩, hr⟩, _⟩
    clear hc
    go_wp2
    exact bodyPost_ret (v := .tuple #[.agg #[.func (.func 75) #[] #[], .func (.func 76) #[] #[], .func (.func 77) #[] #[], .int .i64 3], .bool false]) (by simp [results, Tryz.results32, go_sem, *]) rfl ⟨by rw [← RES.out, OKH.out], hx1⟩
  | true =>
    rw [hA] at RA
    have RA := Lib.hid RA
    have HA := Lib.hid hA
    clear hA
    cases hB : coordB bx by' with
    | false =>
      rw [hB] at RB
      have RB := Lib.hid RB
      have OKH := Lib.hid (@okB (Ed.mk 2 ax ay bx by' cx cy) hB)
      clear hB
      first | refine wp_region_G (fun W => Ext w W ∧ w1.heap.size + 1 ≤ W.heap.size ∧ W.cell? ⟨w.heap.size, 0, none⟩ = some (.int .i64 2) ∧ W.cell? ⟨w.heap.size, 1, none⟩ = some (.int .i64 ax) ∧ W.cell? ⟨w.heap.size, 2, none⟩ = some (.int .i64 ay) ∧ W.cell? ⟨w.heap.size, 3, none⟩ = some (.int .i64 bx) ∧ W.cell? ⟨w.heap.size, 4, none⟩ = some (.int .i64 by') ∧ W.cell? ⟨w.heap.size, 5, none⟩ = some (.int .i64 cx) ∧ W.cell? ⟨w.heap.size, 6, none⟩ = some (.int .i64 cy) ∧ W.cell? ⟨w1.heap.size, 0, none⟩ = some (.func (.func 75) #[] #[]) ∧ W.cell? ⟨w1.heap.size, 1, none⟩ = some (.func (.func 76) #[] #[]) ∧ W.cell? ⟨w1.heap.size, 2, none⟩ = some (.func (.func 77) #[] #[]) ∧ W.cell? ⟨w1.heap.size, 3, none⟩ = some (.int .i64 3)) (fun W => W.cell? ⟨w.heap.size + 1, 0, none⟩ = some (.nilFunc) ∧ W.cell? ⟨w.heap.size + 1, 1, none⟩ = some (.nilFunc) ∧ W.cell? ⟨w.heap.size + 1, 2, none⟩ = some (.nilFunc) ∧ W.cell? ⟨w.heap.size + 1, 3, none⟩ = some (.int .i64 0) ∧ (∀ o, W.frozen? ⟨w.heap.size + 1, o, none⟩ = false)) (by kernel_rfl) (by kernel_rfl) ?_ ?_ ?_ ?_ | refine wp_region_Gs (fun W => Ext w W ∧ w1.heap.size + 1 ≤ W.heap.size ∧ W.cell? ⟨w.heap.size, 0, none⟩ = some (.int .i64 2) ∧ W.cell? ⟨w.heap.size, 1, none⟩ = some (.int .i64 ax) ∧ W.cell? ⟨w.heap.size, 2, none⟩ = some (.int .i64 ay) ∧ W.cell? ⟨w.heap.size, 3, none⟩ = some (.int .i64 bx) ∧ W.cell? ⟨w.heap.size, 4, none⟩ = some (.int .i64 by') ∧ W.cell? ⟨w.heap.size, 5, none⟩ = some (.int .i64 cx) ∧ W.cell? ⟨w.heap.size, 6, none⟩ = some (.int .i64 cy) ∧ W.cell? ⟨w1.heap.size, 0, none⟩ = some (.func (.func 75) #[] #[]) ∧ W.cell? ⟨w1.heap.size, 1, none⟩ = some (.func (.func 76) #[] #[]) ∧ W.cell? ⟨w1.heap.size, 2, none⟩ = some (.func (.func 77) #[] #[]) ∧ W.cell? ⟨w1.heap.size, 3, none⟩ = some (.int .i64 3)) (fun W => W.cell? ⟨w.heap.size + 1, 0, none⟩ = some (.nilFunc) ∧ W.cell? ⟨w.heap.size + 1, 1, none⟩ = some (.nilFunc) ∧ W.cell? ⟨w.heap.size + 1, 2, none⟩ = some (.nilFunc) ∧ W.cell? ⟨w.heap.size + 1, 3, none⟩ = some (.int .i64 0) ∧ (∀ o, W.frozen? ⟨w.heap.size + 1, o, none⟩ = false)) ?_ ?_ ?_ ?_
      · refine ⟨⟨bxx, by first | omega | (simp; done) | (simp; omega), ?_⟩, ?_⟩ <;> (try go_simp)
      · (intro W W' h hb; obtain ⟨⟨hx, hz, hc⟩, hr⟩ := h; have hbc : ∀ b o, b < W.heap.size → W'.cell? ⟨b, o, none⟩ = W.cell? ⟨b, o, none⟩ := fun b o h => hb.cell (p := ⟨b, o, none⟩) h; have hbf : ∀ b o, b < W.heap.size → W'.frozen? ⟨b, o, none⟩ = W.frozen? ⟨b, o, none⟩ := fun b o h => hb.frozen (p := ⟨b, o, none⟩) h; refine ⟨⟨hx.step hb, Nat.le_trans hz hb.size, ?_⟩, ?_⟩ <;> (simp (disch := omega) only [hbc, hbf]; assumption))
      · (intro W h; have h2 := h.2.1; first | omega | (simp; omega))
      repeat (first | refine F_s ?_ | refine F_r ?_)
      (refine F_call (v := .bool true) (by rfl) (by rfl) ?_ ?_; (· (intro W hW; (try dsimp only at hW); go_simp; refine (RA.out _).mono ?_; rintro e w' ⟨rfl, hx⟩; exact ⟨_, rfl, rfl, hx⟩))); refine F_put ?_
      repeat (first | refine F_s ?_ | refine F_r ?_)
      (refine F_call (v := .bool false) (by rfl) (by rfl) ?_ ?_; (· (intro W hW; (try dsimp only at hW); go_simp; refine (RB.out _).mono ?_; rintro e w' ⟨rfl, hx⟩; exact ⟨_, rfl, rfl, hx⟩))); refine F_put ?_
      repeat (first | refine F_s ?_ | refine F_r ?_)
      refine F_store (fun W => (Ext w W ∧ w1.heap.size + 1 ≤ W.heap.size ∧ W.cell? ⟨w.heap.size, 0, none⟩ = some (.int .i64 2) ∧ W.cell? ⟨w.heap.size, 1, none⟩ = some (.int .i64 ax) ∧ W.cell? ⟨w.heap.size, 2, none⟩ = some (.int .i64 ay) ∧ W.cell? ⟨w.heap.size, 3, none⟩ = some (.int .i64 bx) ∧ W.cell? ⟨w.heap.size, 4, none⟩ = some (.int .i64 by') ∧ W.cell? ⟨w.heap.size, 5, none⟩ = some (.int .i64 cx) ∧ W.cell? ⟨w.heap.size, 6, none⟩ = some (.int .i64 cy) ∧ W.cell? ⟨w1.heap.size, 0, none⟩ = some (.func (.func 75) #[] #[]) ∧ W.cell? ⟨w1.heap.size, 1, none⟩ = some (.func (.func 76) #[] #[]) ∧ W.cell? ⟨w1.heap.size, 2, none⟩ = some (.func (.func 77) #[] #[]) ∧ W.cell? ⟨w1.heap.size, 3, none⟩ = some (.int .i64 3)) ∧ (W.cell? ⟨w.heap.size + 1, 0, none⟩ = some (.func (.func 75) #[] #[]) ∧ W.cell? ⟨w.heap.size + 1, 1, none⟩ = some (.func (.func 76) #[] #[]) ∧ W.cell? ⟨w.heap.size + 1, 2, none⟩ = some (.func (.func 77) #[] #[]) ∧ W.cell? ⟨w.heap.size + 1, 3, none⟩ = some (.int .i64 3) ∧ (∀ o, W.frozen? ⟨w.heap.size + 1, o, none⟩ = false))) ?_ (fun _ h => h.1) (by rfl) (by rfl) ?_ ?_
      · (intro W W' h hb; obtain ⟨⟨hx, hz, hc⟩, hr⟩ := h; have hbc : ∀ b o, b < W.heap.size → W'.cell? ⟨b, o, none⟩ = W.cell? ⟨b, o, none⟩ := fun b o h => hb.cell (p := ⟨b, o, none⟩) h; have hbf : ∀ b o, b < W.heap.size → W'.frozen? ⟨b, o, none⟩ = W.frozen? ⟨b, o, none⟩ := fun b o h => hb.frozen (p := ⟨b, o, none⟩) h; refine ⟨⟨hx.step hb, Nat.le_trans hz hb.size, ?_⟩, ?_⟩ <;> (simp (disch := omega) only [hbc, hbf]; assumption))
      · (intro W hW; obtain ⟨⟨hx, hz, hc⟩, hr⟩ := hW; go_simp; (try dsimp only); (repeat' apply And.intro) <;> first | assumption | omega | (exact bxx; done) | (simp; done) | (simp; omega) | (go_simp; done))
      refine F_put ?_
      repeat (first | refine F_s ?_ | refine F_r ?_)
      rintro W ⟨⟨⟨hx1, hz, hc⟩, hr⟩, _⟩
      clear hc
      go_wp2
      exact bodyPost_ret (v := .tuple #[.agg #[.func (.func 75) #[] #[], .func (.func 76) #[] #[], .func (.func 77) #[] #[], .int .i64 3], .bool false]) (by simp [results, Tryz.results32, go_sem, *]) rfl ⟨by rw [← RES.out, OKH.out], hx1⟩
    | true =>
      rw [hB] at RB
      have RB := Lib.hid RB
      have HB := Lib.hid hB
      clear hB
      cases hC : coordB cx cy with
      | false =>
        rw [hC] at RC
        have RC := Lib.hid RC
        have OKH := Lib.hid (@okC (Ed.mk 2 ax ay bx by' cx cy) hC)
        clear hC
        first | refine wp_region_G (fun W => Ext w W ∧ w1.heap.size + 1 ≤ W.heap.size ∧ W.cell? ⟨w.heap.size, 0, none⟩ = some (.int .i64 2) ∧ W.cell? ⟨w.heap.size, 1, none⟩ = some (.int .i64 ax) ∧ W.cell? ⟨w.heap.size, 2, none⟩ = some (.int .i64 ay) ∧ W.cell? ⟨w.heap.size, 3, none⟩ = some (.int .i64 bx) ∧ W.cell? ⟨w.heap.size, 4, none⟩ = some (.int .i64 by') ∧ W.cell? ⟨w.heap.size, 5, none⟩ = some (.int .i64 cx) ∧ W.cell? ⟨w.heap.size, 6, none⟩ = some (.int .i64 cy) ∧ W.cell? ⟨w1.heap.size, 0, none⟩ = some (.func (.func 75) #[] #[]) ∧ W.cell? ⟨w1.heap.size, 1, none⟩ = some (.func (.func 76) #[] #[]) ∧ W.cell? ⟨w1.heap.size, 2, none⟩ = some (.func (.func 77) #[] #[]) ∧ W.cell? ⟨w1.heap.size, 3, none⟩ = some (.int .i64 3)) (fun W => W.cell? ⟨w.heap.size + 1, 0, none⟩ = some (.nilFunc) ∧ W.cell? ⟨w.heap.size + 1, 1, none⟩ = some (.nilFunc) ∧ W.cell? ⟨w.heap.size + 1, 2, none⟩ = some (.nilFunc) ∧ W.cell? ⟨w.heap.size + 1, 3, none⟩ = some (.int .i64 0) ∧ (∀ o, W.frozen? ⟨w.heap.size + 1, o, none⟩ = false)) (by kernel_rfl) (by kernel_rfl) ?_ ?_ ?_ ?_ | refine wp_region_Gs (fun W => Ext w W ∧ w1.heap.size + 1 ≤ W.heap.size ∧ W.cell? ⟨w.heap.size, 0, none⟩ = some (.int .i64 2) ∧ W.cell? ⟨w.heap.size, 1, none⟩ = some (.int .i64 ax) ∧ W.cell? ⟨w.heap.size, 2, none⟩ = some (.int .i64 ay) ∧ W.cell? ⟨w.heap.size, 3, none⟩ = some (.int .i64 bx) ∧ W.cell? ⟨w.heap.size, 4, none⟩ = some (.int .i64 by') ∧ W.cell? ⟨w.heap.size, 5, none⟩ = some (.int .i64 cx) ∧ W.cell? ⟨w.heap.size, 6, none⟩ = some (.int .i64 cy) ∧ W.cell? ⟨w1.heap.size, 0, none⟩ = some (.func (.func 75) #[] #[]) ∧ W.cell? ⟨w1.heap.size, 1, none⟩ = some (.func (.func 76) #[] #[]) ∧ W.cell? ⟨w1.heap.size, 2, none⟩ = some (.func (.func 77) #[] #[]) ∧ W.cell? ⟨w1.heap.size, 3, none⟩ = some (.int .i64 3)) (fun W => W.cell? ⟨w.heap.size + 1, 0, none⟩ = some (.nilFunc) ∧ W.cell? ⟨w.heap.size + 1, 1, none⟩ = some (.nilFunc) ∧ W.cell? ⟨w.heap.size + 1, 2, none⟩ = some (.nilFunc) ∧ W.cell? ⟨w.heap.size + 1, 3, none⟩ = some (.int .i64 0) ∧ (∀ o, W.frozen? ⟨w.heap.size + 1, o, none⟩ = false)) ?_ ?_ ?_ ?_
        · refine ⟨⟨bxx, by first | omega | (simp; done) | (simp; omega), ?_⟩, ?_⟩ <;> (try go_simp)
        · (intro W W' h hb; obtain ⟨⟨hx, hz, hc⟩, hr⟩ := h; have hbc : ∀ b o, b < W.heap.size → W'.cell? ⟨b, o, none⟩ = W.cell? ⟨b, o, none⟩ := fun b o h => hb.cell (p := ⟨b, o, none⟩) h; have hbf : ∀ b o, b < W.heap.size → W'.frozen? ⟨b, o, none⟩ = W.frozen? ⟨b, o, none⟩ := fun b o h => hb.frozen (p := ⟨b, o, none⟩) h; refine ⟨⟨hx.step hb, Nat.le_trans hz hb.size, ?_⟩, ?_⟩ <;> (simp (disch := omega) only [hbc, hbf]; assumption))
        · (intro W h; have h2 := h.2.1; first | omega | (simp; omega))
        repeat (first | refine F_s ?_ | refine F_r ?_)
        (refine F_call (v := .bool true) (by rfl) (by rfl) ?_ ?_; (· (intro W hW; (try dsimp only at hW); go_simp; refine (RA.out _).mono ?_; rintro e w' ⟨rfl, hx⟩; exact ⟨_, rfl, rfl, hx⟩))); refine F_put ?_
        repeat (first | refine F_s ?_ | refine F_r ?_)
        (refine F_call (v := .bool true) (by rfl) (by rfl) ?_ ?_; (· (intro W hW; (try dsimp only at hW); go_simp; refine (RB.out _).mono ?_; rintro e w' ⟨rfl, hx⟩; exact ⟨_, rfl, rfl, hx⟩))); refine F_put ?_
        repeat (first | refine F_s ?_ | refine F_r ?_)
        (refine F_call (v := .bool false) (by rfl) (by rfl) ?_ ?_; (· (intro W hW; (try dsimp only at hW); go_simp; refine (RC.out _).mono ?_; rintro e w' ⟨rfl, hx⟩; exact ⟨_, rfl, rfl, hx⟩))); refine F_put ?_
        repeat (first | refine F_s ?_ | refine F_r ?_)
        refine F_store (fun W => (Ext w W ∧ w1.heap.size + 1 ≤ W.heap.size ∧ W.cell? ⟨w.heap.size, 0, none⟩ = some (.int .i64 2) ∧ W.cell? ⟨w.heap.size, 1, none⟩ = some (.int .i64 ax) ∧ W.cell? ⟨w.heap.size, 2, none⟩ = some (.int .i64 ay) ∧ W.cell? ⟨w.heap.size, 3, none⟩ = some (.int .i64 bx) ∧ W.cell? ⟨w.heap.size, 4, none⟩ = some (.int .i64 by') ∧ W.cell? ⟨w.heap.size, 5, none⟩ = some (.int .i64 cx) ∧ W.cell? ⟨w.heap.size, 6, none⟩ = some (.int .i64 cy) ∧ W.cell? ⟨w1.heap.size, 0, none⟩ = some (.func (.func 75) #[] #[]) ∧ W.cell? ⟨w1.heap.size, 1, none⟩ = some (.func (.func 76) #[] #[]) ∧ W.cell? ⟨w1.heap.size, 2, none⟩ = some (.func (.func 77) #[] #[]) ∧ W.cell? ⟨w1.heap.size, 3, none⟩ = some (.int .i64 3)) ∧ (W.cell? ⟨w.heap.size + 1, 0, none⟩ = some (.func (.func 75) #[] #[]) ∧ W.cell? ⟨w.heap.size + 1, 1, none⟩ = some (.func (.func 76) #[] #[]) ∧ W.cell? ⟨w.heap.size + 1, 2, none⟩ = some (.func (.func 77) #[] #[]) ∧ W.cell? ⟨w.heap.size + 1, 3, none⟩ = some (.int .i64 3) ∧ (∀ o, W.frozen? ⟨w.heap.size + 1, o, none⟩ = false))) ?_ (fun _ h => h.1) (by rfl) (by rfl) ?_ ?_
        · (intro W W' h hb; obtain ⟨⟨hx, hz, hc⟩, hr⟩ := h; have hbc : ∀ b o, b < W.heap.size → W'.cell? ⟨b, o, none⟩ = W.cell? ⟨b, o, none⟩ := fun b o h => hb.cell (p := ⟨b, o, none⟩) h; have hbf : ∀ b o, b < W.heap.size → W'.frozen? ⟨b, o, none⟩ = W.frozen? ⟨b, o, none⟩ := fun b o h => hb.frozen (p := ⟨b, o, none⟩) h; refine ⟨⟨hx.step hb, Nat.le_trans hz hb.size, ?_⟩, ?_⟩ <;> (simp (disch := omega) only [hbc, hbf]; assumption))
        · (intro W hW; obtain ⟨⟨hx, hz, hc⟩, hr⟩ := hW; go_simp; (try dsimp only); (repeat' apply And.intro) <;> first | assumption | omega | (exact bxx; done) | (simp; done) | (simp; omega) | (go_simp; done))
        refine F_put ?_
        repeat (first | refine F_s ?_ | refine F_r ?_)
        rintro W ⟨⟨⟨hx1, hz, hc⟩, hr⟩, _⟩
        clear hc
        go_wp2
        exact bodyPost_ret (v := .tuple #[.agg #[.func (.func 75) #[] #[], .func (.func 76) #[] #[], .func (.func 77) #[] #[], .int .i64 3], .bool false]) (by simp [results, Tryz.results32, go_sem, *]) rfl ⟨by rw [← RES.out, OKH.out], hx1⟩
      | true =>
        rw [hC] at RC
        have RC := Lib.hid RC
        have HC := Lib.hid hC
        clear hC
        have ha := coordB_iff.1 HA.out
        have hb := coordB_iff.1 HB.out
        have hc := coordB_iff.1 HC.out
        have CK := Lib.hid (fun w => edge_leftwards 2 ax ay bx by' cx cy w ha.1 ha.2 hb.1 hb.2 hc.1 hc.2)
        have OKH : Hid ((Ed.mk 2 ax ay bx by' cx cy).ok = (Ed.mk 2 ax ay bx by' cx cy).quarter 1) := by
          show Ed.ok _ = _
          simp [Ed.ok, Ed.right, HA.out, HB.out, HC.out]
        clear ha hb hc
        first | refine wp_region_G (fun W => Ext w W ∧ w1.heap.size + 1 ≤ W.heap.size ∧ W.cell? ⟨w.heap.size, 0, none⟩ = some (.int .i64 2) ∧ W.cell? ⟨w.heap.size, 1, none⟩ = some (.int .i64 ax) ∧ W.cell? ⟨w.heap.size, 2, none⟩ = some (.int .i64 ay) ∧ W.cell? ⟨w.heap.size, 3, none⟩ = some (.int .i64 bx) ∧ W.cell? ⟨w.heap.size, 4, none⟩ = some (.int .i64 by') ∧ W.cell? ⟨w.heap.size, 5, none⟩ = some (.int .i64 cx) ∧ W.cell? ⟨w.heap.size, 6, none⟩ = some (.int .i64 cy) ∧ W.cell? ⟨w1.heap.size, 0, none⟩ = some (.func (.func 75) #[] #[]) ∧ W.cell? ⟨w1.heap.size, 1, none⟩ = some (.func (.func 76) #[] #[]) ∧ W.cell? ⟨w1.heap.size, 2, none⟩ = some (.func (.func 77) #[] #[]) ∧ W.cell? ⟨w1.heap.size, 3, none⟩ = some (.int .i64 3)) (fun W => W.cell? ⟨w.heap.size + 1, 0, none⟩ = some (.nilFunc) ∧ W.cell? ⟨w.heap.size + 1, 1, none⟩ = some (.nilFunc) ∧ W.cell? ⟨w.heap.size + 1, 2, none⟩ = some (.nilFunc) ∧ W.cell? ⟨w.heap.size + 1, 3, none⟩ = some (.int .i64 0) ∧ (∀ o, W.frozen? ⟨w.heap.size + 1, o, none⟩ = false)) (by kernel_rfl) (by kernel_rfl) ?_ ?_ ?_ ?_ | refine wp_region_Gs (fun W => Ext w W ∧ w1.heap.size + 1 ≤ W.heap.size ∧ W.cell? ⟨w.heap.size, 0, none⟩ = some (.int .i64 2) ∧ W.cell? ⟨w.heap.size, 1, none⟩ = some (.int .i64 ax) ∧ W.cell? ⟨w.heap.size, 2, none⟩ = some (.int .i64 ay) ∧ W.cell? ⟨w.heap.size, 3, none⟩ = some (.int .i64 bx) ∧ W.cell? ⟨w.heap.size, 4, none⟩ = some (.int .i64 by') ∧ W.cell? ⟨w.heap.size, 5, none⟩ = some (.int .i64 cx) ∧ W.cell? ⟨w.heap.size, 6, none⟩ = some (.int .i64 cy) ∧ W.cell? ⟨w1.heap.size, 0, none⟩ = some (.func (.func 75) #[] #[]) ∧ W.cell? ⟨w1.heap.size, 1, none⟩ = some (.func (.func 76) #[] #[]) ∧ W.cell? ⟨w1.heap.size, 2, none⟩ = some (.func (.func 77) #[] #[]) ∧ W.cell? ⟨w1.heap.size, 3, none⟩ = some (.int .i64 3)) (fun W => W.cell? ⟨w.heap.size + 1, 0, none⟩ = some (.nilFunc) ∧ W.cell? ⟨w.heap.size + 1, 1, none⟩ = some (.nilFunc) ∧ W.cell? ⟨w.heap.size + 1, 2, none⟩ = some (.nilFunc) ∧ W.cell? ⟨w.heap.size + 1, 3, none⟩ = some (.int .i64 0) ∧ (∀ o, W.frozen? ⟨w.heap.size + 1, o, none⟩ = false)) ?_ ?_ ?_ ?_
        · refine ⟨⟨bxx, by first | omega | (simp; done) | (simp; omega), ?_⟩, ?_⟩ <;> (try go_simp)
        · (intro W W' h hb; obtain ⟨⟨hx, hz, hc⟩, hr⟩ := h; have hbc : ∀ b o, b < W.heap.size → W'.cell? ⟨b, o, none⟩ = W.cell? ⟨b, o, none⟩ := fun b o h => hb.cell (p := ⟨b, o, none⟩) h; have hbf : ∀ b o, b < W.heap.size → W'.frozen? ⟨b, o, none⟩ = W.frozen? ⟨b, o, none⟩ := fun b o h => hb.frozen (p := ⟨b, o, none⟩) h; refine ⟨⟨hx.step hb, Nat.le_trans hz hb.size, ?_⟩, ?_⟩ <;> (simp (disch := omega) only [hbc, hbf]; assumption))
        · (intro W h; have h2 := h.2.1; first | omega | (simp; omega))
        repeat (first | refine F_s ?_ | refine F_r ?_)
        (refine F_call (v := .bool true) (by rfl) (by rfl) ?_ ?_; (· (intro W hW; (try dsimp only at hW); go_simp; refine (RA.out _).mono ?_; rintro e w' ⟨rfl, hx⟩; exact ⟨_, rfl, rfl, hx⟩))); refine F_put ?_
        repeat (first | refine F_s ?_ | refine F_r ?_)
        (refine F_call (v := .bool true) (by rfl) (by rfl) ?_ ?_; (· (intro W hW; (try dsimp only at hW); go_simp; refine (RB.out _).mono ?_; rintro e w' ⟨rfl, hx⟩; exact ⟨_, rfl, rfl, hx⟩))); refine F_put ?_
        repeat (first | refine F_s ?_ | refine F_r ?_)
        (refine F_call (v := .bool true) (by rfl) (by rfl) ?_ ?_; (· (intro W hW; (try dsimp only at hW); go_simp; refine (RC.out _).mono ?_; rintro e w' ⟨rfl, hx⟩; exact ⟨_, rfl, rfl, hx⟩))); refine F_put ?_
        repeat (first | refine F_s ?_ | refine F_r ?_)
        (refine F_call (v := .bool ((Ed.mk 2 ax ay bx by' cx cy).quarter 1)) (by rfl) (by rfl) ?_ ?_; (· (intro W hW; (try dsimp only at hW); go_simp; refine (CK.out _).mono ?_; rintro e w' ⟨rfl, hx⟩; exact ⟨_, rfl, rfl, hx⟩))); refine F_put ?_
        repeat (first | refine F_s ?_ | refine F_r ?_)
        refine F_store (fun W => (Ext w W ∧ w1.heap.size + 1 ≤ W.heap.size ∧ W.cell? ⟨w.heap.size, 0, none⟩ = some (.int .i64 2) ∧ W.cell? ⟨w.heap.size, 1, none⟩ = some (.int .i64 ax) ∧ W.cell? ⟨w.heap.size, 2, none⟩ = some (.int .i64 ay) ∧ W.cell? ⟨w.heap.size, 3, none⟩ = some (.int .i64 bx) ∧ W.cell? ⟨w.heap.size, 4, none⟩ = some (.int .i64 by') ∧ W.cell? ⟨w.heap.size, 5, none⟩ = some (.int .i64 cx) ∧ W.cell? ⟨w.heap.size, 6, none⟩ = some (.int .i64 cy) ∧ W.cell? ⟨w1.heap.size, 0, none⟩ = some (.func (.func 75) #[] #[]) ∧ W.cell? ⟨w1.heap.size, 1, none⟩ = some (.func (.func 76) #[] #[]) ∧ W.cell? ⟨w1.heap.size, 2, none⟩ = some (.func (.func 77) #[] #[]) ∧ W.cell? ⟨w1.heap.size, 3, none⟩ = some (.int .i64 3)) ∧ (W.cell? ⟨w.heap.size + 1, 0, none⟩ = some (.func (.func 75) #[] #[]) ∧ W.cell? ⟨w.heap.size + 1, 1, none⟩ = some (.func (.func 76) #[] #[]) ∧ W.cell? ⟨w.heap.size + 1, 2, none⟩ = some (.func (.func 77) #[] #[]) ∧ W.cell? ⟨w.heap.size + 1, 3, none⟩ = some (.int .i64 3) ∧ (∀ o, W.frozen? ⟨w.heap.size + 1, o, none⟩ = false))) ?_ (fun _ h => h.1) (by rfl) (by rfl) ?_ ?_
        · (intro W W' h hb; obtain ⟨⟨hx, hz, hc⟩, hr⟩ := h; have hbc : ∀ b o, b < W.heap.size → W'.cell? ⟨b, o, none⟩ = W.cell? ⟨b, o, none⟩ := fun b o h => hb.cell (p := ⟨b, o, none⟩) h; have hbf : ∀ b o, b < W.heap.size → W'.frozen? ⟨b, o, none⟩ = W.frozen? ⟨b, o, none⟩ := fun b o h => hb.frozen (p := ⟨b, o, none⟩) h; refine ⟨⟨hx.step hb, Nat.le_trans hz hb.size, ?_⟩, ?_⟩ <;> (simp (disch := omega) only [hbc, hbf]; assumption))
        · (intro W hW; obtain ⟨⟨hx, hz, hc⟩, hr⟩ := hW; go_simp; (try dsimp only); (repeat' apply And.intro) <;> first | assumption | omega | (exact bxx; done) | (simp; done) | (simp; omega) | (go_simp; done))
        refine F_put ?_
        repeat (first | refine F_s ?_ | refine F_r ?_)
        rintro W ⟨⟨⟨hx1, hz, hc⟩, hr⟩, _⟩
        clear hc
        go_wp2
        exact bodyPost_ret (v := .tuple #[.agg #[.func (.func 75) #[] #[], .func (.func 76) #[] #[], .func (.func 77) #[] #[], .int .i64 3], .bool ((Ed.mk 2 ax ay bx by' cx cy).quarter 1)]) (by simp [results, Tryz.results32, go_sem, *]) rfl ⟨by rw [← RES.out, OKH.out], hx1⟩
set_option maxRecDepth 100000 in
set_option maxHeartbeats 4000000 in
theorem edge_of3 (ax ay bx by' cx cy : Int) (w : World) :
    Calls Tryz.prog 32 #[.agg #[.int .i64 3, .int .i64 ax, .int .i64 ay, .int .i64 bx, .int .i64 by', .int .i64 cx, .int .i64 cy]] w fun e w' => e = .returned (.tuple #[.agg #[(fam 3).c, (fam 3).o, (fam 3).r, .int .i64 (fam 3).k], .bool (Ed.mk 3 ax ay bx by' cx cy).ok]) ∧ Ext w w' := by
  have FC := fun w => edge_families 3 w
  rw [fam3] at FC ⊢
  rw [show kindB 3 = true from rfl] at FC
  have FC := Lib.hid FC
  obtain ⟨r, RES⟩ : ∃ r, Hid ((Ed.mk 3 ax ay bx by' cx cy).ok = r) := ⟨_, rfl⟩
  rw [RES.out]
  go_enter Tryz.func32, Tryz.ntmps32
  go_wp2_with fail
  refine (FC.out _).mono ?_
  rintro e w1 ⟨rfl, hx⟩
  have hs := hx.size
  simp at hs
  have hx0 : Ext w w1 := Ext.step bxx hx
  have hbc : ∀ b o, b < w.heap.size + 2 → w1.cell? ⟨b, o, none⟩ = _ := fun b o h => hx.cell (p := ⟨b, o, none⟩) (by simp; omega)
  have hbf : ∀ b o, b < w.heap.size + 2 → w1.frozen? ⟨b, o, none⟩ = _ := fun b o h => hx.frozen (p := ⟨b, o, none⟩) (by simp; omega)
  have e0 : ∀ o, w1.cell? ⟨w.heap.size, o, none⟩ = _ := fun o => hbc w.heap.size o (by omega)
  have r0 : ∀ o, w1.cell? ⟨w.heap.size + 1, o, none⟩ = _ := fun o => hbc (w.heap.size + 1) o (by omega)
  have rf : ∀ o, w1.frozen? ⟨w.heap.size + 1, o, none⟩ = false := fun o => (hbf (w.heap.size + 1) o (by omega)).trans (by go_simp)
  have hl : w.heap.size < w1.heap.size := by omega
  have hl1 : w.heap.size + 1 < w1.heap.size := by omega
  clear hbc hbf hx
  go_wp2_with fail
  have RA := fun w => vec_Right ax ay w
  have RB := fun w => vec_Right bx by' w
  have RC := fun w => vec_Right cx cy w
  cases hA : coordB ax ay with
  | false =>
    rw [hA] at RA
    have RA := Lib.hid RA
    have OKH := Lib.hid (@okA (Ed.mk 3 ax ay bx by' cx cy) hA)
    clear hA
    first | refine wp_region_G (fun W => Ext w W ∧ w1.heap.size + 1 ≤ W.heap.size ∧ W.cell? ⟨w.heap.size, 0, none⟩ = some (.int .i64 3) ∧ W.cell? ⟨w.heap.size, 1, none⟩ = some (.int .i64 ax) ∧ W.cell? ⟨w.heap.size, 2, none⟩ = some (.int .i64 ay) ∧ W.cell? ⟨w.heap.size, 3, none⟩ = some (.int .i64 bx) ∧ W.cell? ⟨w.heap.size, 4, none⟩ = some (.int .i64 by') ∧ W.cell? ⟨w.heap.size, 5, none⟩ = some (.int .i64 cx) ∧ W.cell? ⟨w.heap.size, 6, none⟩ = some (.int .i64 cy) ∧ W.cell? ⟨w1.heap.size, 0, none⟩ = some (.func (.func 78) #[] #[]) ∧ W.cell? ⟨w1.heap.size, 1, none⟩ = some (.func (.func 76) #[] #[]) ∧ W.cell? ⟨w1.heap.size, 2, none⟩ = some (.func (.func 77) #[] #[]) ∧ W.cell? ⟨w1.heap.size, 3, none⟩ = some (.int .i64 2)) (fun W => W.cell? ⟨w.heap.size + 1, 0, none⟩ = some (.nilFunc) ∧ W.cell? ⟨w.heap.size + 1, 1, none⟩ = some (.nilFunc) ∧ W.cell? ⟨w.heap.size + 1, 2, none⟩ = some (.nilFunc) ∧ W.cell? ⟨w.heap.size + 1, 3, none⟩ = some (.int .i64 0) ∧ (∀ o, W.frozen? ⟨w.heap.size + 1, o, none⟩ = false)) (by kernel_rfl) (by kernel_rfl) ?_ ?_ ?_ ?_ | refine wp_region_Gs (fun W => Ext w W ∧ w1.heap.size + 1 ≤ W.heap.size ∧ W.cell? ⟨w.heap.size, 0, none⟩ = some (.int .i64 3) ∧ W.cell? ⟨w.heap.size, 1, none⟩ = some (.int .i64 ax) ∧ W.cell? ⟨w.heap.size, 2, none⟩ = some (.int .i64 ay) ∧ W.cell? ⟨w.heap.size, 3, none⟩ = some (.int .i64 bx) ∧ W.cell? ⟨w.heap.size, 4, none⟩ = some (.int .i64 by') ∧ W.cell? ⟨w.heap.size, 5, none⟩ = some (.int .i64 cx) ∧ W.cell? ⟨w.heap.size, 6, none⟩ = some (.int .i64 cy) ∧ W.cell? ⟨w1.heap.size, 0, none⟩ = some (.func (.func 78) #[] #[]) ∧ W.cell? ⟨w1.heap.size, 1, none⟩ = some (.func (.func 76) #[] #[]) ∧ W.cell? ⟨w1.heap.size, 2, none⟩ = some (.func (.func 77) #[] #[]) ∧ W.cell? ⟨w1.heap.size, 3, none⟩ = some (.int .i64 2)) (fun W => W.cell? ⟨w.heap.size + 1, 0, none⟩ = some (.nilFunc) ∧ W.cell? ⟨w.heap.size + 1, 1, none⟩ = some (.nilFunc) ∧ W.cell? ⟨w.heap.size + 1, 2, none⟩ = some (.nilFunc) ∧ W.cell? ⟨w.heap.size + 1, 3, none⟩ = some (.int .i64 0) ∧ (∀ o, W.frozen? ⟨w.heap.size + 1, o, none⟩ = false)) ?_ ?_ ?_ ?_
    · refine ⟨⟨bxx, by first | omega | (simp; done) | (simp; omega), ?_⟩, ?_⟩ <;> (try go_simp)
    · (intro W W' h hb; obtain ⟨⟨hx, hz, hc⟩, hr⟩ := h; have hbc : ∀ b o, b < W.heap.size → W'.cell? ⟨b, o, none⟩ = W.cell? ⟨b, o, none⟩ := fun b o h => hb.cell (p := ⟨b, o, none⟩) h; have hbf : ∀ b o, b < W.heap.size → W'.frozen? ⟨b, o, none⟩ = W.frozen? ⟨b, o, none⟩ := fun b o h => hb.frozen (p := ⟨b, o, none⟩) h; refine ⟨⟨hx.step hb, Nat.le_trans hz hb.size, ?_⟩, ?_⟩ <;> (simp (disch := omega) only [hbc, hbf]; assumption))
    · (intro W h; have h2 := h.2.1; first | omega | (simp; omega))
    repeat (first | refine F_s ?_ | refine F_r ?_)
    (refine F_call (v := .bool false) (by rfl) (by rfl) ?_ ?_; (· (intro W hW; (try dsimp only at hW); go_simp; refine (RA.out _).mono ?_; rintro e w' ⟨rfl, hx⟩; exact ⟨_, rfl, rfl, hx⟩))); refine F_put ?_
    repeat (first | refine F_s ?_ | refine F_r ?_)
    refine F_store (fun W => (Ext w W ∧ w1.heap.size + 1 ≤ W.heap.size ∧ W.cell? ⟨w.heap.size, 0, none⟩ = some (.int .i64 3) ∧ W.cell? ⟨w.heap.size, 1, none⟩ = some (.int .i64 ax) ∧ W.cell? ⟨w.heap.size, 2, none⟩ = some (.int .i64 ay) ∧ W.cell? ⟨w.heap.size, 3, none⟩ = some (.int .i64 bx) ∧ W.cell? ⟨w.heap.size, 4, none⟩ = some (.int .i64 by') ∧ W.cell? ⟨w.heap.size, 5, none⟩ = some (.int .i64 cx) ∧ W.cell? ⟨w.heap.size, 6, none⟩ = some (.int .i64 cy) ∧ W.cell? ⟨w1.heap.size, 0, none⟩ = some (.func (.func 78) #[] #[]) ∧ W.cell? ⟨w1.heap.size, 1, none⟩ = some (.func (.func 76) #[] #[]) ∧ W.cell? ⟨w1.heap.size, 2, none⟩ = some (.func (.func 77) #[] #[]) ∧ W.cell? ⟨w1.heap.size, 3, none⟩ = some (.int .i64 2)) ∧ (W.cell? ⟨w.heap.size + 1, 0, none⟩ = some (.func (.func 78) #[] #[]) ∧ W.cell? ⟨w.heap.size + 1, 1, none⟩ = some (.func (.func 76) #[] #[]) ∧ W.cell? ⟨w.heap.size + 1, 2, none⟩ = some (.func (.func 77) #[] #[]) ∧ W.cell? ⟨w.heap.size + 1, 3, none⟩ = some (.int .i64 2) ∧ (∀ o, W.frozen? ⟨w.heap.size + 1, o, none⟩ = false))) ?_ (fun _ h => h.1) (by rfl) (by rfl) ?_ ?_
    · (intro W W' h hb; obtain ⟨⟨hx, hz, hc⟩, hr⟩ := h; have hbc : ∀ b o, b < W.heap.size → W'.cell? ⟨b, o, none⟩ = W.cell? ⟨b, o, none⟩ := fun b o h => hb.cell (p := ⟨b, o, none⟩) h; have hbf : ∀ b o, b < W.heap.size → W'.frozen? ⟨b, o, none⟩ = W.frozen? ⟨b, o, none⟩ := fun b o h => hb.frozen (p := ⟨b, o, none⟩) h; refine ⟨⟨hx.step hb, Nat.le_trans hz hb.size, ?_⟩, ?_⟩ <;> (simp (disch := omega) only [hbc, hbf]; assumption))
    · (intro W hW; obtain ⟨⟨hx, hz, hc⟩, hr⟩ := hW; go_simp; (try dsimp only); (repeat' apply And.intro) <;> first | assumption | omega | (exact bxx; done) | (simp; done) | (simp; omega) | (go_simp; done))
    refine F_put ?_
    repeat (first | refine F_s ?_ | refine F_r ?_)
    rintro W ⟨⟨⟨hx1, hz, hc⟩, hr⟩, _⟩
    clear hc
    go_wp2
    exact bodyPost_ret (v := .tuple #[.agg #[.func (.func 78) #[] #[], .func (.func 76) #[] #[], .func (.func 77) #[] #[], .int .i64 2], .bool false]) (by simp [results, Tryz.results32, go_sem, *]) rfl ⟨by rw [← RES.out, OKH.out], hx1⟩
  | true =>
    rw [hA] at RA
    have RA := Lib.hid RA
    have HA := Lib.hid hA
    clear hA
    cases hB : coordB bx by' with
    | false =>
      rw [hB] at RB
      have RB := Lib.hid RB
      have OKH := Lib.hid (@okB (Ed.mk 3 ax ay bx by' cx cy) hB)
      clear hB
      first | refine wp_region_G (fun W => Ext w W ∧ w1.heap.size + 1 ≤ W.heap.size ∧ W.cell? ⟨w.heap.size, 0, none⟩ = some (.int .i64 3) ∧ W.cell? ⟨w.heap.size, 1, none⟩ = some (.int .i64 ax) ∧ W.cell? ⟨w.heap.size, 2, none⟩ = some (.int .i64 ay) ∧ W.cell? ⟨w.heap.size, 3, none⟩ = some (.int .i64 bx) ∧ W.cell? ⟨w.heap.size, 4, none⟩ = some (.int .i64 by') ∧ W.cell? ⟨w.heap.size, 5, none⟩ = some (.int .i64 cx) ∧ W.cell? ⟨w.heap.size, 6, none⟩ = some (.int .i64 cy) ∧ W.cell? ⟨w1.heap.size, 0, none⟩ = some (.func (.func 78) #[] #[]) ∧ W.cell? ⟨w1.heap.size, 1, none⟩ = some (.func (.func 76) #[] #[]) ∧ W.cell? ⟨w1.heap.size, 2, none⟩ = some (.func (.func 77) #[] #[]) ∧ W.cell? ⟨w1.heap.size, 3, none⟩ = some (.int .i64 2)) (fun W => W.cell? ⟨w.heap.size + 1, 0, none⟩ = some (.nilFunc) ∧ W.cell? ⟨w.heap.size + 1, 1, none⟩ = some (.nilFunc) ∧ W.cell? ⟨w.heap.size + 1, 2, none⟩ = some (.nilFunc) ∧ W.cell? ⟨w.heap.size + 1, 3, none⟩ = some (.int .i64 0) ∧ (∀ o, W.frozen? ⟨w.heap.size + 1, o, none⟩ = false)) (by kernel_rfl) (by kernel_rfl) ?_ ?_ ?_ ?_ | refine wp_region_Gs (fun W => Ext w W ∧ w1.heap.size + 1 ≤ W.heap.size ∧ W.cell? ⟨w.heap.size, 0, none⟩ = some (.int .i64 3) ∧ W.cell? ⟨w.heap.size, 1, none⟩ = some (.int .i64 ax) ∧ W.cell? ⟨w.heap.size, 2, none⟩ = some (.int .i64 ay) ∧ W.cell? ⟨w.heap.size, 3, none⟩ = some (.int .i64 bx) ∧ W.cell? ⟨w.heap.size, 4, none⟩ = some (.int .i64 by') ∧ W.cell? ⟨w.heap.size, 5, none⟩ = some (.int .i64 cx) ∧ W.cell? ⟨w.heap.size, 6, none⟩ = some (.int .i64 cy) ∧ W.cell? ⟨w1.heap.size, 0, none⟩ = some (.func (.func 78) #[] #[]) ∧ W.cell? ⟨w1.heap.size, 1, none⟩ = some (.func (.func 76) #[] #[]) ∧ W.cell? ⟨w1.heap.size, 2, none⟩ = some (.func (.func 77) #[] #[]) ∧ W.cell? ⟨w1.heap.size, 3, none⟩ = some (.int .i64 2)) (fun W => W.cell? ⟨w.heap.size + 1, 0, none⟩ = some (.nilFunc) ∧ W.cell? ⟨w.heap.size + 1, 1, none⟩ = some (.nilFunc) ∧ W.cell? ⟨w.heap.size + 1, 2, none⟩ = some (.nilFunc) ∧ W.cell? ⟨w.heap.size + 1, 3, none⟩ = some (.int .i64 0) ∧ (∀ o, W.frozen? ⟨w.heap.size + 1, o, none⟩ = false)) ?_ ?_ ?_ ?_
      · refine ⟨⟨bxx, by first | omega | (simp; done) | (simp; omega), ?_⟩, ?_⟩ <;> (try go_simp)
      · (intro W W' h hb; obtain ⟨⟨hx, hz, hc⟩, hr⟩ := h; have hbc : ∀ b o, b < W.heap.size → W'.cell? ⟨b, o, none⟩ = W.cell? ⟨b, o, none⟩ := fun b o h => hb.cell (p := ⟨b, o, none⟩) h; have hbf : ∀ b o, b < W.heap.size → W'.frozen? ⟨b, o, none⟩ = W.frozen? ⟨b, o, none⟩ := fun b o h => hb.frozen (p := ⟨b, o, none⟩) h; refine ⟨⟨hx.step hb, Nat.le_trans hz hb.size, ?_⟩, ?_⟩ <;> (simp (disch := omega) only [hbc, hbf]; assumption))
      · (intro W h; have h2 := h.2.1; first | omega | (simp; omega))
      repeat (first | refine F_s ?_ | refine F_r ?_)
      (refine F_call (v := .bool true) (by rfl) (by rfl) ?_ ?_; (· (intro W hW; (try dsimp only at hW); go_simp; refine (RA.out _).mono ?_; rintro e w' ⟨rfl, hx⟩; exact ⟨_, rfl, rfl, hx⟩))); refine F_put ?_
      repeat (first | refine F_s ?_ | refine F_r ?_)
      (refine F_call (v := .bool false) (by rfl) (by rfl) ?_ ?_; (· (intro W hW; (try dsimp only at hW); go_simp; refine (RB.out _).mono ?_; rintro e w' ⟨rfl, hx⟩; exact ⟨_, rfl, rfl, hx⟩))); refine F_put ?_
      repeat (first | refine F_s ?_ | refine F_r ?_)
      refine F_store (fun W => (Ext w W ∧ w1.heap.size + 1 ≤ W.heap.size ∧ W.cell? ⟨w.heap.size, 0, none⟩ = some (.int .i64 3) ∧ W.cell? ⟨w.heap.size, 1, none⟩ = some (.int .i64 ax) ∧ W.cell? ⟨w.heap.size, 2, none⟩ = some (.int .i64 ay) ∧ W.cell? ⟨w.heap.size, 3, none⟩ = some (.int .i64 bx) ∧ W.cell? ⟨w.heap.size, 4, none⟩ = some (.int .i64 by') ∧ W.cell? ⟨w.heap.size, 5, none⟩ = some (.int .i64 cx) ∧ W.cell? ⟨w.heap.size, 6, none⟩ = some (.int .i64 cy) ∧ W.cell? ⟨w1.heap.size, 0, none⟩ = some (.func (.func 78) #[] #[]) ∧ W.cell? ⟨w1.heap.size, 1, none⟩ = some (.func (.func 76) #[] #[]) ∧ W.cell? ⟨w1.heap.size, 2, none⟩ = some (.func (.func 77) #[] #[]) ∧ W.cell? ⟨w1.heap.size, 3, none⟩ = some (.int .i64 2)) ∧ (W.cell? ⟨w.heap.size + 1, 0, none⟩ = some (.func (.func 78) #[] #[]) ∧ W.cell? ⟨w.heap.size + 1, 1, none⟩ = some (.func (.func 76) #[] #[]) ∧ W.cell? ⟨w.heap.size + 1, 2, none⟩ = some (.func (.func 77) #[] #[]) ∧ W.cell? ⟨w.heap.size + 1, 3, none⟩ = some (.int .i64 2) ∧ (∀ o, W.frozen? ⟨w.heap.size + 1, o, none⟩ = false))) ?_ (fun _ h => h.1) (by rfl) (by rfl) ?_ ?_
      · (intro W W' h hb; obtain ⟨⟨hx, hz, hc⟩, hr⟩ := h; have hbc : ∀ b o, b < W.heap.size → W'.cell? ⟨b, o, none⟩ = W.cell? ⟨b, o, none⟩ := fun b o h => hb.cell (p := ⟨b, o, none⟩) h; have hbf : ∀ b o, b < W.heap.size → W'.frozen? ⟨b, o, none⟩ = W.frozen? ⟨b, o, none⟩ := fun b o h => hb.frozen (p := ⟨b, o, none⟩) h; refine ⟨⟨hx.step hb, Nat.le_trans hz hb.size, ?_⟩, ?_⟩ <;> (simp (disch := omega) only [hbc, hbf]; assumption))
      · (intro W hW; obtain ⟨⟨hx, hz, hc⟩, hr⟩ := hW; go_simp; (try dsimp only); (repeat' apply And.intro) <;> first | assumption | omega | (exact bxx; done) | (simp; done) | (simp; omega) | (go_simp; done))
      refine F_put ?_
      repeat (first | refine F_s ?_ | refine F_r ?_)
      rintro W ⟨⟨⟨hx1, hz, hc⟩, hr⟩, _⟩
      clear hc
      go_wp2
      exact bodyPost_ret (v := .tuple #[.agg #[.func (.func 78) #[] #[], .func (.func 76) #[] #[], .func (.func 77) #[] #[], .int .i64 2], .bool false]) (by simp [results, Tryz.results32, go_sem, *]) rfl ⟨by rw [← RES.out, OKH.out], hx1⟩
    | true =>
      rw [hB] at RB
      have RB := Lib.hid RB
      have HB := Lib.hid hB
      clear hB
      cases hC : coordB cx cy with
      | false =>
        rw [hC] at RC
        have RC := Lib.hid RC
        have OKH := Lib.hid (@okC (Ed.mk 3 ax ay bx by' cx cy) hC)
        clear hC
        first | refine wp_region_G (fun W => Ext w W ∧ w1.heap.size + 1 ≤ W.heap.size ∧ W.cell? ⟨w.heap.size, 0, none⟩ = some (.int .i64 3) ∧ W.cell? ⟨w.heap.size, 1, none⟩ = some (.int .i64 ax) ∧ W.cell? ⟨w.heap.size, 2, none⟩ = some (.int .i64 ay) ∧ W.cell? ⟨w.heap.size, 3, none⟩ = some (.int .i64 bx) ∧ W.cell? ⟨w.heap.size, 4, none⟩ = some (.int .i64 by') ∧ W.cell? ⟨w.heap.size, 5, none⟩ = some (.int .i64 cx) ∧ W.cell? ⟨w.heap.size, 6, none⟩ = some (.int .i64 cy) ∧ W.cell? ⟨w1.heap.size, 0, none⟩ = some (.func (.func 78) #[] #[]) ∧ W.cell? ⟨w1.heap.size, 1, none⟩ = some (.func (.func 76) #[] #[]) ∧ W.cell? ⟨w1.heap.size, 2, none⟩ = some (.func (.func 77) #[] #[]) ∧ W.cell? ⟨w1.heap.size, 3, none⟩ = some (.int .i64 2)) (fun W => W.cell? ⟨w.heap.size + 1, 0, none⟩ = some (.nilFunc) ∧ W.cell? ⟨w.heap.size + 1, 1, none⟩ = some (.nilFunc) ∧ W.cell? ⟨w.heap.size + 1, 2, none⟩ = some (.nilFunc) ∧ W.cell? ⟨w.heap.size + 1, 3, none⟩ = some (.int .i64 0) ∧ (∀ o, W.frozen? ⟨w.heap.size + 1, o, none⟩ = false)) (by kernel_rfl) (by kernel_rfl) ?_ ?_ ?_ ?_ | refine wp_region_Gs (fun W => Ext w W ∧ w1.heap.size + 1 ≤ W.heap.size ∧ W.cell? ⟨w.heap.size, 0, none⟩ = some (.int .i64 3) ∧ W.cell? ⟨w.heap.size, 1, none⟩ = some (.int .i64 ax) ∧ W.cell? ⟨w.heap.size, 2, none⟩ = some (.int .i64 ay) ∧ W.cell? ⟨w.heap.size, 3, none⟩ = some (.int .i64 bx) ∧ W.cell? ⟨w.heap.size, 4, none⟩ = some (.int .i64 by') ∧ W.cell? ⟨w.heap.size, 5, none⟩ = some (.int .i64 cx) ∧ W.cell? ⟨w.heap.size, 6, none⟩ = some (.int .i64 cy) ∧ W.cell? ⟨w1.heap.size, 0, none⟩ = some (.func (.func 78) #[] #[]) ∧ W.cell? ⟨w1.heap.size, 1, none⟩ = some (.func (.func 76) #[] #[]) ∧ W.cell? ⟨w1.heap.size, 2, none⟩ = some (.func (.func 77) #[] #[]) ∧ W.cell? ⟨w1.heap.size, 3, none⟩ = some (.int .i64 2)) (fun W => W.cell? ⟨w.heap.size + 1, 0, none⟩ = some (.nilFunc) ∧ W.cell? ⟨w.heap.size + 1, 1, none⟩ = some (.nilFunc) ∧ W.cell? ⟨w.heap.size + 1, 2, none⟩ = some (.nilFunc) ∧ W.cell? ⟨w.heap.size + 1, 3, none⟩ = some (.int .i64 0) ∧ (∀ o, W.frozen? ⟨w.heap.size + 1, o, none⟩ = false)) ?_ ?_ ?_ ?_
        · refine ⟨⟨bxx, by first | omega | (simp; done) | (simp; omega), ?_⟩, ?_⟩ <;> (try go_simp)
        · (intro W W' h hb; obtain ⟨⟨hx, hz, hc⟩, hr⟩ := h; have hbc : ∀ b o, b < W.heap.size → W'.cell? ⟨b, o, none⟩ = W.cell? ⟨b, o, none⟩ := fun b o h => hb.cell (p := ⟨b, o, none⟩) h; have hbf : ∀ b o, b < W.heap.size → W'.frozen? ⟨b, o, none⟩ = W.frozen? ⟨b, o, none⟩ := fun b o h => hb.frozen (p := ⟨b, o, none⟩) h; refine ⟨⟨hx.step hb, Nat.le_trans hz hb.size, ?_⟩, ?_⟩ <;> (simp (disch := omega) only [hbc, hbf]; assumption))
        · (intro W h; have h2 := h.2.1; first | omega | (simp; omega))
        repeat (first | refine F_s ?_ | refine F_r ?_)
        (refine F_call (v := .bool true) (by rfl) (by rfl) ?_ ?_; (· (intro W hW; (try dsimp only at hW); go_simp; refine (RA.out _).mono ?_; rintro e w' ⟨rfl, hx⟩; exact ⟨_, rfl, rfl, hx⟩))); refine F_put ?_
        repeat (first | refine F_s ?_ | refine F_r ?_)
        (refine F_call (v := .bool true) (by rfl) (by rfl) ?_ ?_; (· (intro W hW; (try dsimp only at hW); go_simp; refine (RB.out _).mono ?_; rintro e w' ⟨rfl, hx⟩; exact ⟨_, rfl, rfl, hx⟩))); refine F_put ?_
        repeat (first | refine F_s ?_ | refine F_r ?_)
        (refine F_call (v := .bool false) (by rfl) (by rfl) ?_ ?_; (· (intro W hW; (try dsimp only at hW); go_simp; refine (RC.out _).mono ?_; rintro e w' ⟨rfl, hx⟩; exact ⟨_, rfl, rfl, hx⟩))); refine F_put ?_
        repeat (first | refine F_s ?_ | refine F_r ?_)
        refine F_store (fun W => (Ext w W ∧ w1.heap.size + 1 ≤ W.heap.size ∧ W.cell? ⟨w.heap.size, 0, none⟩ = some (.int .i64 3) ∧ W.cell? ⟨w.heap.size, 1, none⟩ = some (.int .i64 ax) ∧ W.cell? ⟨w.heap.size, 2, none⟩ = some (.int .i64 ay) ∧ W.cell? ⟨w.heap.size, 3, none⟩ = some (.int .i64 bx) ∧ W.cell? ⟨w.heap.size, 4, none⟩ = some (.int .i64 by') ∧ W.cell? ⟨w.heap.size, 5, none⟩ = some (.int .i64 cx) ∧ W.cell? ⟨w.heap.size, 6, none⟩ = some (.int .i64 cy) ∧ W.cell? ⟨w1.heap.size, 0, none⟩ = some (.func (.func 78) #[] #[]) ∧ W.cell? ⟨w1.heap.size, 1, none⟩ = some (.func (.func 76) #[] #[]) ∧ W.cell? ⟨w1.heap.size, 2, none⟩ = some (.func (.func 77) #[] #[]) ∧ W.cell? ⟨w1.heap.size, 3, none⟩ = some (.int .i64 2)) ∧ (W.cell? ⟨w.heap.size + 1, 0, none⟩ = some (.func (.func 78) #[] #[]) ∧ W.cell? ⟨w.heap.size + 1, 1, none⟩ = some (.func (.func 76) #[] #[]) ∧ W.cell? ⟨w.heap.size + 1, 2, none⟩ = some (.func (.func 77) #[] #[]) ∧ W.cell? ⟨w.heap.size + 1, 3, none⟩ = some (.int .i64 2) ∧ (∀ o, W.frozen? ⟨w.heap.size + 1, o, none⟩ = false))) ?_ (fun _ h => h.1) (by rfl) (by rfl) ?_ ?_
        · (intro W W' h hb; obtain ⟨⟨hx, hz, hc⟩, hr⟩ := h; have hbc : ∀ b o, b < W.heap.size → W'.cell? ⟨b, o, none⟩ = W.cell? ⟨b, o, none⟩ := fun b o h => hb.cell (p := ⟨b, o, none⟩) h; have hbf : ∀ b o, b < W.heap.size → W'.frozen? ⟨b, o, none⟩ = W.frozen? ⟨b, o, none⟩ := fun b o h => hb.frozen (p := ⟨b, o, none⟩) h; refine ⟨⟨hx.step hb, Nat.le_trans hz hb.size, ?_⟩, ?_⟩ <;> (simp (disch := omega) only [hbc, hbf]; assumption))
        · (intro W hW; obtain ⟨⟨hx, hz, hc⟩, hr⟩ := hW; go_simp; (try dsimp only); (repeat' apply And.intro) <;> first | assumption | omega | (exact bxx; done) | (simp; done) | (simp; omega) | (go_simp; done))
        refine F_put ?_
        repeat (first | refine F_s ?_ | refine F_r ?_)
        rintro W ⟨⟨⟨hx1, hz, hc⟩, hr⟩, _⟩
        clear hc
        go_wp2
        exact bodyPost_ret (v := .tuple #[.agg #[.func (.func 78) #[] #[], .func (.func 76) #[] #[], .func (.func 77) #[] #[], .int .i64 2], .bool false]) (by simp [results, Tryz.results32, go_sem, *]) rfl ⟨by rw [← RES.out, OKH.out], hx1⟩
      | true =>
        rw [hC] at RC
        have RC := Lib.hid RC
        have HC := Lib.hid hC
        clear hC
        have ha := coordB_iff.1 HA.out
        have hb := coordB_iff.1 HB.out
        have hc := coordB_iff.1 HC.out
        have CK := Lib.hid (fun w => edge_rightwards 3 ax ay bx by' cx cy w ha.1 ha.2 hb.1 hb.2 hc.1 hc.2)
        have OKH : Hid ((Ed.mk 3 ax ay bx by' cx cy).ok = (Ed.mk 3 ax ay bx by' cx cy).quarter 3) := by
          show Ed.ok _ = _
          simp [Ed.ok, Ed.right, HA.out, HB.out, HC.out]
        clear ha hb hc
        first | refine wp_region_G (fun W => Ext w W ∧ w1.heap.size + 1 ≤ W.heap.size ∧ W.cell? ⟨w.heap.size, 0, none⟩ = some (.int .i64 3) ∧ W.cell? ⟨w.heap.size, 1, none⟩ = some (.int .i64 ax) ∧ W.cell? ⟨w.heap.size, 2, none⟩ = some (.int .i64 ay) ∧ W.cell? ⟨w.heap.size, 3, none⟩ = some (.int .i64 bx) ∧ W.cell? ⟨w.heap.size, 4, none⟩ = some (.int .i64 by') ∧ W.cell? ⟨w.heap.size, 5, none⟩ = some (.int .i64 cx) ∧ W.cell? ⟨w.heap.size, 6, none⟩ = some (.int .i64 cy) ∧ W.cell? ⟨w1.heap.size, 0, none⟩ = some (.func (.func 78) #[] #[]) ∧ W.cell? ⟨w1.heap.size, 1, none⟩ = some (.func (.func 76) #[] #[]) ∧ W.cell? ⟨w1.heap.size, 2, none⟩ = some (.func (.func 77) #[] #[]) ∧ W.cell? ⟨w1.heap.size, 3, none⟩ = some (.int .i64 2)) (fun W => W.cell? ⟨w.heap.size + 1, 0, none⟩ = some (.nilFunc) ∧ W.cell? ⟨w.heap.size + 1, 1, none⟩ = some (.nilFunc) ∧ W.cell? ⟨w.heap.size + 1, 2, none⟩ = some (.nilFunc) ∧ W.cell? ⟨w.heap.size + 1, 3, none⟩ = some (.int .i64 0) ∧ (∀ o, W.frozen? ⟨w.heap.size + 1, o, none⟩ = false)) (by kernel_rfl) (by kernel_rfl) ?_ ?_ ?_ ?_ | refine wp_region_Gs (fun W => Ext w W ∧ w1.heap.size + 1 ≤ W.heap.size ∧ W.cell? ⟨w.heap.size, 0, none⟩ = some (.int .i64 3) ∧ W.cell? ⟨w.heap.size, 1, none⟩ = some (.int .i64 ax) ∧ W.cell? ⟨w.heap.size, 2, none⟩ = some (.int .i64 ay) ∧ W.cell? ⟨w.heap.size, 3, none⟩ = some (.int .i64 bx) ∧ W.cell? ⟨w.heap.size, 4, none⟩ = some (.int .i64 by') ∧ W.cell? ⟨w.heap.size, 5, none⟩ = some (.int .i64 cx) ∧ W.cell? ⟨w.heap.size, 6, none⟩ = some (.int .i64 cy) ∧ W.cell? ⟨w1.heap.size, 0, none⟩ = some (.func (.func 78) #[] #[]) ∧ W.cell? ⟨w1.heap.size, 1, none⟩ = some (.func (.func 76) #[] #[]) ∧ W.cell? ⟨w1.heap.size, 2, none⟩ = some (.func (.func 77) #[] #[]) ∧ W.cell? ⟨w1.heap.size, 3, none⟩ = some (.int .i64 2)) (fun W => W.cell? ⟨w.heap.size + 1, 0, none⟩ = some (.nilFunc) ∧ W.cell? ⟨w.heap.size + 1, 1, none⟩ = some (.nilFunc) ∧ W.cell? ⟨w.heap.size + 1, 2, none⟩ = some (.nilFunc) ∧ W.cell? ⟨w.heap.size + 1, 3, none⟩ = some (.int .i64 0) ∧ (∀ o, W.frozen? ⟨w.heap.size + 1, o, none⟩ = false)) ?_ ?_ ?_ ?_
        · refine ⟨⟨bxx, by first | omega | (simp; done) | (simp; omega), ?_⟩, ?_⟩ <;> (try go_simp)
        · (intro W W' h hb; obtain ⟨⟨hx, hz, hc⟩, hr⟩ := h; have hbc : ∀ b o, b < W.heap.size → W'.cell? ⟨b, o, none⟩ = W.cell? ⟨b, o, none⟩ := fun b o h => hb.cell (p := ⟨b, o, none⟩) h; have hbf : ∀ b o, b < W.heap.size → W'.frozen? ⟨b, o, none⟩ = W.frozen? ⟨b, o, none⟩ := fun b o h => hb.frozen (p := ⟨b, o, none⟩) h; refine ⟨⟨hx.step hb, Nat.le_trans hz hb.size, ?_⟩, ?_⟩ <;> (simp (disch := omega) only [hbc, hbf]; assumption))
        · (intro W h; have h2 := h.2.1; first | omega | (simp; omega))
        repeat (first | refine F_s ?_ | refine F_r ?_)
        (refine F_call (v := .bool true) (by rfl) (by rfl) ?_ ?_; (· (intro W hW; (try dsimp only at hW); go_simp; refine (RA.out _).mono ?_; rintro e w' ⟨rfl, hx⟩; exact ⟨_, rfl, rfl, hx⟩))); refine F_put ?_
        repeat (first | refine F_s ?_ | refine F_r ?_)
        (refine F_call (v := .bool true) (by rfl) (by rfl) ?_ ?_; (· (intro W hW; (try dsimp only at hW); go_simp; refine (RB.out _).mono ?_; rintro e w' ⟨rfl, hx⟩; exact ⟨_, rfl, rfl, hx⟩))); refine F_put ?_
        repeat (first | refine F_s ?_ | refine F_r ?_)
        (refine F_call (v := .bool true) (by rfl) (by rfl) ?_ ?_; (· (intro W hW; (try dsimp only at hW); go_simp; refine (RC.out _).mono ?_; rintro e w' ⟨rfl, hx⟩; exact ⟨_, rfl, rfl, hx⟩))); refine F_put ?_
        repeat (first | refine F_s ?_ | refine F_r ?_)
        (refine F_call (v := .bool ((Ed.mk 3 ax ay bx by' cx cy).quarter 3)) (by rfl) (by rfl) ?_ ?_; (· (intro W hW; (try dsimp only at hW); go_simp; refine (CK.out _).mono ?_; rintro e w' ⟨rfl, hx⟩; exact ⟨_, rfl, rfl, hx⟩))); refine F_put ?_
        repeat (first | refine F_s ?_ | refine F_r ?_)
        refine F_store (fun W => (Ext w W ∧ w1.heap.size + 1 ≤ W.heap.size ∧ W.cell? ⟨w.heap.size, 0, none⟩ = some (.int .i64 3) ∧ W.cell? ⟨w.heap.size, 1, none⟩ = some (.int .i64 ax) ∧ W.cell? ⟨w.heap.size, 2, none⟩ = some (.int .i64 ay) ∧ W.cell? ⟨w.heap.size, 3, none⟩ = some (.int .i64 bx) ∧ W.cell? ⟨w.heap.size, 4, none⟩ = some (.int .i64 by') ∧ W.cell? ⟨w.heap.size, 5, none⟩ = some (.int .i64 cx) ∧ W.cell? ⟨w.heap.size, 6, none⟩ = some (.int .i64 cy) ∧ W.cell? ⟨w1.heap.size, 0, none⟩ = some (.func (.func 78) #[] #[]) ∧ W.cell? ⟨w1.heap.size, 1, none⟩ = some (.func (.func 76) #[] #[]) ∧ W.cell? ⟨w1.heap.size, 2, none⟩ = some (.func (.func 77) #[] #[]) ∧ W.cell? ⟨w1.heap.size, 3, none⟩ = some (.int .i64 2)) ∧ (W.cell? ⟨w.heap.size + 1, 0, none⟩ = some (.func (.func 78) #[] #[]) ∧ W.cell? ⟨w.heap.size + 1, 1, none⟩ = some (.func (.func 76) #[] #[]) ∧ W.cell? ⟨w.heap.size + 1, 2, none⟩ = some (.func (.func 77) #[] #[]) ∧ W.cell? ⟨w.heap.size + 1, 3, none⟩ = some (.int .i64 2) ∧ (∀ o, W.frozen? ⟨w.heap.size + 1, o, none⟩ = false))) ?_ (fun _ h => h.1) (by rfl) (by rfl) ?_ ?_
        · (intro W W' h hb; obtain ⟨⟨hx, hz, hc⟩, hr⟩ := h; have hbc : ∀ b o, b < W.heap.size → W'.cell? ⟨b, o, none⟩ = W.cell? ⟨b, o, none⟩ := fun b o h => hb.cell (p := ⟨b, o, none⟩) h; have hbf : ∀ b o, b < W.heap.size → W'.frozen? ⟨b, o, none⟩ = W.frozen? ⟨b, o, none⟩ := fun b o h => hb.frozen (p := ⟨b, o, none⟩) h; refine ⟨⟨hx.step hb, Nat.le_trans hz hb.size, ?_⟩, ?_⟩ <;> (simp (disch := omega) only [hbc, hbf]; assumption))
        · (intro W hW; obtain ⟨⟨hx, hz, hc⟩, hr⟩ := hW; go_simp; (try dsimp only); (repeat' apply And.intro) <;> first | assumption | omega | (exact bxx; done) | (simp; done) | (simp; omega) | (go_simp; done))
        refine F_put ?_
        repeat (first | refine F_s ?_ | refine F_r ?_)
        rintro W ⟨⟨⟨hx1, hz, hc⟩, hr⟩, _⟩
        clear hc
        go_wp2
        exact bodyPost_ret (v := .tuple #[.agg #[.func (.func 78) #[] #[], .func (.func 76) #[] #[], .func (.func 77) #[] #[], .int .i64 2], .bool ((Ed.mk 3 ax ay bx by' cx cy).quarter 3)]) (by simp [results, Tryz.results32, go_sem, *]) rfl ⟨by rw [← RES.out, OKH.out], hx1⟩
set_option maxRecDepth 100000 in
set_option maxHeartbeats 4000000 in
theorem edge_of0 (k : Int) (ax ay bx by' cx cy : Int) (w : World) (hk : kindB k = false) :
    Calls Tryz.prog 32 #[.agg #[.int .i64 k, .int .i64 ax, .int .i64 ay, .int .i64 bx, .int .i64 by', .int .i64 cx, .int .i64 cy]] w fun e w' => e = .returned (.tuple #[.agg #[(fam k).c, (fam k).o, (fam k).r, .int .i64 (fam k).k], .bool (Ed.mk k ax ay bx by' cx cy).ok]) ∧ Ext w w' := by
  have FC := fun w => edge_families k w
  rw [kindB_fam hk] at FC ⊢
  rw [hk] at FC
  have FC := Lib.hid FC
  obtain ⟨r, RES⟩ : ∃ r, Hid ((Ed.mk k ax ay bx by' cx cy).ok = r) := ⟨_, rfl⟩
  rw [RES.out]
  go_enter Tryz.func32, Tryz.ntmps32
  go_wp2_with fail
  refine (FC.out _).mono ?_
  rintro e w1 ⟨rfl, hx⟩
  have hs := hx.size
  simp at hs
  have hx0 : Ext w w1 := Ext.step bxx hx
  have hbc : ∀ b o, b < w.heap.size + 2 → w1.cell? ⟨b, o, none⟩ = _ := fun b o h => hx.cell (p := ⟨b, o, none⟩) (by simp; omega)
  have hbf : ∀ b o, b < w.heap.size + 2 → w1.frozen? ⟨b, o, none⟩ = _ := fun b o h => hx.frozen (p := ⟨b, o, none⟩) (by simp; omega)
  have e0 : ∀ o, w1.cell? ⟨w.heap.size, o, none⟩ = _ := fun o => hbc w.heap.size o (by omega)
  have r0 : ∀ o, w1.cell? ⟨w.heap.size + 1, o, none⟩ = _ := fun o => hbc (w.heap.size + 1) o (by omega)
  have rf : ∀ o, w1.frozen? ⟨w.heap.size + 1, o, none⟩ = false := fun o => (hbf (w.heap.size + 1) o (by omega)).trans (by go_simp)
  have hl : w.heap.size < w1.heap.size := by omega
  have hl1 : w.heap.size + 1 < w1.heap.size := by omega
  clear hbc hbf hx
  go_wp2_with fail
  first | refine wp_region_G (fun W => Ext w W ∧ w1.heap.size + 1 ≤ W.heap.size ∧ W.cell? ⟨w.heap.size, 0, none⟩ = some (.int .i64 k) ∧ W.cell? ⟨w.heap.size, 1, none⟩ = some (.int .i64 ax) ∧ W.cell? ⟨w.heap.size, 2, none⟩ = some (.int .i64 ay) ∧ W.cell? ⟨w.heap.size, 3, none⟩ = some (.int .i64 bx) ∧ W.cell? ⟨w.heap.size, 4, none⟩ = some (.int .i64 by') ∧ W.cell? ⟨w.heap.size, 5, none⟩ = some (.int .i64 cx) ∧ W.cell? ⟨w.heap.size, 6, none⟩ = some (.int .i64 cy) ∧ W.cell? ⟨w1.heap.size, 0, none⟩ = some (.nilFunc) ∧ W.cell? ⟨w1.heap.size, 1, none⟩ = some (.nilFunc) ∧ W.cell? ⟨w1.heap.size, 2, none⟩ = some (.nilFunc) ∧ W.cell? ⟨w1.heap.size, 3, none⟩ = some (.int .i64 k)) (fun W => W.cell? ⟨w.heap.size + 1, 0, none⟩ = some (.nilFunc) ∧ W.cell? ⟨w.heap.size + 1, 1, none⟩ = some (.nilFunc) ∧ W.cell? ⟨w.heap.size + 1, 2, none⟩ = some (.nilFunc) ∧ W.cell? ⟨w.heap.size + 1, 3, none⟩ = some (.int .i64 0) ∧ (∀ o, W.frozen? ⟨w.heap.size + 1, o, none⟩ = false)) (by kernel_rfl) (by kernel_rfl) ?_ ?_ ?_ ?_ | refine wp_region_Gs (fun W => Ext w W ∧ w1.heap.size + 1 ≤ W.heap.size ∧ W.cell? ⟨w.heap.size, 0, none⟩ = some (.int .i64 k) ∧ W.cell? ⟨w.heap.size, 1, none⟩ = some (.int .i64 ax) ∧ W.cell? ⟨w.heap.size, 2, none⟩ = some (.int .i64 ay) ∧ W.cell? ⟨w.heap.size, 3, none⟩ = some (.int .i64 bx) ∧ W.cell? ⟨w.heap.size, 4, none⟩ = some (.int .i64 by') ∧ W.cell? ⟨w.heap.size, 5, none⟩ = some (.int .i64 cx) ∧ W.cell? ⟨w.heap.size, 6, none⟩ = some (.int .i64 cy) ∧ W.cell? ⟨w1.heap.size, 0, none⟩ = some (.nilFunc) ∧ W.cell? ⟨w1.heap.size, 1, none⟩ = some (.nilFunc) ∧ W.cell? ⟨w1.heap.size, 2, none⟩ = some (.nilFunc) ∧ W.cell? ⟨w1.heap.size, 3, none⟩ = some (.int .i64 k)) (fun W => W.cell? ⟨w.heap.size + 1, 0, none⟩ = some (.nilFunc) ∧ W.cell? ⟨w.heap.size + 1, 1, none⟩ = some (.nilFunc) ∧ W.cell? ⟨w.heap.size + 1, 2, none⟩ = some (.nilFunc) ∧ W.cell? ⟨w.heap.size + 1, 3, none⟩ = some (.int .i64 0) ∧ (∀ o, W.frozen? ⟨w.heap.size + 1, o, none⟩ = false)) ?_ ?_ ?_ ?_
  · refine ⟨⟨bxx, by first | omega | (simp; done) | (simp; omega), ?_⟩, ?_⟩ <;> (try go_simp)
  · (intro W W' h hb; obtain ⟨⟨hx, hz, hc⟩, hr⟩ := h; have hbc : ∀ b o, b < W.heap.size → W'.cell? ⟨b, o, none⟩ = W.cell? ⟨b, o, none⟩ := fun b o h => hb.cell (p := ⟨b, o, none⟩) h; have hbf : ∀ b o, b < W.heap.size → W'.frozen? ⟨b, o, none⟩ = W.frozen? ⟨b, o, none⟩ := fun b o h => hb.frozen (p := ⟨b, o, none⟩) h; refine ⟨⟨hx.step hb, Nat.le_trans hz hb.size, ?_⟩, ?_⟩ <;> (simp (disch := omega) only [hbc, hbf]; assumption))
  · (intro W h; have h2 := h.2.1; first | omega | (simp; omega))
  repeat (first | refine F_s ?_ | refine F_r ?_)
  refine F_store (fun W => (Ext w W ∧ w1.heap.size + 1 ≤ W.heap.size ∧ W.cell? ⟨w.heap.size, 0, none⟩ = some (.int .i64 k) ∧ W.cell? ⟨w.heap.size, 1, none⟩ = some (.int .i64 ax) ∧ W.cell? ⟨w.heap.size, 2, none⟩ = some (.int .i64 ay) ∧ W.cell? ⟨w.heap.size, 3, none⟩ = some (.int .i64 bx) ∧ W.cell? ⟨w.heap.size, 4, none⟩ = some (.int .i64 by') ∧ W.cell? ⟨w.heap.size, 5, none⟩ = some (.int .i64 cx) ∧ W.cell? ⟨w.heap.size, 6, none⟩ = some (.int .i64 cy) ∧ W.cell? ⟨w1.heap.size, 0, none⟩ = some (.nilFunc) ∧ W.cell? ⟨w1.heap.size, 1, none⟩ = some (.nilFunc) ∧ W.cell? ⟨w1.heap.size, 2, none⟩ = some (.nilFunc) ∧ W.cell? ⟨w1.heap.size, 3, none⟩ = some (.int .i64 k)) ∧ (W.cell? ⟨w.heap.size + 1, 0, none⟩ = some (.nilFunc) ∧ W.cell? ⟨w.heap.size + 1, 1, none⟩ = some (.nilFunc) ∧ W.cell? ⟨w.heap.size + 1, 2, none⟩ = some (.nilFunc) ∧ W.cell? ⟨w.heap.size + 1, 3, none⟩ = some (.int .i64 k) ∧ (∀ o, W.frozen? ⟨w.heap.size + 1, o, none⟩ = false))) ?_ (fun _ h => h.1) (by rfl) (by rfl) ?_ ?_
  · (intro W W' h hb; obtain ⟨⟨hx, hz, hc⟩, hr⟩ := h; have hbc : ∀ b o, b < W.heap.size → W'.cell? ⟨b, o, none⟩ = W.cell? ⟨b, o, none⟩ := fun b o h => hb.cell (p := ⟨b, o, none⟩) h; have hbf : ∀ b o, b < W.heap.size → W'.frozen? ⟨b, o, none⟩ = W.frozen? ⟨b, o, none⟩ := fun b o h => hb.frozen (p := ⟨b, o, none⟩) h; refine ⟨⟨hx.step hb, Nat.le_trans hz hb.size, ?_⟩, ?_⟩ <;> (simp (disch := omega) only [hbc, hbf]; assumption))
  · (intro W hW; obtain ⟨⟨hx, hz, hc⟩, hr⟩ := hW; go_simp; (try dsimp only); (repeat' apply And.intro) <;> first | assumption | omega | (exact bxx; done) | (simp; done) | (simp; omega) | (go_simp; done))
  refine F_put ?_
  repeat (first | refine F_s ?_ | refine F_r ?_)
  rintro W ⟨⟨⟨hx1, hz, hc⟩, hr⟩, _⟩
  clear hc
  go_wp2
  exact bodyPost_ret (v := .tuple #[.agg #[.nilFunc, .nilFunc, .nilFunc, .int .i64 k], .bool false]) (by simp [results, Tryz.results32, go_sem, *]) rfl ⟨by rw [← RES.out, hk_ok hk], hx1⟩
end Go.Proofs.YtmmhiiiaccldmaaGreat
