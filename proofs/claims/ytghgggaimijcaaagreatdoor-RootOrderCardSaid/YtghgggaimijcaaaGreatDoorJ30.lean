/- The walk of the law RootOrder. -/
import Derived.Test.YtghgggaimijcaaaGreatDoorJ28
import Derived.Test.YtghgggaimijcaaaGreatDoorJ29
set_option linter.unusedVariables false
set_option linter.unusedSimpArgs false

namespace Go.Proofs.YtghgggaimijcaaaGreatDoor
open Go.RowKit
attribute [local go_sem] Gives givesU

/-- The three roots. -/
def ordF (q : List Int) (j : Nat) : Rt := madeR (q[j * 4]?.getD 0) (q[j * 4 + 1]?.getD 0) (q[j * 4 + 2]?.getD 0) (q[j * 4 + 3]?.getD 0)
set_option maxRecDepth 100000 in
set_option maxHeartbeats 16000000 in
theorem Order_core (a0 a1 a2 a3 b0 b1 b2 b3 c0 c1 c2 c3 : Int) (w : World) (hi : ∀ z ∈ [a0, a1, a2, a3, b0, b1, b2, b3, c0, c1, c2, c3], In64 z) (ht : Tab w) :
    Calls Tryz.prog 6 #[.agg #[.int .i64 a0, .int .i64 a1, .int .i64 a2, .int .i64 a3, .int .i64 b0, .int .i64 b1, .int .i64 b2, .int .i64 b3, .int .i64 c0, .int .i64 c1, .int .i64 c2, .int .i64 c3]] w fun e w' => e = .returned (.bool true) ∧ Ext w w' := by
  have TB := Lib.hid ht
  have HI := Lib.hid hi
  clear ht hi
  go_enter Tryz.func6, Tryz.ntmps6
  go_wp2_with fail
  refine (law_sanity2 _ (TB.out.ext bxx)).mono ?_
  rintro e w1 ⟨rfl, hx⟩
  have ex1 : Ext w w1 := Ext.step bxx hx
  have hq := heap_ext (heap_new (W := w) rfl) hx
  clear hx
  go_upto_region 3 with (fail)
  refine wp_know (fun W => Ext w W ∧ IRow W w.heap.size [a0, a1, a2, a3, b0, b1, b2, b3, c0, c1, c2, c3] ∧ RLs W w1.heap.size 47 3 0 (ordF [a0, a1, a2, a3, b0, b1, b2, b3, c0, c1, c2, c3]) #[.int .i64 0, .int .i64 0, .bool false, .slice none 0 0, .bool false, .slice none 0 0, .int .i64 0, .int .i64 0, .bool false, .slice none 0 0, .bool false, .slice none 0 0, .int .i64 0, .int .i64 0, .bool false, .slice none 0 0, .bool false, .slice none 0 0]) ⟨ex1.alloc ex1.size _, IRow.heap (heap_old hq) rfl, RLs.zero (heap_new rfl) rfl (by intro v hv z e; subst e; simp at hv)⟩ ?_
  have hg : w.heap.size < w1.heap.size := (Array.getElem?_eq_some_iff.1 hq).1
  obtain ⟨g, G⟩ : ∃ g, Hid (w1.heap.size = g) := ⟨_, Lib.hid rfl⟩
  rw [G.out] at hg ⊢
  clear hq ex1
  rintro W0 ⟨ex, iq, rl⟩
  go_wp2_with fail
  go_loopw [5] (fun i wr => ∃ (k : Nat) (cs : Array Value), k ≤ 3 ∧ i = .int .i64 (k : Int) ∧ Ext w wr ∧ IRow wr w.heap.size [a0, a1, a2, a3, b0, b1, b2, b3, c0, c1, c2, c3] ∧ RLs wr g 47 3 k (ordF [a0, a1, a2, a3, b0, b1, b2, b3, c0, c1, c2, c3]) cs) (fun i _ => 3 - (intOf i).toNat)
  case atStart => exact ⟨0, _, by omega, rfl, ex, iq, rl⟩
  case round =>
    clear ex iq rl
    obtain ⟨k, cs, hk, rfl, ex, iq, rl⟩ := hrel
    by_cases hlt : k < 3
    · have hgl := rl.lt
      have hql := iq.1
      obtain ⟨z0, hz0⟩ : ∃ z, [a0, a1, a2, a3, b0, b1, b2, b3, c0, c1, c2, c3][k * 4]? = some z := ⟨_, List.getElem?_eq_getElem (by simp; omega)⟩
      obtain ⟨z1, hz1⟩ : ∃ z, [a0, a1, a2, a3, b0, b1, b2, b3, c0, c1, c2, c3][k * 4 + 1]? = some z := ⟨_, List.getElem?_eq_getElem (by simp; omega)⟩
      obtain ⟨z2, hz2⟩ : ∃ z, [a0, a1, a2, a3, b0, b1, b2, b3, c0, c1, c2, c3][k * 4 + 2]? = some z := ⟨_, List.getElem?_eq_getElem (by simp; omega)⟩
      obtain ⟨z3, hz3⟩ : ∃ z, [a0, a1, a2, a3, b0, b1, b2, b3, c0, c1, c2, c3][k * 4 + 3]? = some z := ⟨_, List.getElem?_eq_getElem (by simp; omega)⟩
      have q0 := iq.2 _ _ hz0
      have q1 := iq.2 _ _ hz1
      have q2 := iq.2 _ _ hz2
      have q3 := iq.2 _ _ hz3
      have FK : Hid (ordF [a0, a1, a2, a3, b0, b1, b2, b3, c0, c1, c2, c3] k = madeR z0 z1 z2 z3) := Lib.hid (by unfold ordF; rw [hz0, hz1, hz2, hz3]; rfl)
      have MK := Lib.hid (fun W => r02_Made z0 z1 z2 z3 W (HI.out _ (List.mem_of_getElem? hz0)) (HI.out _ (List.mem_of_getElem? hz2)))
      rw [← FK.out] at MK
      clear hz0 hz1 hz2 hz3 FK
      obtain ⟨f, F⟩ : ∃ f, Hid (ordF [a0, a1, a2, a3, b0, b1, b2, b3, c0, c1, c2, c3] = f) := ⟨_, Lib.hid rfl⟩
      rw [F.out] at MK rl
      go_upto_region 6 with (fail)
      have hk3 : (k : Int) < 3 := by omega
      have hk0 : ¬ (k : Int) < 0 := by omega
      have hne : w.heap.size ≠ g := by omega
      have hS0 : Ext w wr ∧ IRow wr w.heap.size [a0, a1, a2, a3, b0, b1, b2, b3, c0, c1, c2, c3] ∧ wr.heap.size ≤ wr.heap.size ∧ wr.cell? ⟨w.heap.size, k * 4, none⟩ = some (.int .i64 z0) ∧ wr.cell? ⟨w.heap.size, k * 4 + 1, none⟩ = some (.int .i64 z1) ∧ wr.cell? ⟨w.heap.size, k * 4 + 2, none⟩ = some (.int .i64 z2) ∧ wr.cell? ⟨w.heap.size, k * 4 + 3, none⟩ = some (.int .i64 z3) := ⟨ex, iq, Nat.le_refl _, q0, q1, q2, q3⟩
      have hSM : FMono (fun W => Ext w W ∧ IRow W w.heap.size [a0, a1, a2, a3, b0, b1, b2, b3, c0, c1, c2, c3] ∧ wr.heap.size ≤ W.heap.size ∧ W.cell? ⟨w.heap.size, k * 4, none⟩ = some (.int .i64 z0) ∧ W.cell? ⟨w.heap.size, k * 4 + 1, none⟩ = some (.int .i64 z1) ∧ W.cell? ⟨w.heap.size, k * 4 + 2, none⟩ = some (.int .i64 z2) ∧ W.cell? ⟨w.heap.size, k * 4 + 3, none⟩ = some (.int .i64 z3)) := by
        intro W W' h hb
        obtain ⟨h1, h2, h3, k0, k1, k2, k3⟩ := h
        have hc : ∀ o, W'.cell? ⟨w.heap.size, o, none⟩ = W.cell? ⟨w.heap.size, o, none⟩ := fun o => hb.cell (p := ⟨w.heap.size, o, none⟩) h2.1
        exact ⟨Ext.step h1 hb, h2.ext hb, Nat.le_trans h3 hb.size, by rw [hc]; exact k0, by rw [hc]; exact k1, by rw [hc]; exact k2, by rw [hc]; exact k3⟩
      have hSO : ∀ W W', (Ext w W ∧ IRow W w.heap.size [a0, a1, a2, a3, b0, b1, b2, b3, c0, c1, c2, c3] ∧ wr.heap.size ≤ W.heap.size ∧ W.cell? ⟨w.heap.size, k * 4, none⟩ = some (.int .i64 z0) ∧ W.cell? ⟨w.heap.size, k * 4 + 1, none⟩ = some (.int .i64 z1) ∧ W.cell? ⟨w.heap.size, k * 4 + 2, none⟩ = some (.int .i64 z2) ∧ W.cell? ⟨w.heap.size, k * 4 + 3, none⟩ = some (.int .i64 z3)) → OnlyB g W W' → (Ext w W' ∧ IRow W' w.heap.size [a0, a1, a2, a3, b0, b1, b2, b3, c0, c1, c2, c3] ∧ wr.heap.size ≤ W'.heap.size ∧ W'.cell? ⟨w.heap.size, k * 4, none⟩ = some (.int .i64 z0) ∧ W'.cell? ⟨w.heap.size, k * 4 + 1, none⟩ = some (.int .i64 z1) ∧ W'.cell? ⟨w.heap.size, k * 4 + 2, none⟩ = some (.int .i64 z2) ∧ W'.cell? ⟨w.heap.size, k * 4 + 3, none⟩ = some (.int .i64 z3)) := by
        intro W W' h ho
        obtain ⟨h1, h2, h3, k0, k1, k2, k3⟩ := h
        have hc : ∀ o, W'.cell? ⟨w.heap.size, o, none⟩ = W.cell? ⟨w.heap.size, o, none⟩ := fun o => World.cell?_of_block (ho.block _ hne)
        exact ⟨h1.trans (ho.below (by omega)), h2.only ho hne, by rw [ho.size]; exact h3, by rw [hc]; exact k0, by rw [hc]; exact k1, by rw [hc]; exact k2, by rw [hc]; exact k3⟩
      refine wp_region_Gs (fun W => Ext w W ∧ IRow W w.heap.size [a0, a1, a2, a3, b0, b1, b2, b3, c0, c1, c2, c3] ∧ wr.heap.size ≤ W.heap.size ∧ W.cell? ⟨w.heap.size, k * 4, none⟩ = some (.int .i64 z0) ∧ W.cell? ⟨w.heap.size, k * 4 + 1, none⟩ = some (.int .i64 z1) ∧ W.cell? ⟨w.heap.size, k * 4 + 2, none⟩ = some (.int .i64 z2) ∧ W.cell? ⟨w.heap.size, k * 4 + 3, none⟩ = some (.int .i64 z3)) (fun W => RLs W g 47 3 k f cs) ⟨hS0, rl⟩ (hSM.and RLs.mono) (fun W h => h.2.2.1) ?_
      clear q0 q1 q2 q3 hS0
      repeat (first | refine F_s ?_ | refine F_r ?_)
      refine F_root (f k) (by rfl) (by rfl) (by intro W hW; (try dsimp only at hW); go_simp; exact (MK.out W).mono fun _ _ h => RetRo.isRo h) ?_; intro n1 p1 l1 c1' m1 q1' k1 d1; refine F_put ?_
      repeat (first | refine F_s ?_ | refine F_r ?_)
      refine F_storeRow (fun W => Ext w W ∧ IRow W w.heap.size [a0, a1, a2, a3, b0, b1, b2, b3, c0, c1, c2, c3] ∧ wr.heap.size ≤ W.heap.size ∧ W.cell? ⟨w.heap.size, k * 4, none⟩ = some (.int .i64 z0) ∧ W.cell? ⟨w.heap.size, k * 4 + 1, none⟩ = some (.int .i64 z1) ∧ W.cell? ⟨w.heap.size, k * 4 + 2, none⟩ = some (.int .i64 z2) ∧ W.cell? ⟨w.heap.size, k * 4 + 3, none⟩ = some (.int .i64 z3)) g _ 3 k 47 32 f cs n1 m1 p1 q1' l1 c1' k1 d1 _ _ (by rfl) (by rfl) (by rfl) (by rfl) rfl (by rfl) (by kernel_rfl) hlt (fun W hW => ⟨hW.1.1.1, hW.1.1.2, hW.1.2, hW.2⟩) hSO hSM (fun _ h => h) ?_
      refine F_put ?_
      repeat (first | refine F_s ?_ | refine F_r ?_)
      rintro W2 ⟨⟨hS, rl2⟩, _⟩
      obtain ⟨ex2, iq2, _⟩ := hS
      clear hSM hSO rl iq ex MK
      rw [← F.out] at rl2
      go_wp2_with fail
      exact ⟨⟨k + 1, _, by omega, rfl, ex2, iq2, rl2⟩, by simp [intOf]; omega⟩
    · obtain rfl : k = 3 := by omega
      obtain ⟨nA, pA, lA, cA, mA, qA, kA, dA, rA⟩ := rl.at 0 (by decide)
      have GA := Lib.hid (made_gd a0 a1 a2 a3 (HI.out a2 (by simp)))
      have IA := Lib.hid (made_add a0 a1 a2 a3 (HI.out a0 (by simp)))
      obtain ⟨A, EA⟩ : ∃ x, Hid (madeR a0 a1 a2 a3 = x) := ⟨_, Lib.hid rfl⟩
      rw [EA.out] at GA IA
      replace rA : RAt wr g 0 A nA pA lA cA mA qA kA dA := by rw [← EA.out]; exact rA
      obtain ⟨nB, pB, lB, cB, mB, qB, kB, dB, rB⟩ := rl.at 1 (by decide)
      have GB := Lib.hid (made_gd b0 b1 b2 b3 (HI.out b2 (by simp)))
      have IB := Lib.hid (made_add b0 b1 b2 b3 (HI.out b0 (by simp)))
      obtain ⟨B, EB⟩ : ∃ x, Hid (madeR b0 b1 b2 b3 = x) := ⟨_, Lib.hid rfl⟩
      rw [EB.out] at GB IB
      replace rB : RAt wr g 6 B nB pB lB cB mB qB kB dB := by rw [← EB.out]; exact rB
      obtain ⟨nC, pC, lC, cC, mC, qC, kC, dC, rC⟩ := rl.at 2 (by decide)
      have GC := Lib.hid (made_gd c0 c1 c2 c3 (HI.out c2 (by simp)))
      have IC := Lib.hid (made_add c0 c1 c2 c3 (HI.out c0 (by simp)))
      obtain ⟨C, EC⟩ : ∃ x, Hid (madeR c0 c1 c2 c3 = x) := ⟨_, Lib.hid rfl⟩
      rw [EC.out] at GC IC
      replace rC : RAt wr g 12 C nC pC lC cC mC qC kC dC := by rw [← EC.out]; exact rC
      obtain ⟨a, Va⟩ : ∃ z, Hid (cmpRt A B = z) := ⟨_, Lib.hid rfl⟩
      obtain ⟨b, Vb⟩ : ∃ z, Hid (cmpRt B C = z) := ⟨_, Lib.hid rfl⟩
      obtain ⟨c, Vc⟩ : ∃ z, Hid (cmpRt A C = z) := ⟨_, Lib.hid rfl⟩
      obtain ⟨LAN, LSELF, La, Lb, Lc, L1, L2⟩ := order_law GA.out GB.out GC.out Va.out Vb.out Vc.out
      have VAN := Lib.hid LAN
      have VSELF := Lib.hid LSELF
      have HLa := Lib.hid La
      have HLb := Lib.hid Lb
      have HLc := Lib.hid Lc
      have HL1 := Lib.hid L1
      have HL2 := Lib.hid L2
      clear LAN LSELF La Lb Lc L1 L2 hk hlt rl
      go_upto_region 7 with (fail)
      obtain ⟨⟨A0, A1, A2, A3, A4, A5⟩, _, An, Ad⟩ := id rA
      have HAn := Lib.hid An
      have HAd := Lib.hid Ad
      clear An Ad
      obtain ⟨⟨B0, B1, B2, B3, B4, B5⟩, _, Bn, Bd⟩ := id rB
      have HBn := Lib.hid Bn
      have HBd := Lib.hid Bd
      clear Bn Bd
      refine wp_FS (fun W => W.cell? ⟨g, 0, none⟩ = some (.int .i64 A.add) ∧ W.cell? ⟨g, 1, none⟩ = some (.int .i64 A.s) ∧ W.cell? ⟨g, 2, none⟩ = some (.bool nA) ∧ W.cell? ⟨g, 3, none⟩ = some (.slice pA lA cA) ∧ W.cell? ⟨g, 4, none⟩ = some (.bool mA) ∧ W.cell? ⟨g, 5, none⟩ = some (.slice qA kA dA) ∧ W.cell? ⟨g, 6, none⟩ = some (.int .i64 B.add) ∧ W.cell? ⟨g, 7, none⟩ = some (.int .i64 B.s) ∧ W.cell? ⟨g, 8, none⟩ = some (.bool nB) ∧ W.cell? ⟨g, 9, none⟩ = some (.slice pB lB cB) ∧ W.cell? ⟨g, 10, none⟩ = some (.bool mB) ∧ W.cell? ⟨g, 11, none⟩ = some (.slice qB kB dB)) ?_
      repeat (first | refine F_s ?_ | refine F_r ?_)
      (refine F_call (v := .int .i64 a) (by rfl) (by rfl) ?_ ?_; (· (intro W hW; (try dsimp only at hW); go_simp; refine (root_CmpE A.add A.s B.add B.s A.n A.d B.n B.d (a) _ _ _ _ _ _ _ _ _ _ _ _ _ _ _ _ W (HAn.out.ext hW.1) (HAd.out.ext hW.1) (HBn.out.ext hW.1) (HBd.out.ext hW.1) IA.out IB.out Va.out).mono ?_; rintro e w' ⟨rfl, hx⟩; exact ⟨_, rfl, rfl, hx⟩))); refine F_put ?_
      repeat (first | refine F_s ?_ | refine F_r ?_)
      rintro W7 ⟨hx, _⟩
      replace ex := Ext.step ex hx
      replace iq := iq.ext hx
      replace rA := rA.ext hx
      clear A0 A1 A2 A3 A4 A5 HAn HAd
      replace rB := rB.ext hx
      clear B0 B1 B2 B3 B4 B5 HBn HBd
      replace rC := rC.ext hx
      clear hx
      go_upto_region 8 with (fail)
      obtain ⟨⟨B0, B1, B2, B3, B4, B5⟩, _, Bn, Bd⟩ := id rB
      have HBn := Lib.hid Bn
      have HBd := Lib.hid Bd
      clear Bn Bd
      obtain ⟨⟨C0, C1, C2, C3, C4, C5⟩, _, Cn, Cd⟩ := id rC
      have HCn := Lib.hid Cn
      have HCd := Lib.hid Cd
      clear Cn Cd
      refine wp_FS (fun W => W.cell? ⟨g, 6, none⟩ = some (.int .i64 B.add) ∧ W.cell? ⟨g, 7, none⟩ = some (.int .i64 B.s) ∧ W.cell? ⟨g, 8, none⟩ = some (.bool nB) ∧ W.cell? ⟨g, 9, none⟩ = some (.slice pB lB cB) ∧ W.cell? ⟨g, 10, none⟩ = some (.bool mB) ∧ W.cell? ⟨g, 11, none⟩ = some (.slice qB kB dB) ∧ W.cell? ⟨g, 12, none⟩ = some (.int .i64 C.add) ∧ W.cell? ⟨g, 13, none⟩ = some (.int .i64 C.s) ∧ W.cell? ⟨g, 14, none⟩ = some (.bool nC) ∧ W.cell? ⟨g, 15, none⟩ = some (.slice pC lC cC) ∧ W.cell? ⟨g, 16, none⟩ = some (.bool mC) ∧ W.cell? ⟨g, 17, none⟩ = some (.slice qC kC dC)) ?_
      repeat (first | refine F_s ?_ | refine F_r ?_)
      (refine F_call (v := .int .i64 b) (by rfl) (by rfl) ?_ ?_; (· (intro W hW; (try dsimp only at hW); go_simp; refine (root_CmpE B.add B.s C.add C.s B.n B.d C.n C.d (b) _ _ _ _ _ _ _ _ _ _ _ _ _ _ _ _ W (HBn.out.ext hW.1) (HBd.out.ext hW.1) (HCn.out.ext hW.1) (HCd.out.ext hW.1) IB.out IC.out Vb.out).mono ?_; rintro e w' ⟨rfl, hx⟩; exact ⟨_, rfl, rfl, hx⟩))); refine F_put ?_
      repeat (first | refine F_s ?_ | refine F_r ?_)
      rintro W8 ⟨hx, _⟩
      replace ex := Ext.step ex hx
      replace iq := iq.ext hx
      replace rB := rB.ext hx
      clear B0 B1 B2 B3 B4 B5 HBn HBd
      replace rC := rC.ext hx
      clear C0 C1 C2 C3 C4 C5 HCn HCd
      replace rA := rA.ext hx
      clear hx
      go_upto_region 9 with (fail)
      obtain ⟨⟨A0, A1, A2, A3, A4, A5⟩, _, An, Ad⟩ := id rA
      have HAn := Lib.hid An
      have HAd := Lib.hid Ad
      clear An Ad
      obtain ⟨⟨C0, C1, C2, C3, C4, C5⟩, _, Cn, Cd⟩ := id rC
      have HCn := Lib.hid Cn
      have HCd := Lib.hid Cd
      clear Cn Cd
      refine wp_FS (fun W => W.cell? ⟨g, 0, none⟩ = some (.int .i64 A.add) ∧ W.cell? ⟨g, 1, none⟩ = some (.int .i64 A.s) ∧ W.cell? ⟨g, 2, none⟩ = some (.bool nA) ∧ W.cell? ⟨g, 3, none⟩ = some (.slice pA lA cA) ∧ W.cell? ⟨g, 4, none⟩ = some (.bool mA) ∧ W.cell? ⟨g, 5, none⟩ = some (.slice qA kA dA) ∧ W.cell? ⟨g, 12, none⟩ = some (.int .i64 C.add) ∧ W.cell? ⟨g, 13, none⟩ = some (.int .i64 C.s) ∧ W.cell? ⟨g, 14, none⟩ = some (.bool nC) ∧ W.cell? ⟨g, 15, none⟩ = some (.slice pC lC cC) ∧ W.cell? ⟨g, 16, none⟩ = some (.bool mC) ∧ W.cell? ⟨g, 17, none⟩ = some (.slice qC kC dC)) ?_
      repeat (first | refine F_s ?_ | refine F_r ?_)
      (refine F_call (v := .int .i64 c) (by rfl) (by rfl) ?_ ?_; (· (intro W hW; (try dsimp only at hW); go_simp; refine (root_CmpE A.add A.s C.add C.s A.n A.d C.n C.d (c) _ _ _ _ _ _ _ _ _ _ _ _ _ _ _ _ W (HAn.out.ext hW.1) (HAd.out.ext hW.1) (HCn.out.ext hW.1) (HCd.out.ext hW.1) IA.out IC.out Vc.out).mono ?_; rintro e w' ⟨rfl, hx⟩; exact ⟨_, rfl, rfl, hx⟩))); refine F_put ?_
      repeat (first | refine F_s ?_ | refine F_r ?_)
      rintro W9 ⟨hx, _⟩
      replace ex := Ext.step ex hx
      replace iq := iq.ext hx
      replace rA := rA.ext hx
      clear A0 A1 A2 A3 A4 A5 HAn HAd
      replace rC := rC.ext hx
      clear C0 C1 C2 C3 C4 C5 HCn HCd
      replace rB := rB.ext hx
      clear hx
      have sq1 : IntKind.i64.wrap (a * a) = a * a := by rcases HLa.out with rfl | rfl | rfl <;> rfl
      have sq2 : decide (1 < a * a) = false := by rcases HLa.out with rfl | rfl | rfl <;> rfl
      have sq2' : ¬ 1 < a * a := by rcases HLa.out with rfl | rfl | rfl <;> decide
      have ng1 : IntKind.i64.wrap (- -a) = a := by rcases HLa.out with rfl | rfl | rfl <;> rfl
      have ng3 : IntKind.i64.wrap a = a := by rcases HLa.out with rfl | rfl | rfl <;> rfl
      have ng2 : (a != a) = false := by simp
      go_upto_region 10 with (fail)
      obtain ⟨⟨A0, A1, A2, A3, A4, A5⟩, _, An, Ad⟩ := id rA
      have HAn := Lib.hid An
      have HAd := Lib.hid Ad
      clear An Ad
      obtain ⟨⟨B0, B1, B2, B3, B4, B5⟩, _, Bn, Bd⟩ := id rB
      have HBn := Lib.hid Bn
      have HBd := Lib.hid Bd
      clear Bn Bd
      refine wp_FS (fun W => W.cell? ⟨g, 0, none⟩ = some (.int .i64 A.add) ∧ W.cell? ⟨g, 1, none⟩ = some (.int .i64 A.s) ∧ W.cell? ⟨g, 2, none⟩ = some (.bool nA) ∧ W.cell? ⟨g, 3, none⟩ = some (.slice pA lA cA) ∧ W.cell? ⟨g, 4, none⟩ = some (.bool mA) ∧ W.cell? ⟨g, 5, none⟩ = some (.slice qA kA dA) ∧ W.cell? ⟨g, 6, none⟩ = some (.int .i64 B.add) ∧ W.cell? ⟨g, 7, none⟩ = some (.int .i64 B.s) ∧ W.cell? ⟨g, 8, none⟩ = some (.bool nB) ∧ W.cell? ⟨g, 9, none⟩ = some (.slice pB lB cB) ∧ W.cell? ⟨g, 10, none⟩ = some (.bool mB) ∧ W.cell? ⟨g, 11, none⟩ = some (.slice qB kB dB)) ?_
      repeat (first | refine F_s ?_ | refine F_r ?_)
      (refine F_call (v := .int .i64 (-a)) (by rfl) (by rfl) ?_ ?_; (· (intro W hW; (try dsimp only at hW); go_simp; refine (root_CmpE B.add B.s A.add A.s B.n B.d A.n A.d (-a) _ _ _ _ _ _ _ _ _ _ _ _ _ _ _ _ W (HBn.out.ext hW.1) (HBd.out.ext hW.1) (HAn.out.ext hW.1) (HAd.out.ext hW.1) IB.out IA.out VAN.out).mono ?_; rintro e w' ⟨rfl, hx⟩; exact ⟨_, rfl, rfl, hx⟩))); refine F_put ?_
      repeat (first | refine F_s ?_ | refine F_r ?_)
      (refine F_call (v := .int .i64 0) (by rfl) (by rfl) ?_ ?_; (· (intro W hW; (try dsimp only at hW); go_simp; refine (root_CmpE A.add A.s A.add A.s A.n A.d A.n A.d (0) _ _ _ _ _ _ _ _ _ _ _ _ _ _ _ _ W (HAn.out.ext hW.1) (HAd.out.ext hW.1) (HAn.out.ext hW.1) (HAd.out.ext hW.1) IA.out IA.out VSELF.out).mono ?_; rintro e w' ⟨rfl, hx⟩; exact ⟨_, rfl, rfl, hx⟩))); refine F_put ?_
      repeat (first | refine F_s ?_ | refine F_r ?_)
      rintro W10 ⟨hx, _⟩
      replace ex := Ext.step ex hx
      replace iq := iq.ext hx
      replace rA := rA.ext hx
      clear A0 A1 A2 A3 A4 A5 HAn HAd
      replace rB := rB.ext hx
      clear B0 B1 B2 B3 B4 B5 HBn HBd
      replace rC := rC.ext hx
      clear hx sq1 sq2 sq2' ng1 ng2 ng3
      go_upto_region 12 with (fail)
      have q8 := iq.2 8 c0 rfl
      obtain ⟨n, HNn⟩ : ∃ n, Hid (c0.tmod 1000 = n) := ⟨_, Lib.hid rfl⟩
      have NB : Hid (-9223372036854775808 ≤ n ∧ n ≤ 9223372036854775807) := Lib.hid (by have := tmodB_bd c0 (m := 1000) (by decide); rw [HNn.out] at this; omega)
      have NB2 : Hid (-9223372036854775808 ≤ -n ∧ -n ≤ 9223372036854775807) := Lib.hid (by have := tmodB_bd c0 (m := 1000) (by decide); rw [HNn.out] at this; omega)
      have hnn : IntKind.i64.wrap (-n) = -n := wrapI NB2.out.1 NB2.out.2
      obtain ⟨u, U⟩ : ∃ u, Hid (-n = u) := ⟨_, Lib.hid rfl⟩
      rw [U.out] at NB2
      have hnu : IntKind.i64.wrap (-n) = u := hnn.trans U.out
      clear hnn
      obtain ⟨sg, SG⟩ : ∃ s, Hid (sgn u = s) := ⟨_, Lib.hid rfl⟩
      obtain ⟨⟨X, eX⟩, PX⟩ : ∃ r, Hid (plusR A n = r) := ⟨_, Lib.hid rfl⟩
      have QX : Hid (eX = true → X = ⟨A.add + n, A.s, A.n, A.d⟩ ∧ In64 X.add) := Lib.hid (by
        intro he
        have h := PX.out
        rw [plus_ok GA.out] at h
        split at h
        · rename_i hi
          simp only [Prod.mk.injEq] at h
          rw [← h.1]
          exact ⟨rfl, inI_iff.1 hi⟩
        · simp only [Prod.mk.injEq] at h
          rw [he] at h
          exact absurd h.2 (by simp))
      obtain ⟨⟨Y, eY⟩, PY⟩ : ∃ r, Hid (plusR B n = r) := ⟨_, Lib.hid rfl⟩
      have QY : Hid (eY = true → Y = ⟨B.add + n, B.s, B.n, B.d⟩ ∧ In64 Y.add) := Lib.hid (by
        intro he
        have h := PY.out
        rw [plus_ok GB.out] at h
        split at h
        · rename_i hi
          simp only [Prod.mk.injEq] at h
          rw [← h.1]
          exact ⟨rfl, inI_iff.1 hi⟩
        · simp only [Prod.mk.injEq] at h
          rw [he] at h
          exact absurd h.2 (by simp))
      rename_i Ka Ha Kb Hb
      have REST : ∀ (v0 v2 v5 v7 v8 v9 v10 v11 v12 v13 v14 v15 v16 v17 v18 v19 v20 v21 v22 v23 v24 v25 v26 v27 v28 v29 v30 v31 v32 v33 v34 v35 v36 v37 v38 v39 v40 v41 v42 v43 v44 v45 v46 v47 v48 v49 v50 v51 v52 v53 v54 v55 v56 v57 v58 v59 v60 v61 v62 v63 v64 v65 v66 v67 v68 v69 v70 v71 v72 v73 v74 v75 v76 v77 v78 v79 v80 v81 v82 v83 v84 v85 v86 v87 v88 v89 v90 v91 v92 v93 v94 v95 v96 v97 v98 v99 v100 v101 v102 v103 v104 v105 v106 v107 v108 v109 v110 v111 v112 v113 v114 v115 v116 v117 v118 v119 v120 v121 v122 v123 v124 v125 v126 v127 v128 v129 v130 v131 v132 v133 v134 v135 v136 v137 v138 v139 v140 v141 v142 v143 v144 v145 v146 v147 v148 v149 v150 v151 v152 v153 v154 v155 v156 v157 v158 v159 v160 v161 v162 v163 v164 v165 v166 v167 v168 : Value), Ka { tmps := #[v0, .pointer (some ⟨w.heap.size, 0, none⟩), v2, .bool true, .pointer (some ⟨g, 0, none⟩), v5, .int .i64 a, v7, v8, v9, v10, v11, v12, v13, v14, v15, v16, v17, v18, v19, v20, v21, v22, v23, v24, v25, v26, v27, v28, v29, v30, v31, v32, v33, v34, v35, v36, v37, v38, v39, v40, v41, v42, v43, v44, v45, v46, v47, v48, v49, v50, v51, v52, v53, v54, v55, v56, v57, v58, v59, v60, v61, v62, v63, v64, v65, v66, v67, v68, v69, v70, v71, v72, v73, v74, v75, v76, v77, v78, v79, v80, v81, v82, v83, v84, v85, v86, v87, v88, v89, v90, v91, v92, v93, v94, v95, v96, v97, v98, v99, v100, v101, v102, v103, v104, v105, v106, v107, v108, v109, v110, v111, v112, v113, v114, v115, v116, v117, v118, v119, v120, v121, v122, v123, v124, v125, v126, v127, v128, v129, v130, v131, v132, v133, v134, v135, v136, v137, v138, v139, v140, v141, v142, v143, v144, v145, v146, v147, v148, v149, v150, v151, v152, v153, v154, v155, v156, v157, v158, v159, v160, v161, v162, v163, v164, v165, v166, v167, v168], defers := [] } W10 := by
        intro v0 v2 v5 v7 v8 v9 v10 v11 v12 v13 v14 v15 v16 v17 v18 v19 v20 v21 v22 v23 v24 v25 v26 v27 v28 v29 v30 v31 v32 v33 v34 v35 v36 v37 v38 v39 v40 v41 v42 v43 v44 v45 v46 v47 v48 v49 v50 v51 v52 v53 v54 v55 v56 v57 v58 v59 v60 v61 v62 v63 v64 v65 v66 v67 v68 v69 v70 v71 v72 v73 v74 v75 v76 v77 v78 v79 v80 v81 v82 v83 v84 v85 v86 v87 v88 v89 v90 v91 v92 v93 v94 v95 v96 v97 v98 v99 v100 v101 v102 v103 v104 v105 v106 v107 v108 v109 v110 v111 v112 v113 v114 v115 v116 v117 v118 v119 v120 v121 v122 v123 v124 v125 v126 v127 v128 v129 v130 v131 v132 v133 v134 v135 v136 v137 v138 v139 v140 v141 v142 v143 v144 v145 v146 v147 v148 v149 v150 v151 v152 v153 v154 v155 v156 v157 v158 v159 v160 v161 v162 v163 v164 v165 v166 v167 v168
        refine Ha _ _ ?_
        clear HLa HLb HLc HL1 HL2 VAN VSELF Vb Vc Hb Ha
        go_upto_region 15 with (fail)
        rw [HNn.out]
        clear q8
        obtain ⟨⟨A0, A1, A2, A3, A4, A5⟩, _, An, Ad⟩ := id rA
        have HAn := Lib.hid An
        have HAd := Lib.hid Ad
        clear An Ad
        refine wp_KB (W10.heap.size) (fun W => Ext W10 W ∧ W10.heap.size ≤ W.heap.size ∧ W.cell? ⟨g, 0, none⟩ = some (.int .i64 A.add) ∧ W.cell? ⟨g, 1, none⟩ = some (.int .i64 A.s) ∧ W.cell? ⟨g, 2, none⟩ = some (.bool nA) ∧ W.cell? ⟨g, 3, none⟩ = some (.slice pA lA cA) ∧ W.cell? ⟨g, 4, none⟩ = some (.bool mA) ∧ W.cell? ⟨g, 5, none⟩ = some (.slice qA kA dA)) ?_
        intro hKeep
        repeat (first | refine F_s ?_ | refine F_r ?_)
        refine F_rootB (X, eX) (by rfl) (by rfl) (by intro W hW; (try dsimp only at hW); go_simp; exact (root_PlusE A.add A.s n A.n A.d (X, eX) _ _ _ _ _ _ _ _ W (HAn.out.ext hW.1) (HAd.out.ext hW.1) IA.out NB.out PX.out).mono fun _ _ h => RetRt.isRb h) ?_; intro nX pX lX cX mX qX kX dX; refine F_put ?_
        repeat (first | refine F_s ?_ | refine F_r ?_)
        refine F_al ?_
        intro gX hgX
        simp only [List.mem_cons, List.mem_range, not_or, Nat.not_lt] at hgX
        repeat (first | refine F_s ?_ | refine F_r ?_)
        refine F_w (fun W => (_ ∧ NR W nX pX lX cX X.n) ∧ NR W mX qX kX dX X.d) (fun W hW => ⟨⟨⟨hW.1.1.1, hW.1.1.2⟩, hW.1.2⟩, hW.2⟩) ?_
        repeat (first | refine F_s ?_ | refine F_r ?_)
        rintro W15 ⟨⟨⟨⟨hS, nr1⟩, nr2⟩, hb⟩, _⟩
        have rX : RAt W15 gX 0 X nX pX lX cX mX qX kX dX := by
          obtain ⟨⟨x0, x1, x2, x3, x4, x5⟩, _, xl⟩ := cells6 hb
          exact ⟨⟨x0, x1, x2, x3, x4, x5⟩, xl, nr1, nr2⟩
        have hx := hS.1
        replace ex := Ext.step ex hx
        replace rA := rA.ext hx
        clear A0 A1 A2 A3 A4 A5 HAn HAd
        replace rB := rB.ext hx
        clear hS nr1 nr2 hb hKeep hx rC iq
        go_upto_region 16 with (fail)
        obtain ⟨⟨B0, B1, B2, B3, B4, B5⟩, _, Bn, Bd⟩ := id rB
        have HBn := Lib.hid Bn
        have HBd := Lib.hid Bd
        clear Bn Bd
        refine wp_KB (W15.heap.size) (fun W => Ext W15 W ∧ W15.heap.size ≤ W.heap.size ∧ W.cell? ⟨g, 6, none⟩ = some (.int .i64 B.add) ∧ W.cell? ⟨g, 7, none⟩ = some (.int .i64 B.s) ∧ W.cell? ⟨g, 8, none⟩ = some (.bool nB) ∧ W.cell? ⟨g, 9, none⟩ = some (.slice pB lB cB) ∧ W.cell? ⟨g, 10, none⟩ = some (.bool mB) ∧ W.cell? ⟨g, 11, none⟩ = some (.slice qB kB dB)) ?_
        intro hKeep
        repeat (first | refine F_s ?_ | refine F_r ?_)
        refine F_rootB (Y, eY) (by rfl) (by rfl) (by intro W hW; (try dsimp only at hW); go_simp; exact (root_PlusE B.add B.s n B.n B.d (Y, eY) _ _ _ _ _ _ _ _ W (HBn.out.ext hW.1) (HBd.out.ext hW.1) IB.out NB.out PY.out).mono fun _ _ h => RetRt.isRb h) ?_; intro nY pY lY cY mY qY kY dY; refine F_put ?_
        repeat (first | refine F_s ?_ | refine F_r ?_)
        refine F_al ?_
        intro gY hgY
        simp only [List.mem_cons, List.mem_range, not_or, Nat.not_lt] at hgY
        repeat (first | refine F_s ?_ | refine F_r ?_)
        refine F_w (fun W => (_ ∧ NR W nY pY lY cY Y.n) ∧ NR W mY qY kY dY Y.d) (fun W hW => ⟨⟨⟨hW.1.1.1, hW.1.1.2⟩, hW.1.2⟩, hW.2⟩) ?_
        repeat (first | refine F_s ?_ | refine F_r ?_)
        rintro W16 ⟨⟨⟨⟨hS, nr1⟩, nr2⟩, hb⟩, _⟩
        have rY : RAt W16 gY 0 Y nY pY lY cY mY qY kY dY := by
          obtain ⟨⟨x0, x1, x2, x3, x4, x5⟩, _, xl⟩ := cells6 hb
          exact ⟨⟨x0, x1, x2, x3, x4, x5⟩, xl, nr1, nr2⟩
        have hx := hS.1
        replace ex := Ext.step ex hx
        replace rB := rB.ext hx
        clear B0 B1 B2 B3 B4 B5 HBn HBd
        replace rA := rA.ext hx
        replace rX := rX.ext hx
        clear hS nr1 nr2 hb hKeep hx rB
        go_upto_region 17 with (fail)
        cases eX with
        | false =>
          go_wp2
          go_ret
          exact ⟨rfl, ex⟩
        | true =>
        cases eY with
        | false =>
          go_wp2
          go_ret
          exact ⟨rfl, ex⟩
        | true =>
        obtain ⟨ZX, JX⟩ := QX.out rfl
        replace ZX := Lib.hid ZX
        replace JX := Lib.hid JX
        obtain ⟨ZY, JY⟩ := QY.out rfl
        replace ZY := Lib.hid ZY
        replace JY := Lib.hid JY
        have PZ : Hid (plusR X u = (A, true)) := Lib.hid (by rw [ZX.out, ← U.out]; exact plus_back GA.out n (inI_iff.2 IA.out))
        have CXY : Hid (cmpRt X Y = a) := Lib.hid (by rw [ZX.out, ZY.out, plus_cmp GA.out GB.out]; exact Va.out)
        have CAX : Hid (cmpRt A X = sg) := Lib.hid (by rw [ZX.out, plus_sign GA.out, U.out]; exact SG.out)
        clear PX PY QX QY ZX ZY Va GA GB GC
        go_upto_region 19 with (fail)
        obtain ⟨⟨X0, X1, X2, X3, X4, X5⟩, _, Xn, Xd⟩ := id rX
        have HXn := Lib.hid Xn
        have HXd := Lib.hid Xd
        clear Xn Xd
        refine wp_KB (W16.heap.size) (fun W => Ext W16 W ∧ W16.heap.size ≤ W.heap.size ∧ W.cell? ⟨gX, 0, none⟩ = some (.int .i64 X.add) ∧ W.cell? ⟨gX, 1, none⟩ = some (.int .i64 X.s) ∧ W.cell? ⟨gX, 2, none⟩ = some (.bool nX) ∧ W.cell? ⟨gX, 3, none⟩ = some (.slice pX lX cX) ∧ W.cell? ⟨gX, 4, none⟩ = some (.bool mX) ∧ W.cell? ⟨gX, 5, none⟩ = some (.slice qX kX dX)) ?_
        intro hKeep
        repeat (first | refine F_s ?_ | refine F_r ?_)
        refine F_rootB (A, true) (by rfl) (by rfl) (by intro W hW; (try dsimp only at hW); go_simp; exact (root_PlusE X.add X.s u X.n X.d (A, true) _ _ _ _ _ _ _ _ W (HXn.out.ext hW.1) (HXd.out.ext hW.1) JX.out NB2.out PZ.out).mono fun _ _ h => RetRt.isRb h) ?_; intro nZ pZ lZ cZ mZ qZ kZ dZ; refine F_put ?_
        repeat (first | refine F_s ?_ | refine F_r ?_)
        refine F_al ?_
        intro gZ hgZ
        simp only [List.mem_cons, List.mem_range, not_or, Nat.not_lt] at hgZ
        repeat (first | refine F_s ?_ | refine F_r ?_)
        refine F_w (fun W => (_ ∧ NR W nZ pZ lZ cZ A.n) ∧ NR W mZ qZ kZ dZ A.d) (fun W hW => ⟨⟨⟨hW.1.1.1, hW.1.1.2⟩, hW.1.2⟩, hW.2⟩) ?_
        repeat (first | refine F_s ?_ | refine F_r ?_)
        rintro W19 ⟨⟨⟨⟨hS, nr1⟩, nr2⟩, hb⟩, _⟩
        have rZ : RAt W19 gZ 0 A nZ pZ lZ cZ mZ qZ kZ dZ := by
          obtain ⟨⟨x0, x1, x2, x3, x4, x5⟩, _, xl⟩ := cells6 hb
          exact ⟨⟨x0, x1, x2, x3, x4, x5⟩, xl, nr1, nr2⟩
        have hx := hS.1
        replace ex := Ext.step ex hx
        replace rX := rX.ext hx
        clear X0 X1 X2 X3 X4 X5 HXn HXd
        replace rA := rA.ext hx
        replace rY := rY.ext hx
        clear hS nr1 nr2 hb hKeep hx
        go_upto_region 20 with (fail)
        obtain ⟨⟨X0, X1, X2, X3, X4, X5⟩, _, Xn, Xd⟩ := id rX
        have HXn := Lib.hid Xn
        have HXd := Lib.hid Xd
        clear Xn Xd
        obtain ⟨⟨Y0, Y1, Y2, Y3, Y4, Y5⟩, _, Yn, Yd⟩ := id rY
        have HYn := Lib.hid Yn
        have HYd := Lib.hid Yd
        clear Yn Yd
        obtain ⟨⟨Z0, Z1, Z2, Z3, Z4, Z5⟩, _, Zn, Zd⟩ := id rZ
        have HZn := Lib.hid Zn
        have HZd := Lib.hid Zd
        clear Zn Zd
        obtain ⟨⟨A0, A1, A2, A3, A4, A5⟩, _, An, Ad⟩ := id rA
        have HAn := Lib.hid An
        have HAd := Lib.hid Ad
        clear An Ad
        have sge : (sg == sg) = true := by simp
        have sga : (a == a) = true := by simp
        refine wp_FS (fun W => W.cell? ⟨gX, 0, none⟩ = some (.int .i64 X.add) ∧ W.cell? ⟨gX, 1, none⟩ = some (.int .i64 X.s) ∧ W.cell? ⟨gX, 2, none⟩ = some (.bool nX) ∧ W.cell? ⟨gX, 3, none⟩ = some (.slice pX lX cX) ∧ W.cell? ⟨gX, 4, none⟩ = some (.bool mX) ∧ W.cell? ⟨gX, 5, none⟩ = some (.slice qX kX dX) ∧ W.cell? ⟨gY, 0, none⟩ = some (.int .i64 Y.add) ∧ W.cell? ⟨gY, 1, none⟩ = some (.int .i64 Y.s) ∧ W.cell? ⟨gY, 2, none⟩ = some (.bool nY) ∧ W.cell? ⟨gY, 3, none⟩ = some (.slice pY lY cY) ∧ W.cell? ⟨gY, 4, none⟩ = some (.bool mY) ∧ W.cell? ⟨gY, 5, none⟩ = some (.slice qY kY dY) ∧ W.cell? ⟨gZ, 0, none⟩ = some (.int .i64 A.add) ∧ W.cell? ⟨gZ, 1, none⟩ = some (.int .i64 A.s) ∧ W.cell? ⟨gZ, 2, none⟩ = some (.bool nZ) ∧ W.cell? ⟨gZ, 3, none⟩ = some (.slice pZ lZ cZ) ∧ W.cell? ⟨gZ, 4, none⟩ = some (.bool mZ) ∧ W.cell? ⟨gZ, 5, none⟩ = some (.slice qZ kZ dZ) ∧ W.cell? ⟨g, 0, none⟩ = some (.int .i64 A.add) ∧ W.cell? ⟨g, 1, none⟩ = some (.int .i64 A.s) ∧ W.cell? ⟨g, 2, none⟩ = some (.bool nA) ∧ W.cell? ⟨g, 3, none⟩ = some (.slice pA lA cA) ∧ W.cell? ⟨g, 4, none⟩ = some (.bool mA) ∧ W.cell? ⟨g, 5, none⟩ = some (.slice qA kA dA)) ?_
        repeat (first | refine F_s ?_ | refine F_r ?_)
        (refine F_call (v := .int .i64 a) (by rfl) (by rfl) ?_ ?_; (· (intro W hW; (try dsimp only at hW); go_simp; refine (root_CmpE X.add X.s Y.add Y.s X.n X.d Y.n Y.d (a) _ _ _ _ _ _ _ _ _ _ _ _ _ _ _ _ W (HXn.out.ext hW.1) (HXd.out.ext hW.1) (HYn.out.ext hW.1) (HYd.out.ext hW.1) JX.out JY.out CXY.out).mono ?_; rintro e w' ⟨rfl, hx⟩; exact ⟨_, rfl, rfl, hx⟩))); refine F_put ?_
        repeat (first | refine F_s ?_ | refine F_r ?_)
        (refine F_call (v := .bool true) (by rfl) (by rfl) ?_ ?_; (· (intro W hW; (try dsimp only at hW); go_simp; refine (r02_SameT A.add A.s A.n A.d A.add A.s A.n A.d true _ _ _ _ _ _ _ _ _ _ _ _ _ _ _ _ W (HZn.out.ext hW.1) (HZd.out.ext hW.1) (HAn.out.ext hW.1) (HAd.out.ext hW.1) (sameR_self _)).mono ?_; rintro e w' ⟨rfl, hx⟩; exact ⟨_, rfl, rfl, hx⟩))); refine F_put ?_
        repeat (first | refine F_s ?_ | refine F_r ?_)
        (refine F_call (v := .int .i64 sg) (by rfl) (by rfl) ?_ ?_; (· (intro W hW; (try dsimp only at hW); go_simp; refine (root_CmpE A.add A.s X.add X.s A.n A.d X.n X.d (sg) _ _ _ _ _ _ _ _ _ _ _ _ _ _ _ _ W (HAn.out.ext hW.1) (HAd.out.ext hW.1) (HXn.out.ext hW.1) (HXd.out.ext hW.1) IA.out JX.out CAX.out).mono ?_; rintro e w' ⟨rfl, hx⟩; exact ⟨_, rfl, rfl, hx⟩))); refine F_put ?_
        repeat (first | refine F_s ?_ | refine F_r ?_)
        (refine F_call (v := .int .i64 sg) (by rfl) (by rfl) ?_ ?_; (· (intro W hW; (try dsimp only at hW); go_simp; refine ((SG.out ▸ l02_sign u W)).mono ?_; rintro e w' ⟨rfl, hx⟩; exact ⟨_, rfl, rfl, hx⟩))); refine F_put ?_
        repeat (first | refine F_s ?_ | refine F_r ?_)
        rintro W20 ⟨hx, _⟩
        replace ex := Ext.step ex hx
        go_wp2
        go_ret
        exact ⟨rfl, ex⟩
      clear Ha
      rcases HLa.out with ea | ea | ea <;> rcases HLb.out with eb | eb | eb <;> rcases HLc.out with ec | ec | ec <;> first | (exfalso; have h1 := HL1.out; have h2 := HL2.out; omega) | skip
      all_goals
        subst ea eb ec
        clear HLa HLb HLc HL1 HL2 VAN VSELF Va Vb Vc PX PY QX QY
        go_wp2
        exact REST _ _ _ _ _ _ _ _ _ _ _ _ _ _ _ _ _ _ _ _ _ _ _ _ _ _ _ _ _ _ _ _ _ _ _ _ _ _ _ _ _ _ _ _ _ _ _ _ _ _ _ _ _ _ _ _ _ _ _ _ _ _ _ _ _ _ _ _ _ _ _ _ _ _ _ _ _ _ _ _ _ _ _ _ _ _ _ _ _ _ _ _ _ _ _ _ _ _ _ _ _ _ _ _ _ _ _ _ _ _ _ _ _ _ _ _ _ _ _ _ _ _ _ _ _ _ _ _ _ _ _ _ _ _ _ _ _ _ _ _ _ _ _ _ _ _ _ _ _ _ _ _ _ _ _ _ _ _ _ _ _ _ _ _ _
end Go.Proofs.YtghgggaimijcaaaGreatDoor
