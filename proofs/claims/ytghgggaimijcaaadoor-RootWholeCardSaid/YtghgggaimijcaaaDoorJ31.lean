/- The walk of the law RootWhole. -/
import Derived.Test.YtghgggaimijcaaaDoorJ27
import Derived.Test.YtghgggaimijcaaaDoorJ30
import Derived.Test.YtghgggaimijcaaaDoorJ26
set_option linter.unusedVariables false
set_option linter.unusedSimpArgs false

namespace Go.Proofs.YtghgggaimijcaaaDoor
open Go.RowKit
attribute [local go_sem] Gives givesU

def In64w (z : Int) : Prop := -9223372036854775808 ≤ z ∧ z ≤ 9223372036854775807
theorem abs_mod (z : Int) {k : Int} (h : 0 < k) (hk : k ≤ 9223372036854775807) : ∃ M : Nat, (M : Int) < k ∧ max (z.tmod k) (-(z.tmod k)) = (M : Int) ∧ wrap64 (-(z.tmod k)) = -(z.tmod k) := by
  have h1 := Int.tmod_lt_of_pos z h
  have h2 := Int.tmod_lt_of_pos (-z) h
  rw [Int.neg_tmod] at h2
  refine ⟨(max (z.tmod k) (-(z.tmod k))).toNat, by omega, by omega, IntWalk.wrap64_in _ ⟨by omega, by omega⟩⟩
set_option maxRecDepth 100000 in
set_option maxHeartbeats 16000000 in
theorem Whole_core (m n d : Int) (w : World) (ht : Tab w) : Calls Tryd.prog 3 #[.int .i64 m, .int .i64 n, .int .i64 d] w fun e w' => e = .returned (.bool true) ∧ Ext w w' := by
  have TB := Lib.hid ht
  obtain ⟨M, bM, hM1, hM2⟩ := abs_mod m (k := 2000000) (by decide) (by decide)
  obtain ⟨N, bN, hN1, hN2⟩ := abs_mod n (k := 1000000) (by decide) (by decide)
  obtain ⟨D0, bD, hD1, hD2⟩ := abs_mod d (k := 1000000) (by decide) (by decide)
  obtain ⟨D, HD⟩ : ∃ D : Nat, Hid (D0 + 1 = D) := ⟨_, Lib.hid rfl⟩
  have hD3 : wrap64 ((D0 : Int) + 1) = (D : Int) := (IntWalk.wrap64_in _ ⟨by omega, by omega⟩).trans (by have := HD.out; omega)
  have bD1 : 0 < D := by have := HD.out; omega
  have bD2 : D ≤ 1000000 := by have := HD.out; omega
  have hmax := @run_maxD Tryd.prog
  obtain ⟨A, HA⟩ : ∃ A, Hid (rootOf 0 1 (M * M) 1 = A) := ⟨_, Lib.hid rfl⟩
  obtain ⟨B, HB⟩ : ∃ A, Hid (rootOf 0 1 N D = A) := ⟨_, Lib.hid rfl⟩
  obtain ⟨C, HC⟩ : ∃ A, Hid (rootOf 0 (-1) N D = A) := ⟨_, Lib.hid rfl⟩
  obtain ⟨f, HF⟩ : ∃ f : Nat, Hid (M % 1000 = f) := ⟨_, Lib.hid rfl⟩
  obtain ⟨w1', w2', w3', w4'⟩ := whole_law (m := M) (n := N) (d := D) (by omega) (by omega) bD1 bD2
  obtain ⟨w5', w6'⟩ := w3' f
  clear w3'
  rw [HA.out] at w1' w2'
  rw [HB.out] at w4' w5'
  rw [HC.out] at w4' w6'
  have hp : (4000000000001 : Nat) < 4294967296 ^ 8 := by decide +kernel
  have hm2 : M * M < 4000000000000 := Nat.lt_of_le_of_lt (Nat.mul_le_mul (show M ≤ 1999999 by omega) (show M ≤ 1999999 by omega)) (by decide)
  have PA := ofP_nat (add := 0) (s := 1) (n := M * M) (d := 1) (by decide) (by omega) (by omega) (by decide)
  have PB := ofP_nat (add := 0) (s := 1) (n := N) (d := D) (by decide) (by omega) (by omega) bD1
  have PC := ofP_nat (add := 0) (s := -1) (n := N) (d := D) (by decide) (by omega) (by omega) bD1
  rw [HA.out, show ((1 : Nat) : Int) = 1 from rfl] at PA
  rw [HB.out] at PB
  rw [HC.out] at PC
  have adds : ∀ s x y, (rootOf 0 s x y).add = 0 := by intro s x y; unfold rootOf; split <;> rfl
  have AA : Hid (In64w A.add) := Lib.hid (by rw [← HA.out, adds]; exact ⟨by decide, by decide⟩)
  have AB : Hid (In64w B.add) := Lib.hid (by rw [← HB.out, adds]; exact ⟨by decide, by decide⟩)
  have AC : Hid (In64w C.add) := Lib.hid (by rw [← HC.out, adds]; exact ⟨by decide, by decide⟩)
  obtain ⟨sq, SQ⟩ : ∃ z : Int, Hid (((M * M : Nat) : Int) = z) := ⟨_, Lib.hid rfl⟩
  rw [SQ.out] at PA
  have hsq : IntKind.i64.wrap ((M : Int) * M) = sq := (wrapI (by rw [← Int.natCast_mul]; omega) (by rw [← Int.natCast_mul]; omega)).trans (by rw [← SQ.out, Int.natCast_mul])
  have ISQ : Hid (-9223372036854775808 ≤ sq ∧ sq ≤ 9223372036854775807) := Lib.hid (by rw [← SQ.out]; omega)
  have IN : Hid (-9223372036854775808 ≤ (N : Int) ∧ (N : Int) ≤ 9223372036854775807) := Lib.hid (by omega)
  have ID : Hid (-9223372036854775808 ≤ (D : Int) ∧ (D : Int) ≤ 9223372036854775807) := Lib.hid (by omega)
  have IM : Hid (-9223372036854775808 ≤ (M : Int) ∧ (M : Int) ≤ 9223372036854775807) := Lib.hid (by omega)
  have hf : f < 1000 := by have := HF.out; omega
  have IF : Hid (-9223372036854775808 ≤ (f : Int) ∧ (f : Int) ≤ 9223372036854775807) := Lib.hid (by omega)
  have htm : (M : Int) % 1000 = (f : Int) := by rw [← HF.out]; exact (Int.natCast_emod M 1000).symm
  obtain ⟨m1, M1⟩ : ∃ z : Int, Hid ((M : Int) + 1 = z) := ⟨_, Lib.hid rfl⟩
  have hm1 : IntKind.i64.wrap ((M : Int) + 1) = m1 := (wrapI (by omega) (by omega)).trans M1.out
  have IM1 : Hid (-9223372036854775808 ≤ m1 ∧ m1 ≤ 9223372036854775807) := Lib.hid (by have := M1.out; omega)
  rw [M1.out] at w2'
  have g1 : D * f ≤ 1000000 * 1000 := Nat.mul_le_mul bD2 (by omega)
  have g2 : D * f * f ≤ 1000000 * 1000 * 1000 := Nat.mul_le_mul g1 (by omega)
  have hdf : IntKind.i64.wrap ((D : Int) * f) = (D : Int) * f := wrapI (by rw [← Int.natCast_mul]; omega) (by rw [← Int.natCast_mul]; omega)
  have hdff : IntKind.i64.wrap ((D : Int) * f * f) = (D : Int) * f * f := wrapI (by rw [← Int.natCast_mul, ← Int.natCast_mul]; omega) (by rw [← Int.natCast_mul, ← Int.natCast_mul]; omega)
  obtain ⟨x, X⟩ : ∃ z : Int, Hid ((N : Int) - (D : Int) * f * f = z) := ⟨_, Lib.hid rfl⟩
  have hx : IntKind.i64.wrap ((N : Int) - (D : Int) * f * f) = x := (wrapI (by rw [← Int.natCast_mul, ← Int.natCast_mul]; omega) (by rw [← Int.natCast_mul, ← Int.natCast_mul]; omega)).trans X.out
  rw [X.out] at w5' w6'
  obtain ⟨df, DF⟩ : ∃ z : Int, Hid ((D : Int) * f = z) := ⟨_, Lib.hid rfl⟩
  rw [DF.out] at hdf hdff hx
  have hdf' : IntKind.i64.wrap ((D : Int) * f) = df := by rw [DF.out]; exact hdf
  obtain ⟨dff, DFF⟩ : ∃ z : Int, Hid (df * f = z) := ⟨_, Lib.hid rfl⟩
  rw [DFF.out] at hdff hx
  have hdff' : IntKind.i64.wrap (df * f) = dff := by rw [DFF.out]; exact hdff
  obtain ⟨v, V⟩ : ∃ z : Int, Hid (sgn x = z) := ⟨_, Lib.hid rfl⟩
  obtain ⟨nv, NV⟩ : ∃ z : Int, Hid (-v = z) := ⟨_, Lib.hid rfl⟩
  obtain ⟨nf, NF⟩ : ∃ z : Int, Hid (-(f : Int) = z) := ⟨_, Lib.hid rfl⟩
  obtain ⟨u, U⟩ : ∃ z : Int, Hid (sgn (N : Int) = z) := ⟨_, Lib.hid rfl⟩
  obtain ⟨nu, NU⟩ : ∃ z : Int, Hid (-u = z) := ⟨_, Lib.hid rfl⟩
  rw [V.out] at w5' w6'
  rw [NV.out, NF.out] at w6'
  rw [U.out, NU.out] at w4'
  have bv := sgn_bd x
  rw [V.out] at bv
  have bu := sgn_bd (N : Int)
  rw [U.out] at bu
  have hnv : IntKind.i64.wrap (-v) = nv := (wrapI (by omega) (by omega)).trans NV.out
  have hnf : IntKind.i64.wrap (-(f : Int)) = nf := (wrapI (by omega) (by omega)).trans NF.out
  have hnu : IntKind.i64.wrap (-u) = nu := (wrapI (by omega) (by omega)).trans NU.out
  have INF : Hid (-9223372036854775808 ≤ nf ∧ nf ≤ 9223372036854775807) := Lib.hid (by have := NF.out; omega)
  have e1 : (v == v) = true := by simp
  have e2 : (nv == nv) = true := by simp
  have e3 : (nu == nu) = true := by simp
  have C1 := Lib.hid w1'
  have C2 := Lib.hid w2'
  have C3 := Lib.hid w5'
  have C4 := Lib.hid w6'
  have C5 := Lib.hid w4'
  have OA := Lib.hid (fun W n p l c m q k d (h1 : NR W n p l c (ofZ sq)) (h2 : NR W m q k d (ofZ 1)) => root_OfE 0 1 (ofZ sq) (ofZ 1) (A, true) n m p q l c k d W h1 h2 PA)
  have OB := Lib.hid (fun W n p l c m q k d (h1 : NR W n p l c (ofZ (N : Int))) (h2 : NR W m q k d (ofZ (D : Int))) => root_OfE 0 1 (ofZ (N : Int)) (ofZ (D : Int)) (B, true) n m p q l c k d W h1 h2 PB)
  have OC := Lib.hid (fun W n p l c m q k d (h1 : NR W n p l c (ofZ (N : Int))) (h2 : NR W m q k d (ofZ (D : Int))) => root_OfE 0 (-1) (ofZ (N : Int)) (ofZ (D : Int)) (C, true) n m p q l c k d W h1 h2 PC)
  obtain ⟨zm, ZM⟩ : ∃ z, Hid (m.tmod 2000000 = z) := ⟨_, Lib.hid rfl⟩
  obtain ⟨zn, ZN⟩ : ∃ z, Hid (n.tmod 1000000 = z) := ⟨_, Lib.hid rfl⟩
  obtain ⟨zd, ZD⟩ : ∃ z, Hid (d.tmod 1000000 = z) := ⟨_, Lib.hid rfl⟩
  rw [ZM.out] at hM1 hM2
  rw [ZN.out] at hN1 hN2
  rw [ZD.out] at hD1 hD2
  have tm1 := ZM.out
  have tm2 := ZN.out
  have tm3 := ZD.out
  have HTM := Lib.hid htm
  clear ht bM bN bD bD1 bD2 w1' w2' w4' w5' w6' hp hm2 PA PB PC adds hf g1 g2 bv bu hdf hdff htm
  go_enter Tryd.func3, Tryd.ntmps3
  go_wp2_with fail
  refine (law_sanity2 _ (TB.out.ext bxx)).mono ?_
  rintro e w1 ⟨rfl, hxx⟩
  have ex : Ext w w1 := Ext.step bxx hxx
  clear hxx
  go_upto_region 5 with (fail)
  simp only [hM1, hM2, hN1, hN2, hD1, hD2, hD3]
  clear hM1 hM2 hN1 hN2 hD1 hD2 hD3 hmax tm1 tm2 tm3
  refine wp_KB (w1.heap.size) (fun W => Ext w1 W ∧ w1.heap.size ≤ W.heap.size ∧ True) ?_
  intro hKeep
  repeat (first | refine F_s ?_ | refine F_r ?_)
  refine F_num w1 (ofZ sq) (by rfl) (by rfl) (by intro W hW; (try dsimp only at hW); have hwW : w1.heap.size ≤ W.heap.size := (by have hzz := hW; (repeat (first | exact hzz.size | exact hzz.1.size | replace hzz := hzz.1))); go_simp; exact (l02_of sq _ ISQ.out.1 ISQ.out.2).mono fun _ _ h => RetN.isN hwW h) ?_; intro n1 p1 l1 c1 hn1; refine F_put ?_
  repeat (first | refine F_s ?_ | refine F_r ?_)
  refine F_num w1 (ofZ 1) (by rfl) (by rfl) (by intro W hW; (try dsimp only at hW); have hwW : w1.heap.size ≤ W.heap.size := (by have hzz := hW; (repeat (first | exact hzz.size | exact hzz.1.size | replace hzz := hzz.1))); go_simp; exact (l02_of 1 _ (by decide) (by decide)).mono fun _ _ h => RetN.isN hwW h) ?_; intro n2 p2 l2 c2 hn2; refine F_put ?_
  repeat (first | refine F_s ?_ | refine F_r ?_)
  refine F_rootB (A, true) (by rfl) (by rfl) (by intro W hW; (try dsimp only at hW); go_simp; exact (OA.out W _ _ _ _ _ _ _ _ hW.1.2 hW.2).mono fun _ _ h => RetRt.isRb h) ?_; intro na pa la ca ma qa ka da; refine F_put ?_
  repeat (first | refine F_s ?_ | refine F_r ?_)
  refine F_al ?_
  intro ga hga
  simp only [List.mem_cons, List.mem_range, not_or, Nat.not_lt] at hga
  repeat (first | refine F_s ?_ | refine F_r ?_)
  refine F_w (fun W => (_ ∧ NR W na pa la ca A.n) ∧ NR W ma qa ka da A.d) (fun W hW => ⟨⟨⟨hW.1.1.1.1.1, hW.1.1.2⟩, hW.1.2⟩, hW.2⟩) ?_
  repeat (first | refine F_s ?_ | refine F_r ?_)
  rintro W5 ⟨⟨⟨⟨hS, nr1⟩, nr2⟩, hb⟩, _⟩
  have ra : RV W5 ga A na pa la ca ma qa ka da := ⟨RB.heap hb, nr1, nr2⟩
  replace ex := Ext.step ex hS.1
  clear hS hb hKeep hga nr1 nr2 hn1 hn2 hsq
  go_upto_region 6 with (fail)
  refine wp_KB (W5.heap.size) (fun W => Ext W5 W ∧ W5.heap.size ≤ W.heap.size ∧ True) ?_
  intro hKeep
  repeat (first | refine F_s ?_ | refine F_r ?_)
  refine F_num W5 (ofZ (N : Int)) (by rfl) (by rfl) (by intro W hW; (try dsimp only at hW); have hwW : W5.heap.size ≤ W.heap.size := (by have hzz := hW; (repeat (first | exact hzz.size | exact hzz.1.size | replace hzz := hzz.1))); go_simp; exact (l02_of (N : Int) _ IN.out.1 IN.out.2).mono fun _ _ h => RetN.isN hwW h) ?_; intro n1 p1 l1 c1 hn1; refine F_put ?_
  repeat (first | refine F_s ?_ | refine F_r ?_)
  refine F_num W5 (ofZ (D : Int)) (by rfl) (by rfl) (by intro W hW; (try dsimp only at hW); have hwW : W5.heap.size ≤ W.heap.size := (by have hzz := hW; (repeat (first | exact hzz.size | exact hzz.1.size | replace hzz := hzz.1))); go_simp; exact (l02_of (D : Int) _ ID.out.1 ID.out.2).mono fun _ _ h => RetN.isN hwW h) ?_; intro n2 p2 l2 c2 hn2; refine F_put ?_
  repeat (first | refine F_s ?_ | refine F_r ?_)
  refine F_rootB (B, true) (by rfl) (by rfl) (by intro W hW; (try dsimp only at hW); go_simp; exact (OB.out W _ _ _ _ _ _ _ _ hW.1.2 hW.2).mono fun _ _ h => RetRt.isRb h) ?_; intro nb pb lb cb mb qb kb db; refine F_put ?_
  repeat (first | refine F_s ?_ | refine F_r ?_)
  refine F_al ?_
  intro gb hgb
  simp only [List.mem_cons, List.mem_range, not_or, Nat.not_lt] at hgb
  repeat (first | refine F_s ?_ | refine F_r ?_)
  refine F_w (fun W => (_ ∧ NR W nb pb lb cb B.n) ∧ NR W mb qb kb db B.d) (fun W hW => ⟨⟨⟨hW.1.1.1.1.1, hW.1.1.2⟩, hW.1.2⟩, hW.2⟩) ?_
  repeat (first | refine F_s ?_ | refine F_r ?_)
  rintro W6 ⟨⟨⟨⟨hS, nr1⟩, nr2⟩, hb⟩, _⟩
  have rb : RV W6 gb B nb pb lb cb mb qb kb db := ⟨RB.heap hb, nr1, nr2⟩
  replace ex := Ext.step ex hS.1
  replace ra := ra.ext hS.1
  clear hS hb hKeep hgb nr1 nr2 hn1 hn2
  go_upto_region 7 with (fail)
  refine wp_KB (W6.heap.size) (fun W => Ext W6 W ∧ W6.heap.size ≤ W.heap.size ∧ True) ?_
  intro hKeep
  repeat (first | refine F_s ?_ | refine F_r ?_)
  refine F_num W6 (ofZ (N : Int)) (by rfl) (by rfl) (by intro W hW; (try dsimp only at hW); have hwW : W6.heap.size ≤ W.heap.size := (by have hzz := hW; (repeat (first | exact hzz.size | exact hzz.1.size | replace hzz := hzz.1))); go_simp; exact (l02_of (N : Int) _ IN.out.1 IN.out.2).mono fun _ _ h => RetN.isN hwW h) ?_; intro n1 p1 l1 c1 hn1; refine F_put ?_
  repeat (first | refine F_s ?_ | refine F_r ?_)
  refine F_num W6 (ofZ (D : Int)) (by rfl) (by rfl) (by intro W hW; (try dsimp only at hW); have hwW : W6.heap.size ≤ W.heap.size := (by have hzz := hW; (repeat (first | exact hzz.size | exact hzz.1.size | replace hzz := hzz.1))); go_simp; exact (l02_of (D : Int) _ ID.out.1 ID.out.2).mono fun _ _ h => RetN.isN hwW h) ?_; intro n2 p2 l2 c2 hn2; refine F_put ?_
  repeat (first | refine F_s ?_ | refine F_r ?_)
  refine F_rootB (C, true) (by rfl) (by rfl) (by intro W hW; (try dsimp only at hW); go_simp; exact (OC.out W _ _ _ _ _ _ _ _ hW.1.2 hW.2).mono fun _ _ h => RetRt.isRb h) ?_; intro nc pc lc cc mc qc kc dc; refine F_put ?_
  repeat (first | refine F_s ?_ | refine F_r ?_)
  refine F_al ?_
  intro gc hgc
  simp only [List.mem_cons, List.mem_range, not_or, Nat.not_lt] at hgc
  repeat (first | refine F_s ?_ | refine F_r ?_)
  refine F_w (fun W => (_ ∧ NR W nc pc lc cc C.n) ∧ NR W mc qc kc dc C.d) (fun W hW => ⟨⟨⟨hW.1.1.1.1.1, hW.1.1.2⟩, hW.1.2⟩, hW.2⟩) ?_
  repeat (first | refine F_s ?_ | refine F_r ?_)
  rintro W7 ⟨⟨⟨⟨hS, nr1⟩, nr2⟩, hb⟩, _⟩
  have rc : RV W7 gc C nc pc lc cc mc qc kc dc := ⟨RB.heap hb, nr1, nr2⟩
  replace ex := Ext.step ex hS.1
  replace ra := ra.ext hS.1
  replace rb := rb.ext hS.1
  clear hS hb hKeep hgc nr1 nr2 hn1 hn2
  clear OA OB OC
  go_upto_region 11 with (fail)
  rw [HTM.out]
  clear HTM
  obtain ⟨⟨a0, a1, a2, ⟨a3, a4⟩, ⟨a5, a6⟩, af⟩, an, ad⟩ := ra
  have Han := Lib.hid an
  have Had := Lib.hid ad
  clear af an ad
  obtain ⟨⟨b0, b1, b2, ⟨b3, b4⟩, ⟨b5, b6⟩, bf⟩, bn, bd⟩ := rb
  have Hbn := Lib.hid bn
  have Hbd := Lib.hid bd
  clear bf bn bd
  obtain ⟨⟨c0, c1, c2, ⟨c3, c4⟩, ⟨c5, c6⟩, cf⟩, cn, cd⟩ := rc
  have Hcn := Lib.hid cn
  have Hcd := Lib.hid cd
  clear cf cn cd
  refine wp_FS (fun W => W.cell? ⟨ga, 0, none⟩ = some (.int .i64 A.add) ∧ W.cell? ⟨ga, 1, none⟩ = some (.int .i64 A.s) ∧ W.cell? ⟨ga, 2, none⟩ = some (.bool na) ∧ W.cell? ⟨ga, 3, none⟩ = some (.slice pa la ca) ∧ W.cell? ⟨ga, 4, none⟩ = some (.bool ma) ∧ W.cell? ⟨ga, 5, none⟩ = some (.slice qa ka da) ∧ W.cell? ⟨gb, 0, none⟩ = some (.int .i64 B.add) ∧ W.cell? ⟨gb, 1, none⟩ = some (.int .i64 B.s) ∧ W.cell? ⟨gb, 2, none⟩ = some (.bool nb) ∧ W.cell? ⟨gb, 3, none⟩ = some (.slice pb lb cb) ∧ W.cell? ⟨gb, 4, none⟩ = some (.bool mb) ∧ W.cell? ⟨gb, 5, none⟩ = some (.slice qb kb db) ∧ W.cell? ⟨gc, 0, none⟩ = some (.int .i64 C.add) ∧ W.cell? ⟨gc, 1, none⟩ = some (.int .i64 C.s) ∧ W.cell? ⟨gc, 2, none⟩ = some (.bool nc) ∧ W.cell? ⟨gc, 3, none⟩ = some (.slice pc lc cc) ∧ W.cell? ⟨gc, 4, none⟩ = some (.bool mc) ∧ W.cell? ⟨gc, 5, none⟩ = some (.slice qc kc dc)) ?_
  repeat (first | refine F_s ?_ | refine F_r ?_)
  (refine F_call (v := .int .i64 0) (by rfl) (by rfl) ?_ ?_; (· (intro W hW; (try dsimp only at hW); go_simp; refine (root_CmpIntE A.add A.s (M : Int) A.n A.d 0 _ _ _ _ _ _ _ _ W (Han.out.ext hW.1) (Had.out.ext hW.1) AA.out IM.out C1.out).mono ?_; rintro e w' ⟨rfl, hx⟩; exact ⟨_, rfl, rfl, hx⟩))); refine F_put ?_
  repeat (first | refine F_s ?_ | refine F_r ?_)
  (refine F_call (v := .int .i64 (-1)) (by rfl) (by rfl) ?_ ?_; (· (intro W hW; (try dsimp only at hW); go_simp; refine (root_CmpIntE A.add A.s m1 A.n A.d (-1) _ _ _ _ _ _ _ _ W (Han.out.ext hW.1) (Had.out.ext hW.1) AA.out IM1.out C2.out).mono ?_; rintro e w' ⟨rfl, hx⟩; exact ⟨_, rfl, rfl, hx⟩))); refine F_put ?_
  repeat (first | refine F_s ?_ | refine F_r ?_)
  (refine F_call (v := .int .i64 v) (by rfl) (by rfl) ?_ ?_; (· (intro W hW; (try dsimp only at hW); go_simp; refine (root_CmpIntE B.add B.s (f : Int) B.n B.d v _ _ _ _ _ _ _ _ W (Hbn.out.ext hW.1) (Hbd.out.ext hW.1) AB.out IF.out C3.out).mono ?_; rintro e w' ⟨rfl, hx⟩; exact ⟨_, rfl, rfl, hx⟩))); refine F_put ?_
  repeat (first | refine F_s ?_ | refine F_r ?_)
  (refine F_call (v := .int .i64 v) (by rfl) (by rfl) ?_ ?_; (· (intro W hW; (try dsimp only at hW); go_simp; refine ((V.out ▸ l02_sign x W)).mono ?_; rintro e w' ⟨rfl, hx⟩; exact ⟨_, rfl, rfl, hx⟩))); refine F_put ?_
  repeat (first | refine F_s ?_ | refine F_r ?_)
  (refine F_call (v := .int .i64 nv) (by rfl) (by rfl) ?_ ?_; (· (intro W hW; (try dsimp only at hW); go_simp; refine (root_CmpIntE C.add C.s nf C.n C.d nv _ _ _ _ _ _ _ _ W (Hcn.out.ext hW.1) (Hcd.out.ext hW.1) AC.out INF.out C4.out).mono ?_; rintro e w' ⟨rfl, hx⟩; exact ⟨_, rfl, rfl, hx⟩))); refine F_put ?_
  repeat (first | refine F_s ?_ | refine F_r ?_)
  (refine F_call (v := .int .i64 v) (by rfl) (by rfl) ?_ ?_; (· (intro W hW; (try dsimp only at hW); go_simp; refine ((V.out ▸ l02_sign x W)).mono ?_; rintro e w' ⟨rfl, hx⟩; exact ⟨_, rfl, rfl, hx⟩))); refine F_put ?_
  repeat (first | refine F_s ?_ | refine F_r ?_)
  (refine F_call (v := .int .i64 nu) (by rfl) (by rfl) ?_ ?_; (· (intro W hW; (try dsimp only at hW); go_simp; refine (root_CmpE C.add C.s B.add B.s C.n C.d B.n B.d nu _ _ _ _ _ _ _ _ _ _ _ _ _ _ _ _ W (Hcn.out.ext hW.1) (Hcd.out.ext hW.1) (Hbn.out.ext hW.1) (Hbd.out.ext hW.1) AC.out AB.out C5.out).mono ?_; rintro e w' ⟨rfl, hx⟩; exact ⟨_, rfl, rfl, hx⟩))); refine F_put ?_
  repeat (first | refine F_s ?_ | refine F_r ?_)
  (refine F_call (v := .int .i64 u) (by rfl) (by rfl) ?_ ?_; (· (intro W hW; (try dsimp only at hW); go_simp; refine ((U.out ▸ l02_sign (N : Int) W)).mono ?_; rintro e w' ⟨rfl, hx⟩; exact ⟨_, rfl, rfl, hx⟩))); refine F_put ?_
  repeat (first | refine F_s ?_ | refine F_r ?_)
  rintro W11 ⟨hxx, _⟩
  have exw := Ext.step ex hxx
  clear hxx ex
  go_wp2
  go_ret
  exact ⟨rfl, exw⟩
end Go.Proofs.YtghgggaimijcaaaDoor
