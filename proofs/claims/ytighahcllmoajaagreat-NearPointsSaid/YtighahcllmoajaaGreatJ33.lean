/- Contract: etchantref02.Of. -/
import Derived.Test.YtighahcllmoajaaGreatJ29
import Derived.Test.YtighahcllmoajaaGreatJ31
import Derived.Test.YtighahcllmoajaaGreatJ32
set_option linter.unusedVariables false
set_option linter.unusedSimpArgs false

namespace Go.Proofs.YtighahcllmoajaaGreat
open Go.RowKit
attribute [local go_sem] Gives givesU

theorem r01_rightB (a : Nm) (b : Bool) (hb : a.right = b) (n : Bool) (p : Option Addr) (l c : Nat) (w : World) (h : NR w n p l c a) :
    Calls Tryz.prog 119 #[.agg #[.bool n, .slice p l c]] w fun e w' => e = .returned (.bool b) ∧ Ext w w' := by
  subst hb
  exact r01_Right a n p l c w h
theorem rdivB (a b : Nm) (r : Nm × Nm × Bool) (na nb : Bool) (pa pb : Option Addr) (la ca lb cb : Nat) (w : World) (ha : NR w na pa la ca a) (hb : NR w nb pb lb cb b) (h : divP a b = r) :
    Calls Tryz.prog 123 #[.agg #[.bool na, .slice pa la ca], .agg #[.bool nb, .slice pb lb cb]] w (RetDiv w r) := h ▸ r01_Div a b na nb pa pb la ca lb cb w ha hb
theorem rgcdB (a b : Nm) (r : Nm × Bool) (na nb : Bool) (pa pb : Option Addr) (la ca lb cb : Nat) (w : World) (ha : NR w na pa la ca a) (hb : NR w nb pb lb cb b) (h : gcdP a b = r) :
    Calls Tryz.prog 122 #[.agg #[.bool na, .slice pa la ca], .agg #[.bool nb, .slice pb lb cb]] w (RetNum w r) := h ▸ r01_Gcd a b na nb pa pb la ca lb cb w ha hb
theorem lit_0z : zero = ofZ 0 := by unfold zero ofZ; simp [digs_zero]
theorem div_zero_one : divP zero (ofZ 1) = (zero, zero, true) := by
  have h := divP_nm (a := zero) (g := 1) zero_right0 small_one (by decide)
  rw [show ((1 : Nat) : Int) = 1 from rfl, zero_z, show (0 : Int) / 1 = 0 from rfl, show (0 : Int) % 1 = 0 from rfl, ← lit_0z] at h
  exact h
theorem div_one_one : divP (ofZ 1) (ofZ 1) = (ofZ 1, zero, true) := by
  have h := divP_nm (a := ofZ 1) (g := 1) one_right small_one (by decide)
  rw [show ((1 : Nat) : Int) = 1 from rfl, ofZ_z, show (1 : Int) / 1 = 1 from rfl, show (1 : Int) % 1 = 0 from rfl, ← lit_0z] at h
  exact h
theorem neg_iff {a : Nm} (h : a.right = true) : a.neg = true ↔ a.z < 0 := by
  obtain ⟨_, ht, h0⟩ := a.right_iff.1 h
  constructor
  · intro hn
    have hne : a.d ≠ [] := fun e => by rw [h0 e] at hn; cases hn
    have := tight_pos ht (List.length_pos_iff.2 hne)
    unfold Nm.z
    rw [hn, if_pos rfl]
    omega
  · intro hz
    unfold Nm.z at hz
    split at hz
    · assumption
    · omega
/-- A variable that holds a root. -/
def RB (W : World) (g : Nat) (add s : Int) (n1 : Bool) (p1 : Option Addr) (l1 c1 : Nat) (n2 : Bool) (p2 : Option Addr) (l2 c2 : Nat) : Prop :=
  g < W.heap.size ∧ W.cell? ⟨g, 0, none⟩ = some (.int .i64 add) ∧ W.cell? ⟨g, 1, none⟩ = some (.int .i64 s) ∧ (W.cell? ⟨g, 2, none⟩ = some (.bool n1) ∧ W.cell? ⟨g, 3, none⟩ = some (.slice p1 l1 c1)) ∧ (W.cell? ⟨g, 4, none⟩ = some (.bool n2) ∧ W.cell? ⟨g, 5, none⟩ = some (.slice p2 l2 c2)) ∧ ∀ o, W.frozen? ⟨g, o, none⟩ = false
theorem RB.ext {W W' : World} {g : Nat} {add s : Int} {n1 n2 : Bool} {p1 p2 : Option Addr} {l1 c1 l2 c2 : Nat} (h : RB W g add s n1 p1 l1 c1 n2 p2 l2 c2) (hx : Ext W W') : RB W' g add s n1 p1 l1 c1 n2 p2 l2 c2 := by
  obtain ⟨h0, h1, h2, ⟨h3, h4⟩, ⟨h5, h6⟩, h7⟩ := h
  have hc : ∀ o, W'.cell? ⟨g, o, none⟩ = W.cell? ⟨g, o, none⟩ := fun o => hx.cell (p := ⟨g, o, none⟩) h0
  have hf : ∀ o, W'.frozen? ⟨g, o, none⟩ = W.frozen? ⟨g, o, none⟩ := fun o => hx.frozen (p := ⟨g, o, none⟩) h0
  exact ⟨Nat.lt_of_lt_of_le h0 hx.size, by rw [hc]; exact h1, by rw [hc]; exact h2, ⟨by rw [hc]; exact h3, by rw [hc]; exact h4⟩, ⟨by rw [hc]; exact h5, by rw [hc]; exact h6⟩, fun o => by rw [hf]; exact h7 o⟩
theorem RB.heap {W : World} {g : Nat} {add s : Int} {n1 n2 : Bool} {p1 p2 : Option Addr} {l1 c1 l2 c2 : Nat} {T : TypeId} (h : W.heap[g]? = some (.cells #[.int .i64 add, .int .i64 s, .bool n1, .slice p1 l1 c1, .bool n2, .slice p2 l2 c2] T)) : RB W g add s n1 p1 l1 c1 n2 p2 l2 c2 := by
  obtain ⟨⟨c0, c1, c2, c3, c4, c5⟩, cf, hl⟩ := cells6 h
  exact ⟨hl, c0, c1, ⟨c2, c3⟩, ⟨c4, c5⟩, cf⟩
theorem put2 {W : World} {g : Nat} {a0 a1 a2 a3 a4 a5 : Value} {T : TypeId} (h : W.heap[g]? = some (.cells #[a0, a1, a2, a3, a4, a5] T)) (x y : Value) :
    OnlyB g W ((W.setCell ⟨g, 2, none⟩ x).setCell ⟨g, 3, none⟩ y) ∧ ((W.setCell ⟨g, 2, none⟩ x).setCell ⟨g, 3, none⟩ y).heap[g]? = some (.cells #[a0, a1, x, y, a4, a5] T) := by
  obtain ⟨h0, k0⟩ := store1c (j := 2) (v := x) h
  obtain ⟨h1, k1⟩ := store1c (j := 3) (v := y) k0
  refine ⟨h0.next h1, k1.trans ?_⟩
  simp
theorem put4 {W : World} {g : Nat} {a0 a1 a2 a3 a4 a5 : Value} {T : TypeId} (h : W.heap[g]? = some (.cells #[a0, a1, a2, a3, a4, a5] T)) (x y : Value) :
    OnlyB g W ((W.setCell ⟨g, 4, none⟩ x).setCell ⟨g, 5, none⟩ y) ∧ ((W.setCell ⟨g, 4, none⟩ x).setCell ⟨g, 5, none⟩ y).heap[g]? = some (.cells #[a0, a1, a2, a3, x, y] T) := by
  obtain ⟨h0, k0⟩ := store1c (j := 4) (v := x) h
  obtain ⟨h1, k1⟩ := store1c (j := 5) (v := y) k0
  refine ⟨h0.next h1, k1.trans ?_⟩
  simp
theorem NR.keep6 {W W' : World} {g : Nat} {add s : Int} {n1 n2 n : Bool} {p1 p2 p : Option Addr} {l1 c1 l2 c2 l c : Nat} {x : Nm} {T : TypeId} (h : NR W n p l c x) (hb : W.heap[g]? = some (.cells #[.int .i64 add, .int .i64 s, .bool n1, .slice p1 l1 c1, .bool n2, .slice p2 l2 c2] T)) (ho : OnlyB g W W') : NR W' n p l c x :=
  RK.nr6 (by intro z h; cases h) (by intro z h; cases h) (by intro z h; cases h) (by intro z h; cases h) (by intro z h; cases h) (by intro z h; cases h) W W' h hb ho
theorem VB2.only {W W' : World} {B g : Nat} {n n1 n2 : Bool} {p p1 p2 : Option Addr} {l c l1 c1 l2 c2 : Nat} {X : Nm} {add s : Int} {T : TypeId} (h : VB2 W B n p l c X) (hne : B ≠ g) (hb : W.heap[g]? = some (.cells #[.int .i64 add, .int .i64 s, .bool n1, .slice p1 l1 c1, .bool n2, .slice p2 l2 c2] T)) (ho : OnlyB g W W') : VB2 W' B n p l c X :=
  ⟨by rw [ho.size]; exact h.1, (World.cell?_of_block (ho.block B hne)).trans h.2.1, (World.cell?_of_block (ho.block B hne)).trans h.2.2.1, h.2.2.2.keep6 hb ho⟩
set_option maxRecDepth 100000 in
set_option maxHeartbeats 8000000 in
theorem r02_Of (add s : Int) (n d : Nm) (nn nd : Bool) (pn pd : Option Addr) (ln kn ld cd : Nat) (w : World) (hn : NR w nn pn ln kn n) (hd : NR w nd pd ld cd d) :
    Calls Tryz.prog 77 #[.int .i64 add, .int .i64 s, .agg #[.bool nn, .slice pn ln kn], .agg #[.bool nd, .slice pd ld cd]] w (RetRt w (ofP add s n d)) := by
  have NO : ofBad s n d = true → ∀ W', Ext w W' → RetRt w (ofP add s n d) (.returned (.tuple #[.agg #[.int .i64 0, .int .i64 0, .bool false, .slice none 0 0, .bool false, .slice none 0 0], .bool false])) W' := by
    intro h W' hx
    have : ofP add s n d = (Rt.no, false) := by unfold ofP; rw [h, if_pos rfl]
    rw [this]
    exact ⟨false, none, 0, 0, false, none, 0, 0, rfl, NR.zero _, NR.zero _, hx⟩
  replace NO := Lib.hid NO
  have HN := Lib.hid hn
  have HD := Lib.hid hd
  have HNN := Lib.hid hn.1
  clear hn hd
  obtain ⟨rn, RN⟩ : ∃ b, n.right = b := ⟨_, rfl⟩
  obtain ⟨rd, RD⟩ : ∃ b, d.right = b := ⟨_, rfl⟩
  have CN := Lib.hid (r01_rightB n rn RN)
  have CD := Lib.hid (r01_rightB d rd RD)
  replace RN := Lib.hid RN
  replace RD := Lib.hid RD
  go_enter Tryz.func77, Tryz.ntmps77
  go_upto_region 1 with (fail)
  refine wp_know (fun W => OB w W nn pn ln kn nd pd ld cd) ?_ ?_
  · unfold OB
    refine ⟨?_, ?_, ?_, ?_, ?_, ?_, ?_⟩
    · exact bxx
    · simp
    · go_simp
    · go_simp
    · intro o; go_simp
    · intro o; go_simp
    · repeat (first | exact heap_new (by first | rfl | (simp; done)) | refine heap_old ?_)
  rintro W0 ob
  obtain ⟨ex, hs, ⟨a0, a1⟩, ⟨b0, b1⟩, f0, f1, rb⟩ := id ob
  have hl0 : w.heap.size < W0.heap.size := by omega
  have hl1 : w.heap.size + 1 < W0.heap.size := by omega
  have hl2 : w.heap.size + 2 < W0.heap.size := by omega
  go_wp2_with fail
  refine (CN.out _ _ _ _ _ (HN.out.ext bxx)).mono ?_
  rintro e W1 ⟨rfl, hx⟩
  replace ob := ob.ext (Ext.step bxx hx)
  clear hx
  clear ex hs a0 a1 b0 b1 f0 f1 rb
  clear hl0 hl1 hl2
  obtain ⟨ex, hs, ⟨a0, a1⟩, ⟨b0, b1⟩, f0, f1, rb⟩ := id ob
  have hl0 : w.heap.size < W1.heap.size := by omega
  have hl1 : w.heap.size + 1 < W1.heap.size := by omega
  have hl2 : w.heap.size + 2 < W1.heap.size := by omega
  go_wp2_with fail
  refine (CD.out _ _ _ _ _ (HD.out.ext bxx)).mono ?_
  rintro e W2 ⟨rfl, hx⟩
  replace ob := ob.ext (Ext.step bxx hx)
  clear hx CN CD
  clear ex hs a0 a1 b0 b1 f0 f1 rb
  clear hl0 hl1 hl2
  obtain ⟨ex, hs, ⟨a0, a1⟩, ⟨b0, b1⟩, f0, f1, rb⟩ := id ob
  have hl0 : w.heap.size < W2.heap.size := by omega
  have hl1 : w.heap.size + 1 < W2.heap.size := by omega
  have hl2 : w.heap.size + 2 < W2.heap.size := by omega
  obtain ⟨sn, SN⟩ : ∃ x, Hid (sgn n.z = x) := ⟨_, rfl⟩
  obtain ⟨sg, SG⟩ : ∃ x, Hid (sgn d.z = x) := ⟨_, rfl⟩
  have bsn := sgn_bd n.z
  have bsg := sgn_bd d.z
  rw [SN.out] at bsn
  rw [SG.out] at bsg
  have hsn : (sn < 0 ↔ n.z < 0) ∧ (sn = 0 ↔ n.z = 0) := by
    rw [← SN.out]
    unfold sgn cmpZ
    split
    · omega
    · split <;> omega
  have hsg : sg ≤ 0 ↔ d.z ≤ 0 := by
    rw [← SG.out]
    unfold sgn cmpZ
    split
    · omega
    · split <;> omega
  have HSN := Lib.hid hsn
  have HSG := Lib.hid hsg
  clear hsn hsg
  by_cases s1 : s < -1
  · have d1 : decide (s < -1) = true := by simpa using s1
    have B : Hid (ofBad s n d = true) := Lib.hid (by simp [ofBad, s1])
    go_upto_region 3 with (fail)
    refine wp_FSc (fun W => cn W w.heap.size 0 nn pn ln kn ∧ cn W (w.heap.size + 1) 0 nd pd ld cd) ?_
    repeat (first | refine F_s ?_ | refine F_r ?_)
    rintro W3 hW3
    have hx : Ext W2 W3 := by
      have hzz := hW3
      repeat (first | exact hzz.1 | replace hzz := hzz.1)
    replace ob := ob.ext hx
    clear hx hW3
    clear ex hs a0 a1 b0 b1 f0 f1 rb
    clear hl0 hl1 hl2
    obtain ⟨ex, hs, ⟨a0, a1⟩, ⟨b0, b1⟩, f0, f1, rb⟩ := id ob
    have hl0 : w.heap.size < W3.heap.size := by omega
    have hl1 : w.heap.size + 1 < W3.heap.size := by omega
    have hl2 : w.heap.size + 2 < W3.heap.size := by omega
    go_upto_region 4 with (fail)
    refine wp_GR (w.heap.size + 1 + 1) (.cells #[.int .i64 0, .int .i64 0, .bool false, .slice none 0 0, .bool false, .slice none 0 0] 38) (fun W => Ext w W ∧ W3.heap.size ≤ W.heap.size ∧ W.cell? ⟨w.heap.size, 0, none⟩ = some (.bool nn) ∧ W.cell? ⟨w.heap.size, 1, none⟩ = some (.slice pn ln kn)) ?_
    intro hSM hRKS
    repeat (first | refine F_s ?_ | refine F_r ?_)
    refine F_w (fun W => _) (fun W hW => hW) ?_
    repeat (first | refine F_s ?_ | refine F_r ?_)
    rintro W4 ⟨⟨⟨hx, hz, hc⟩, hb⟩, _⟩
    obtain ⟨⟨c0, c1, c2, c3, c4, c5⟩, _, hl⟩ := cells6 hb
    clear hc hb
    go_wp2
    refine bodyPost_ret (v := .tuple #[.agg #[.int .i64 0, .int .i64 0, .bool false, .slice none 0 0, .bool false, .slice none 0 0], .bool false]) (by simp only [results, Tryz.results77]; go_simp) rfl ?_
    exact NO.out B.out _ hx
  have d1 : decide (s < -1) = false := by simpa using s1
  by_cases s2 : 1 < s
  · have d2 : decide (1 < s) = true := by simpa using s2
    have B : Hid (ofBad s n d = true) := Lib.hid (by simp [ofBad, s2])
    go_upto_region 3 with (fail)
    refine wp_FSc (fun W => cn W w.heap.size 0 nn pn ln kn ∧ cn W (w.heap.size + 1) 0 nd pd ld cd) ?_
    repeat (first | refine F_s ?_ | refine F_r ?_)
    rintro W3 hW3
    have hx : Ext W2 W3 := by
      have hzz := hW3
      repeat (first | exact hzz.1 | replace hzz := hzz.1)
    replace ob := ob.ext hx
    clear hx hW3
    clear ex hs a0 a1 b0 b1 f0 f1 rb
    clear hl0 hl1 hl2
    obtain ⟨ex, hs, ⟨a0, a1⟩, ⟨b0, b1⟩, f0, f1, rb⟩ := id ob
    have hl0 : w.heap.size < W3.heap.size := by omega
    have hl1 : w.heap.size + 1 < W3.heap.size := by omega
    have hl2 : w.heap.size + 2 < W3.heap.size := by omega
    go_upto_region 4 with (fail)
    refine wp_GR (w.heap.size + 1 + 1) (.cells #[.int .i64 0, .int .i64 0, .bool false, .slice none 0 0, .bool false, .slice none 0 0] 38) (fun W => Ext w W ∧ W3.heap.size ≤ W.heap.size ∧ W.cell? ⟨w.heap.size, 0, none⟩ = some (.bool nn) ∧ W.cell? ⟨w.heap.size, 1, none⟩ = some (.slice pn ln kn)) ?_
    intro hSM hRKS
    repeat (first | refine F_s ?_ | refine F_r ?_)
    refine F_w (fun W => _) (fun W hW => hW) ?_
    repeat (first | refine F_s ?_ | refine F_r ?_)
    rintro W4 ⟨⟨⟨hx, hz, hc⟩, hb⟩, _⟩
    obtain ⟨⟨c0, c1, c2, c3, c4, c5⟩, _, hl⟩ := cells6 hb
    clear hc hb
    go_wp2
    refine bodyPost_ret (v := .tuple #[.agg #[.int .i64 0, .int .i64 0, .bool false, .slice none 0 0, .bool false, .slice none 0 0], .bool false]) (by simp only [results, Tryz.results77]; go_simp) rfl ?_
    exact NO.out B.out _ hx
  have d2 : decide (1 < s) = false := by simpa using s2
  cases rn with
  | false =>
    have B : Hid (ofBad s n d = true) := Lib.hid (by simp [ofBad, RN.out])
    go_upto_region 3 with (fail)
    refine wp_FSc (fun W => cn W w.heap.size 0 nn pn ln kn ∧ cn W (w.heap.size + 1) 0 nd pd ld cd) ?_
    repeat (first | refine F_s ?_ | refine F_r ?_)
    rintro W3 hW3
    have hx : Ext W2 W3 := by
      have hzz := hW3
      repeat (first | exact hzz.1 | replace hzz := hzz.1)
    replace ob := ob.ext hx
    clear hx hW3
    clear ex hs a0 a1 b0 b1 f0 f1 rb
    clear hl0 hl1 hl2
    obtain ⟨ex, hs, ⟨a0, a1⟩, ⟨b0, b1⟩, f0, f1, rb⟩ := id ob
    have hl0 : w.heap.size < W3.heap.size := by omega
    have hl1 : w.heap.size + 1 < W3.heap.size := by omega
    have hl2 : w.heap.size + 2 < W3.heap.size := by omega
    go_upto_region 4 with (fail)
    refine wp_GR (w.heap.size + 1 + 1) (.cells #[.int .i64 0, .int .i64 0, .bool false, .slice none 0 0, .bool false, .slice none 0 0] 38) (fun W => Ext w W ∧ W3.heap.size ≤ W.heap.size ∧ W.cell? ⟨w.heap.size, 0, none⟩ = some (.bool nn) ∧ W.cell? ⟨w.heap.size, 1, none⟩ = some (.slice pn ln kn)) ?_
    intro hSM hRKS
    repeat (first | refine F_s ?_ | refine F_r ?_)
    refine F_w (fun W => _) (fun W hW => hW) ?_
    repeat (first | refine F_s ?_ | refine F_r ?_)
    rintro W4 ⟨⟨⟨hx, hz, hc⟩, hb⟩, _⟩
    obtain ⟨⟨c0, c1, c2, c3, c4, c5⟩, _, hl⟩ := cells6 hb
    clear hc hb
    go_wp2
    refine bodyPost_ret (v := .tuple #[.agg #[.int .i64 0, .int .i64 0, .bool false, .slice none 0 0, .bool false, .slice none 0 0], .bool false]) (by simp only [results, Tryz.results77]; go_simp) rfl ?_
    exact NO.out B.out _ hx
  | true =>
  cases rd with
  | false =>
    have B : Hid (ofBad s n d = true) := Lib.hid (by simp [ofBad, RD.out])
    go_upto_region 3 with (fail)
    refine wp_FSc (fun W => cn W w.heap.size 0 nn pn ln kn ∧ cn W (w.heap.size + 1) 0 nd pd ld cd) ?_
    repeat (first | refine F_s ?_ | refine F_r ?_)
    rintro W3 hW3
    have hx : Ext W2 W3 := by
      have hzz := hW3
      repeat (first | exact hzz.1 | replace hzz := hzz.1)
    replace ob := ob.ext hx
    clear hx hW3
    clear ex hs a0 a1 b0 b1 f0 f1 rb
    clear hl0 hl1 hl2
    obtain ⟨ex, hs, ⟨a0, a1⟩, ⟨b0, b1⟩, f0, f1, rb⟩ := id ob
    have hl0 : w.heap.size < W3.heap.size := by omega
    have hl1 : w.heap.size + 1 < W3.heap.size := by omega
    have hl2 : w.heap.size + 2 < W3.heap.size := by omega
    go_upto_region 4 with (fail)
    refine wp_GR (w.heap.size + 1 + 1) (.cells #[.int .i64 0, .int .i64 0, .bool false, .slice none 0 0, .bool false, .slice none 0 0] 38) (fun W => Ext w W ∧ W3.heap.size ≤ W.heap.size ∧ W.cell? ⟨w.heap.size, 0, none⟩ = some (.bool nn) ∧ W.cell? ⟨w.heap.size, 1, none⟩ = some (.slice pn ln kn)) ?_
    intro hSM hRKS
    repeat (first | refine F_s ?_ | refine F_r ?_)
    refine F_w (fun W => _) (fun W hW => hW) ?_
    repeat (first | refine F_s ?_ | refine F_r ?_)
    rintro W4 ⟨⟨⟨hx, hz, hc⟩, hb⟩, _⟩
    obtain ⟨⟨c0, c1, c2, c3, c4, c5⟩, _, hl⟩ := cells6 hb
    clear hc hb
    go_wp2
    refine bodyPost_ret (v := .tuple #[.agg #[.int .i64 0, .int .i64 0, .bool false, .slice none 0 0, .bool false, .slice none 0 0], .bool false]) (by simp only [results, Tryz.results77]; go_simp) rfl ?_
    exact NO.out B.out _ hx
  | true =>
  by_cases n1 : sn < 0
  · have d3 : decide (sn < 0) = true := by simpa using n1
    have B : Hid (ofBad s n d = true) := Lib.hid (by simp [ofBad, (neg_iff RN.out).2 (HSN.out.1.1 n1)])
    go_upto_region 3 with (fail)
    refine wp_FSc (fun W => cn W w.heap.size 0 nn pn ln kn ∧ cn W (w.heap.size + 1) 0 nd pd ld cd) ?_
    repeat (first | refine F_s ?_ | refine F_r ?_)
    refine F_n W2 zero (fun W hW => r02_zero _) ?_; intro n1 p1 l1 c1 hn1
    repeat (first | refine F_s ?_ | refine F_r ?_)
    refine F_c (.int .i64 sn) (fun W hW => r01_sgn n _ _ _ _ _ _ _ _ _ ((HN.out.ext ex).ext hW.1.1) hW.2 RN.out _ SN.out) ?_
    repeat (first | refine F_s ?_ | refine F_r ?_)
    rintro W3 hW3
    have hx : Ext W2 W3 := by
      have hzz := hW3
      repeat (first | exact hzz.1 | replace hzz := hzz.1)
    replace ob := ob.ext hx
    clear hx hW3
    clear ex hs a0 a1 b0 b1 f0 f1 rb
    clear hl0 hl1 hl2
    obtain ⟨ex, hs, ⟨a0, a1⟩, ⟨b0, b1⟩, f0, f1, rb⟩ := id ob
    have hl0 : w.heap.size < W3.heap.size := by omega
    have hl1 : w.heap.size + 1 < W3.heap.size := by omega
    have hl2 : w.heap.size + 2 < W3.heap.size := by omega
    go_upto_region 4 with (fail)
    refine wp_GR (w.heap.size + 1 + 1) (.cells #[.int .i64 0, .int .i64 0, .bool false, .slice none 0 0, .bool false, .slice none 0 0] 38) (fun W => Ext w W ∧ W3.heap.size ≤ W.heap.size ∧ W.cell? ⟨w.heap.size, 0, none⟩ = some (.bool nn) ∧ W.cell? ⟨w.heap.size, 1, none⟩ = some (.slice pn ln kn)) ?_
    intro hSM hRKS
    repeat (first | refine F_s ?_ | refine F_r ?_)
    refine F_w (fun W => _) (fun W hW => hW) ?_
    repeat (first | refine F_s ?_ | refine F_r ?_)
    rintro W4 ⟨⟨⟨hx, hz, hc⟩, hb⟩, _⟩
    obtain ⟨⟨c0, c1, c2, c3, c4, c5⟩, _, hl⟩ := cells6 hb
    clear hc hb
    go_wp2
    refine bodyPost_ret (v := .tuple #[.agg #[.int .i64 0, .int .i64 0, .bool false, .slice none 0 0, .bool false, .slice none 0 0], .bool false]) (by simp only [results, Tryz.results77]; go_simp) rfl ?_
    exact NO.out B.out _ hx
  have d3 : decide (sn < 0) = false := by simpa using n1
  by_cases g1 : sg ≤ 0
  · have d4 : decide (sg ≤ 0) = true := by simpa using g1
    have B : Hid (ofBad s n d = true) := Lib.hid (by simp [ofBad, HSG.out.1 g1])
    go_upto_region 3 with (fail)
    refine wp_FSc (fun W => cn W w.heap.size 0 nn pn ln kn ∧ cn W (w.heap.size + 1) 0 nd pd ld cd) ?_
    repeat (first | refine F_s ?_ | refine F_r ?_)
    refine F_n W2 zero (fun W hW => r02_zero _) ?_; intro n1 p1 l1 c1 hn1
    repeat (first | refine F_s ?_ | refine F_r ?_)
    refine F_c (.int .i64 sn) (fun W hW => r01_sgn n _ _ _ _ _ _ _ _ _ ((HN.out.ext ex).ext hW.1.1) hW.2 RN.out _ SN.out) ?_
    repeat (first | refine F_s ?_ | refine F_r ?_)
    refine F_n W2 zero (fun W hW => r02_zero _) ?_; intro n2 p2 l2 c2 hn2
    repeat (first | refine F_s ?_ | refine F_r ?_)
    refine F_c (.int .i64 sg) (fun W hW => r01_sgn d _ _ _ _ _ _ _ _ _ ((HD.out.ext ex).ext hW.1.1.1) hW.2 RD.out _ SG.out) ?_
    repeat (first | refine F_s ?_ | refine F_r ?_)
    rintro W3 hW3
    have hx : Ext W2 W3 := by
      have hzz := hW3
      repeat (first | exact hzz.1 | replace hzz := hzz.1)
    replace ob := ob.ext hx
    clear hx hW3
    clear ex hs a0 a1 b0 b1 f0 f1 rb
    clear hl0 hl1 hl2
    obtain ⟨ex, hs, ⟨a0, a1⟩, ⟨b0, b1⟩, f0, f1, rb⟩ := id ob
    have hl0 : w.heap.size < W3.heap.size := by omega
    have hl1 : w.heap.size + 1 < W3.heap.size := by omega
    have hl2 : w.heap.size + 2 < W3.heap.size := by omega
    go_upto_region 4 with (fail)
    refine wp_GR (w.heap.size + 1 + 1) (.cells #[.int .i64 0, .int .i64 0, .bool false, .slice none 0 0, .bool false, .slice none 0 0] 38) (fun W => Ext w W ∧ W3.heap.size ≤ W.heap.size ∧ W.cell? ⟨w.heap.size, 0, none⟩ = some (.bool nn) ∧ W.cell? ⟨w.heap.size, 1, none⟩ = some (.slice pn ln kn)) ?_
    intro hSM hRKS
    repeat (first | refine F_s ?_ | refine F_r ?_)
    refine F_w (fun W => _) (fun W hW => hW) ?_
    repeat (first | refine F_s ?_ | refine F_r ?_)
    rintro W4 ⟨⟨⟨hx, hz, hc⟩, hb⟩, _⟩
    obtain ⟨⟨c0, c1, c2, c3, c4, c5⟩, _, hl⟩ := cells6 hb
    clear hc hb
    go_wp2
    refine bodyPost_ret (v := .tuple #[.agg #[.int .i64 0, .int .i64 0, .bool false, .slice none 0 0, .bool false, .slice none 0 0], .bool false]) (by simp only [results, Tryz.results77]; go_simp) rfl ?_
    exact NO.out B.out _ hx
  have d4 : decide (sg ≤ 0) = false := by simpa using g1
  have hneg : n.neg = false := by
    cases hq : n.neg with
    | false => rfl
    | true => exact absurd (HSN.out.1.2 ((neg_iff RN.out).1 hq)) n1
  have dp : 0 < d.z := by have := HSG.out; omega
  have HB := Lib.hid (ofBad_of (s := s) (by omega) (by omega) RN.out RD.out hneg dp)
  have DP := Lib.hid dp
  have HNG := Lib.hid hneg
  clear dp hneg
  go_upto_region 3 with (fail)
  refine wp_FSc (fun W => cn W w.heap.size 0 nn pn ln kn ∧ cn W (w.heap.size + 1) 0 nd pd ld cd) ?_
  repeat (first | refine F_s ?_ | refine F_r ?_)
  refine F_n W2 zero (fun W hW => r02_zero _) ?_; intro n1 p1 l1 c1 hn1
  repeat (first | refine F_s ?_ | refine F_r ?_)
  refine F_c (.int .i64 sn) (fun W hW => r01_sgn n _ _ _ _ _ _ _ _ _ ((HN.out.ext ex).ext hW.1.1) hW.2 RN.out _ SN.out) ?_
  repeat (first | refine F_s ?_ | refine F_r ?_)
  refine F_n W2 zero (fun W hW => r02_zero _) ?_; intro n2 p2 l2 c2 hn2
  repeat (first | refine F_s ?_ | refine F_r ?_)
  refine F_c (.int .i64 sg) (fun W hW => r01_sgn d _ _ _ _ _ _ _ _ _ ((HD.out.ext ex).ext hW.1.1.1) hW.2 RD.out _ SG.out) ?_
  repeat (first | refine F_s ?_ | refine F_r ?_)
  rintro W3 hW3
  have hx : Ext W2 W3 := by
    have hzz := hW3
    repeat (first | exact hzz.1 | replace hzz := hzz.1)
  replace ob := ob.ext hx
  clear hx hW3
  clear ex hs a0 a1 b0 b1 f0 f1 rb
  clear hl0 hl1 hl2
  obtain ⟨ex, hs, ⟨a0, a1⟩, ⟨b0, b1⟩, f0, f1, rb⟩ := id ob
  have hl0 : w.heap.size < W3.heap.size := by omega
  have hl1 : w.heap.size + 1 < W3.heap.size := by omega
  have hl2 : w.heap.size + 2 < W3.heap.size := by omega
  go_upto_region 5 with (fail)
  refine wp_KBc W3 (W3.heap.size) (fun W => cn W w.heap.size 0 nn pn ln kn ∧ cn W (w.heap.size + 1) 0 nd pd ld cd) ?_
  intro hKeep
  repeat (first | refine F_s ?_ | refine F_r ?_)
  refine F_al ?_
  intro g5 hg5
  simp only [List.mem_cons, List.mem_range, not_or, Nat.not_lt] at hg5
  repeat (first | refine F_s ?_ | refine F_r ?_)
  refine F_w (fun W => _) (fun W hW => hW) ?_
  repeat (first | refine F_s ?_ | refine F_r ?_)
  rintro W4 ⟨⟨hS, hb⟩, _⟩
  have EX4 : Ext W3 W4 := hS.1
  have HN3 := Lib.hid (HN.out.ext ex)
  have HD3 := Lib.hid (HD.out.ext ex)
  have hs3 := hs
  clear hS hKeep
  have OB3 := Lib.hid ob
  replace ob := ob.ext EX4
  clear ex hs a0 a1 b0 b1 f0 f1 rb
  clear hl0 hl1 hl2
  obtain ⟨ex, hs, ⟨a0, a1⟩, ⟨b0, b1⟩, f0, f1, rb⟩ := id ob
  have hl0 : w.heap.size < W4.heap.size := by omega
  have hl1 : w.heap.size + 1 < W4.heap.size := by omega
  have hl2 : w.heap.size + 2 < W4.heap.size := by omega
  by_cases s0 : s = 0
  · have P : Hid (ofP add s n d = (⟨add, 0, zero, ofZ 1⟩, true)) := Lib.hid (by unfold ofP; rw [HB.out, if_neg (by simp), if_pos (.inl s0)])
    have d5 : (s == 0) = true := by simpa using s0
    clear s0
    go_upto_region 6 with (fail)
    refine wp_FSc (fun W => cn W w.heap.size 0 nn pn ln kn ∧ cn W (w.heap.size + 1) 0 nd pd ld cd) ?_
    repeat (first | refine F_s ?_ | refine F_r ?_)
    rintro W5 hW5
    have hx : Ext W4 W5 := by
      have hzz := hW5
      repeat (first | exact hzz.1 | replace hzz := hzz.1)
    have EX5 : Ext W3 W5 := Ext.step EX4 hx
    replace ob := ob.ext hx
    replace hb := heap_ext hb hx
    clear hx hW5 EX4
    clear ex hs a0 a1 b0 b1 f0 f1 rb
    clear hl0 hl1 hl2
    obtain ⟨ex, hs, ⟨a0, a1⟩, ⟨b0, b1⟩, f0, f1, rb⟩ := id ob
    have hl0 : w.heap.size < W5.heap.size := by omega
    have hl1 : w.heap.size + 1 < W5.heap.size := by omega
    have hl2 : w.heap.size + 2 < W5.heap.size := by omega
    go_upto_region 7 with (fail)
    refine wp_GR (g5) (.cells #[.int .i64 add, .int .i64 s, .bool nn, .slice pn ln kn, .bool nd, .slice pd ld cd] 38) (fun W => Ext W3 W ∧ W5.heap.size ≤ W.heap.size ∧ W.cell? ⟨w.heap.size, 0, none⟩ = some (.bool nn) ∧ W.cell? ⟨w.heap.size, 1, none⟩ = some (.slice pn ln kn)) ?_
    intro hSM hRKS
    repeat (first | refine F_s ?_ | refine F_r ?_)
    refine F_n W3 zero (fun W hW => r02_zero _) ?_; intro n4 p4 l4 c4 hn4
    repeat (first | refine F_s ?_ | refine F_r ?_)
    refine F_n W3 (ofZ 1) (fun W hW => r01_Of 1 _ (by decide) (by decide)) ?_; intro n6 p6 l6 c6 hn6
    repeat (first | refine F_s ?_ | refine F_r ?_)
    refine F_w (fun W => (_ ∧ NR W n4 p4 l4 c4 zero) ∧ NR W n6 p6 l6 c6 (ofZ 1)) (fun W hW => ⟨⟨⟨hW.1.1.1, hW.1.2⟩, hW.2⟩, hW.1.1.2⟩) ?_
    repeat (first | refine F_s ?_ | refine F_r ?_)
    rintro W6 ⟨⟨⟨⟨hS, nrN⟩, nrD⟩, hb'⟩, _⟩
  
    have EX6 : Ext W3 W6 := hS.1
    clear hS hb ob hSM hRKS
    clear ex hs a0 a1 b0 b1 f0 f1 rb
    clear hl0 hl1 hl2
    have hb := hb'
    obtain ⟨gz, GZ⟩ : ∃ z : Int, Hid (z = 1) := ⟨1, rfl⟩
    obtain ⟨qn, QN⟩ : ∃ q : Nm, Hid (q = zero) := ⟨_, rfl⟩
    obtain ⟨qd, QD⟩ : ∃ q : Nm, Hid (q = ofZ 1) := ⟨_, rfl⟩
    have HG : Hid (gcdP zero (ofZ 1) = (ofZ gz, true)) := Lib.hid (by rw [GZ.out, gcdP_right zero_right0 one_right, val_one_ofZ]; rfl)
    have DVN : Hid (divP zero (ofZ gz) = (qn, zero, true)) := Lib.hid (by rw [GZ.out, QN.out]; exact div_zero_one)
    have DVD : Hid (divP (ofZ 1) (ofZ gz) = (qd, zero, true)) := Lib.hid (by rw [GZ.out, QD.out]; exact div_one_one)
    have FIN : Hid (ofP add s n d = if 8 < max qn.d.length qd.d.length then (Rt.no, false) else (⟨add, 0, qn, qd⟩, true)) := Lib.hid (by rw [P.out, QN.out, QD.out, ofZ_one_len, if_neg (by decide)])
    clear P
    obtain ⟨⟨e0, e1, e2, e3, e4, e5⟩, ef, el⟩ := cells6 hb
    go_wp2_with fail
    refine (rgcdB zero (ofZ 1) _ _ _ _ _ _ _ _ _ _ (nrN.ext bxx) (nrD.ext bxx) HG.out).mono ?_
    rintro e W7 ⟨n7, p7, l7, c7, rfl, nr7, _, hx⟩
    have hx7 : Ext W6 W7 := Ext.step bxx hx
    have EX7 : Ext W3 W7 := Ext.step EX6 hx7
    replace hb := heap_ext hb hx7
    replace nrN := nrN.ext hx7
    replace nrD := nrD.ext hx7
    clear e0 e1 e2 e3 e4 e5 ef el
    clear hx hx7
    obtain ⟨⟨e0, e1, e2, e3, e4, e5⟩, ef, el⟩ := cells6 hb
    go_upto_region 9 with (fail)
    refine wp_know (fun W => Ext W3 W ∧ W.heap[g5]? = some (.cells #[.int .i64 add, .int .i64 0, .bool n4, .slice p4 l4 c4, .bool n6, .slice p6 l6 c6] 38) ∧ VB2 W W7.heap.size n7 p7 l7 c7 (ofZ gz) ∧ NR W n4 p4 l4 c4 zero ∧ NR W n6 p6 l6 c6 (ofZ 1)) ?_ ?_
    · exact ⟨EX7.alloc EX7.size _, heap_old hb, VB2.heap (heap_new rfl) (nr7.alloc _), nrN.alloc _, nrD.alloc _⟩
    have hg57 := el
    obtain ⟨g7, G7⟩ : ∃ x, Hid (W7.heap.size = x) := ⟨_, rfl⟩
    rw [G7.out] at hg57 ⊢
    clear e0 e1 e2 e3 e4 e5 ef el
    clear hb nrN nrD nr7 EX7
    rintro W8 ⟨EX8, hb, vg, nrN, nrD⟩
    obtain ⟨⟨e0, e1, e2, e3, e4, e5⟩, ef, el⟩ := cells6 hb
    obtain ⟨q0, q1, q2, q3⟩ := id vg
    go_wp2_with fail
    refine (rdivB zero (ofZ gz) _ _ _ _ _ _ _ _ _ _ (nrN.ext bxx) (q3.ext bxx) DVN.out).mono ?_
    rintro e W9 ⟨n8, p8, l8, c8, n9, p9, l9, c9, rfl, nr8, _, _, _, hx⟩
    have hx9 : Ext W8 W9 := Ext.step bxx hx
    have EX9 : Ext W3 W9 := Ext.step EX8 hx9
    replace hb := heap_ext hb hx9
    replace vg := vg.ext hx9
    replace nrD := nrD.ext hx9
    clear e0 e1 e2 e3 e4 e5 ef el
    clear hx hx9 nrN q0 q1 q2 q3 EX8
    obtain ⟨⟨e0, e1, e2, e3, e4, e5⟩, ef, el⟩ := cells6 hb
    go_upto_region 10 with (fail)
    refine wp_know (fun W => Ext W3 W ∧ W.heap[g5]? = some (.cells #[.int .i64 add, .int .i64 0, .bool n8, .slice p8 l8 c8, .bool n6, .slice p6 l6 c6] 38) ∧ VB2 W g7 n7 p7 l7 c7 (ofZ gz) ∧ NR W n8 p8 l8 c8 qn ∧ NR W n6 p6 l6 c6 (ofZ 1)) ?_ ?_
    · obtain ⟨o1, o2⟩ := put2 hb (.bool n8) (.slice p8 l8 c8)
      exact ⟨(EX9.setCell hg5 _).setCell hg5 _, o2, vg.only (by omega) hb o1, NR.keep6 nr8 hb o1, NR.keep6 nrD hb o1⟩
    clear e0 e1 e2 e3 e4 e5 ef el
    clear hb nrD nr8 EX9 vg
    rintro W10 ⟨EX10, hb, vg, nr8, nrD⟩
    obtain ⟨⟨e0, e1, e2, e3, e4, e5⟩, ef, el⟩ := cells6 hb
    obtain ⟨q0, q1, q2, q3⟩ := id vg
    go_wp2_with fail
    refine (rdivB (ofZ 1) (ofZ gz) _ _ _ _ _ _ _ _ _ _ (nrD.ext bxx) (q3.ext bxx) DVD.out).mono ?_
    rintro e W11 ⟨n10, p10, l10, c10, n11, p11, l11, c11, rfl, nr10, _, _, _, hx⟩
    have hx11 : Ext W10 W11 := Ext.step bxx hx
    have EX11 : Ext W3 W11 := Ext.step EX10 hx11
    replace hb := heap_ext hb hx11
    replace nr8 := nr8.ext hx11
    clear e0 e1 e2 e3 e4 e5 ef el
    clear hx hx11 nrD q0 q1 q2 q3 EX10 vg
    obtain ⟨⟨e0, e1, e2, e3, e4, e5⟩, ef, el⟩ := cells6 hb
    go_upto_region 11 with (fail)
    refine wp_know (fun W => Ext W3 W ∧ W.heap[g5]? = some (.cells #[.int .i64 add, .int .i64 0, .bool n8, .slice p8 l8 c8, .bool n10, .slice p10 l10 c10] 38) ∧ NR W n8 p8 l8 c8 qn ∧ NR W n10 p10 l10 c10 qd) ?_ ?_
    · obtain ⟨o1, o2⟩ := put4 hb (.bool n10) (.slice p10 l10 c10)
      exact ⟨(EX11.setCell hg5 _).setCell hg5 _, o2, NR.keep6 nr8 hb o1, NR.keep6 nr10 hb o1⟩
    clear e0 e1 e2 e3 e4 e5 ef el
    clear hb nr8 nr10 EX11
    rintro Wa ⟨EXa, hb, nr8, nr10⟩
    obtain ⟨⟨e0, e1, e2, e3, e4, e5⟩, ef, el⟩ := cells6 hb
    have ob := OB3.out.ext EXa
    obtain ⟨ex, hs, ⟨a0, a1⟩, ⟨b0, b1⟩, f0, f1, rb⟩ := id ob
    have hl0 : w.heap.size < Wa.heap.size := by omega
    have hl1 : w.heap.size + 1 < Wa.heap.size := by omega
    have hl2 : w.heap.size + 2 < Wa.heap.size := by omega
    have y8 := nr8.2.1
    have y10 := nr10.2.1
    have m8 := nr8.2.2.le
    have m10 := nr10.2.2.le
    have x8 := nr8.2.2.max
    have x10 := nr10.2.2.max
    have HM := FIN.out
    rw [← y8, ← y10] at HM
    rw [← y8] at m8
    rw [← y10] at m10
    have MA := Lib.hid HM
    have NR8 := Lib.hid nr8
    have NR10 := Lib.hid nr10
    clear nr8 nr10 y8 y10 HM hb
    have fzero : ∀ (P : Hid (ofP add s n d = (Rt.no, false))), True := fun _ => trivial
    by_cases h8 : 8 < l8
    · have d8 : decide (8 < (l8 : Int)) = true := by rw [decide_eq_true_eq]; omega
      have P : Hid (ofP add s n d = (Rt.no, false)) := Lib.hid (by rw [MA.out, if_pos (by omega)])
      clear h8 fzero
      go_upto_region 12 with (fail)
      refine wp_GR (w.heap.size + 1 + 1) (.cells #[.int .i64 0, .int .i64 0, .bool false, .slice none 0 0, .bool false, .slice none 0 0] 38) (fun W => Ext w W ∧ Wa.heap.size ≤ W.heap.size ∧ W.cell? ⟨w.heap.size, 0, none⟩ = some (.bool nn) ∧ W.cell? ⟨w.heap.size, 1, none⟩ = some (.slice pn ln kn)) ?_
      intro hSM hRKS
      repeat (first | refine F_s ?_ | refine F_r ?_)
      refine F_w (fun W => _) (fun W hW => hW) ?_
      repeat (first | refine F_s ?_ | refine F_r ?_)
      rintro Wb ⟨⟨⟨hx, hz, hc⟩, hb⟩, _⟩
      obtain ⟨⟨c0, c1, c2, c3, c4, c5⟩, _, hl⟩ := cells6 hb
      clear hc hb
      go_wp2
      refine bodyPost_ret (v := .tuple #[.agg #[.int .i64 0, .int .i64 0, .bool false, .slice none 0 0, .bool false, .slice none 0 0], .bool false]) (by simp only [results, Tryz.results77]; go_simp) rfl ?_
      rw [P.out]
      exact ⟨false, none, 0, 0, false, none, 0, 0, rfl, NR.zero _, NR.zero _, hx⟩
    have d8 : decide (8 < (l8 : Int)) = false := by rw [decide_eq_false_iff_not]; omega
    by_cases h10 : 8 < l10
    · have d10 : decide (8 < (l10 : Int)) = true := by rw [decide_eq_true_eq]; omega
      have P : Hid (ofP add s n d = (Rt.no, false)) := Lib.hid (by rw [MA.out, if_pos (by omega)])
      clear h8 h10 fzero
      go_upto_region 12 with (fail)
      refine wp_GR (w.heap.size + 1 + 1) (.cells #[.int .i64 0, .int .i64 0, .bool false, .slice none 0 0, .bool false, .slice none 0 0] 38) (fun W => Ext w W ∧ Wa.heap.size ≤ W.heap.size ∧ W.cell? ⟨w.heap.size, 0, none⟩ = some (.bool nn) ∧ W.cell? ⟨w.heap.size, 1, none⟩ = some (.slice pn ln kn)) ?_
      intro hSM hRKS
      repeat (first | refine F_s ?_ | refine F_r ?_)
      refine F_w (fun W => _) (fun W hW => hW) ?_
      repeat (first | refine F_s ?_ | refine F_r ?_)
      rintro Wb ⟨⟨⟨hx, hz, hc⟩, hb⟩, _⟩
      obtain ⟨⟨c0, c1, c2, c3, c4, c5⟩, _, hl⟩ := cells6 hb
      clear hc hb
      go_wp2
      refine bodyPost_ret (v := .tuple #[.agg #[.int .i64 0, .int .i64 0, .bool false, .slice none 0 0, .bool false, .slice none 0 0], .bool false]) (by simp only [results, Tryz.results77]; go_simp) rfl ?_
      rw [P.out]
      exact ⟨false, none, 0, 0, false, none, 0, 0, rfl, NR.zero _, NR.zero _, hx⟩
    have d10 : decide (8 < (l10 : Int)) = false := by rw [decide_eq_false_iff_not]; omega
    have P : Hid (ofP add s n d = (⟨add, 0, qn, qd⟩, true)) := Lib.hid (by rw [MA.out, if_neg (by omega)])
    clear h8 h10 fzero
    go_upto_region 13 with (fail)
    have nr8 := NR8.out
    have nr10 := NR10.out
    refine wp_GN (w.heap.size + 1 + 1) (.cells #[.int .i64 0, .int .i64 0, .bool false, .slice none 0 0, .bool false, .slice none 0 0] 38) (fun W => Ext w W ∧ Wa.heap.size ≤ W.heap.size ∧ W.cell? ⟨g5, 0, none⟩ = some (.int .i64 add) ∧ W.cell? ⟨g5, 1, none⟩ = some (.int .i64 0) ∧ W.cell? ⟨g5, 2, none⟩ = some (.bool n8) ∧ W.cell? ⟨g5, 3, none⟩ = some (.slice p8 l8 c8) ∧ W.cell? ⟨g5, 4, none⟩ = some (.bool n10) ∧ W.cell? ⟨g5, 5, none⟩ = some (.slice p10 l10 c10)) (fun W => NR W n8 p8 l8 c8 qn ∧ NR W n10 p10 l10 c10 qd) ?_
    intro hSM hRKS
    repeat (first | refine F_s ?_ | refine F_r ?_)
    refine F_w (fun W => _) (fun W hW => hW) ?_
    repeat (first | refine F_s ?_ | refine F_r ?_)
    rintro Wb ⟨⟨⟨⟨hx, hz, hc⟩, k6, k8⟩, hb⟩, _⟩
    obtain ⟨⟨c0, c1, c2, c3, c4, c5⟩, _, hl⟩ := cells6 hb
    clear hc hb nr8 nr10
    go_wp2
    refine bodyPost_ret (v := .tuple #[.agg #[.int .i64 add, .int .i64 0, .bool n8, .slice p8 l8 c8, .bool n10, .slice p10 l10 c10], .bool true]) (by simp only [results, Tryz.results77]; go_simp) rfl ?_
    rw [P.out]
    exact ⟨n8, p8, l8, c8, n10, p10, l10, c10, rfl, k6, k8, hx⟩
  have d5 : (s == 0) = false := by simpa using s0
  by_cases n0 : sn = 0
  · have P : Hid (ofP add s n d = (⟨add, 0, zero, ofZ 1⟩, true)) := Lib.hid (by unfold ofP; rw [HB.out, if_neg (by simp), if_pos (.inr (HSN.out.2.1 n0))])
    have d6 : (sn == 0) = true := by simpa using n0
    clear n0
    go_upto_region 6 with (fail)
    refine wp_FSc (fun W => cn W w.heap.size 0 nn pn ln kn ∧ cn W (w.heap.size + 1) 0 nd pd ld cd) ?_
    repeat (first | refine F_s ?_ | refine F_r ?_)
    refine F_n W4 zero (fun W hW => r02_zero _) ?_; intro n3 p3 l3 c3 hn3
    repeat (first | refine F_s ?_ | refine F_r ?_)
    refine F_c (.int .i64 sn) (fun W hW => r01_sgn n _ _ _ _ _ _ _ _ _ ((HN.out.ext ex).ext hW.1.1) hW.2 RN.out _ SN.out) ?_
    repeat (first | refine F_s ?_ | refine F_r ?_)
    rintro W5 hW5
    have hx : Ext W4 W5 := by
      have hzz := hW5
      repeat (first | exact hzz.1 | replace hzz := hzz.1)
    have EX5 : Ext W3 W5 := Ext.step EX4 hx
    replace ob := ob.ext hx
    replace hb := heap_ext hb hx
    clear hx hW5 EX4
    clear ex hs a0 a1 b0 b1 f0 f1 rb
    clear hl0 hl1 hl2
    obtain ⟨ex, hs, ⟨a0, a1⟩, ⟨b0, b1⟩, f0, f1, rb⟩ := id ob
    have hl0 : w.heap.size < W5.heap.size := by omega
    have hl1 : w.heap.size + 1 < W5.heap.size := by omega
    have hl2 : w.heap.size + 2 < W5.heap.size := by omega
    go_upto_region 7 with (fail)
    refine wp_GR (g5) (.cells #[.int .i64 add, .int .i64 s, .bool nn, .slice pn ln kn, .bool nd, .slice pd ld cd] 38) (fun W => Ext W3 W ∧ W5.heap.size ≤ W.heap.size ∧ W.cell? ⟨w.heap.size, 0, none⟩ = some (.bool nn) ∧ W.cell? ⟨w.heap.size, 1, none⟩ = some (.slice pn ln kn)) ?_
    intro hSM hRKS
    repeat (first | refine F_s ?_ | refine F_r ?_)
    refine F_n W3 zero (fun W hW => r02_zero _) ?_; intro n4 p4 l4 c4 hn4
    repeat (first | refine F_s ?_ | refine F_r ?_)
    refine F_n W3 (ofZ 1) (fun W hW => r01_Of 1 _ (by decide) (by decide)) ?_; intro n6 p6 l6 c6 hn6
    repeat (first | refine F_s ?_ | refine F_r ?_)
    refine F_w (fun W => (_ ∧ NR W n4 p4 l4 c4 zero) ∧ NR W n6 p6 l6 c6 (ofZ 1)) (fun W hW => ⟨⟨⟨hW.1.1.1, hW.1.2⟩, hW.2⟩, hW.1.1.2⟩) ?_
    repeat (first | refine F_s ?_ | refine F_r ?_)
    rintro W6 ⟨⟨⟨⟨hS, nrN⟩, nrD⟩, hb'⟩, _⟩
  
    have EX6 : Ext W3 W6 := hS.1
    clear hS hb ob hSM hRKS
    clear ex hs a0 a1 b0 b1 f0 f1 rb
    clear hl0 hl1 hl2
    have hb := hb'
    obtain ⟨gz, GZ⟩ : ∃ z : Int, Hid (z = 1) := ⟨1, rfl⟩
    obtain ⟨qn, QN⟩ : ∃ q : Nm, Hid (q = zero) := ⟨_, rfl⟩
    obtain ⟨qd, QD⟩ : ∃ q : Nm, Hid (q = ofZ 1) := ⟨_, rfl⟩
    have HG : Hid (gcdP zero (ofZ 1) = (ofZ gz, true)) := Lib.hid (by rw [GZ.out, gcdP_right zero_right0 one_right, val_one_ofZ]; rfl)
    have DVN : Hid (divP zero (ofZ gz) = (qn, zero, true)) := Lib.hid (by rw [GZ.out, QN.out]; exact div_zero_one)
    have DVD : Hid (divP (ofZ 1) (ofZ gz) = (qd, zero, true)) := Lib.hid (by rw [GZ.out, QD.out]; exact div_one_one)
    have FIN : Hid (ofP add s n d = if 8 < max qn.d.length qd.d.length then (Rt.no, false) else (⟨add, 0, qn, qd⟩, true)) := Lib.hid (by rw [P.out, QN.out, QD.out, ofZ_one_len, if_neg (by decide)])
    clear P
    obtain ⟨⟨e0, e1, e2, e3, e4, e5⟩, ef, el⟩ := cells6 hb
    go_wp2_with fail
    refine (rgcdB zero (ofZ 1) _ _ _ _ _ _ _ _ _ _ (nrN.ext bxx) (nrD.ext bxx) HG.out).mono ?_
    rintro e W7 ⟨n7, p7, l7, c7, rfl, nr7, _, hx⟩
    have hx7 : Ext W6 W7 := Ext.step bxx hx
    have EX7 : Ext W3 W7 := Ext.step EX6 hx7
    replace hb := heap_ext hb hx7
    replace nrN := nrN.ext hx7
    replace nrD := nrD.ext hx7
    clear e0 e1 e2 e3 e4 e5 ef el
    clear hx hx7
    obtain ⟨⟨e0, e1, e2, e3, e4, e5⟩, ef, el⟩ := cells6 hb
    go_upto_region 9 with (fail)
    refine wp_know (fun W => Ext W3 W ∧ W.heap[g5]? = some (.cells #[.int .i64 add, .int .i64 0, .bool n4, .slice p4 l4 c4, .bool n6, .slice p6 l6 c6] 38) ∧ VB2 W W7.heap.size n7 p7 l7 c7 (ofZ gz) ∧ NR W n4 p4 l4 c4 zero ∧ NR W n6 p6 l6 c6 (ofZ 1)) ?_ ?_
    · exact ⟨EX7.alloc EX7.size _, heap_old hb, VB2.heap (heap_new rfl) (nr7.alloc _), nrN.alloc _, nrD.alloc _⟩
    have hg57 := el
    obtain ⟨g7, G7⟩ : ∃ x, Hid (W7.heap.size = x) := ⟨_, rfl⟩
    rw [G7.out] at hg57 ⊢
    clear e0 e1 e2 e3 e4 e5 ef el
    clear hb nrN nrD nr7 EX7
    rintro W8 ⟨EX8, hb, vg, nrN, nrD⟩
    obtain ⟨⟨e0, e1, e2, e3, e4, e5⟩, ef, el⟩ := cells6 hb
    obtain ⟨q0, q1, q2, q3⟩ := id vg
    go_wp2_with fail
    refine (rdivB zero (ofZ gz) _ _ _ _ _ _ _ _ _ _ (nrN.ext bxx) (q3.ext bxx) DVN.out).mono ?_
    rintro e W9 ⟨n8, p8, l8, c8, n9, p9, l9, c9, rfl, nr8, _, _, _, hx⟩
    have hx9 : Ext W8 W9 := Ext.step bxx hx
    have EX9 : Ext W3 W9 := Ext.step EX8 hx9
    replace hb := heap_ext hb hx9
    replace vg := vg.ext hx9
    replace nrD := nrD.ext hx9
    clear e0 e1 e2 e3 e4 e5 ef el
    clear hx hx9 nrN q0 q1 q2 q3 EX8
    obtain ⟨⟨e0, e1, e2, e3, e4, e5⟩, ef, el⟩ := cells6 hb
    go_upto_region 10 with (fail)
    refine wp_know (fun W => Ext W3 W ∧ W.heap[g5]? = some (.cells #[.int .i64 add, .int .i64 0, .bool n8, .slice p8 l8 c8, .bool n6, .slice p6 l6 c6] 38) ∧ VB2 W g7 n7 p7 l7 c7 (ofZ gz) ∧ NR W n8 p8 l8 c8 qn ∧ NR W n6 p6 l6 c6 (ofZ 1)) ?_ ?_
    · obtain ⟨o1, o2⟩ := put2 hb (.bool n8) (.slice p8 l8 c8)
      exact ⟨(EX9.setCell hg5 _).setCell hg5 _, o2, vg.only (by omega) hb o1, NR.keep6 nr8 hb o1, NR.keep6 nrD hb o1⟩
    clear e0 e1 e2 e3 e4 e5 ef el
    clear hb nrD nr8 EX9 vg
    rintro W10 ⟨EX10, hb, vg, nr8, nrD⟩
    obtain ⟨⟨e0, e1, e2, e3, e4, e5⟩, ef, el⟩ := cells6 hb
    obtain ⟨q0, q1, q2, q3⟩ := id vg
    go_wp2_with fail
    refine (rdivB (ofZ 1) (ofZ gz) _ _ _ _ _ _ _ _ _ _ (nrD.ext bxx) (q3.ext bxx) DVD.out).mono ?_
    rintro e W11 ⟨n10, p10, l10, c10, n11, p11, l11, c11, rfl, nr10, _, _, _, hx⟩
    have hx11 : Ext W10 W11 := Ext.step bxx hx
    have EX11 : Ext W3 W11 := Ext.step EX10 hx11
    replace hb := heap_ext hb hx11
    replace nr8 := nr8.ext hx11
    clear e0 e1 e2 e3 e4 e5 ef el
    clear hx hx11 nrD q0 q1 q2 q3 EX10 vg
    obtain ⟨⟨e0, e1, e2, e3, e4, e5⟩, ef, el⟩ := cells6 hb
    go_upto_region 11 with (fail)
    refine wp_know (fun W => Ext W3 W ∧ W.heap[g5]? = some (.cells #[.int .i64 add, .int .i64 0, .bool n8, .slice p8 l8 c8, .bool n10, .slice p10 l10 c10] 38) ∧ NR W n8 p8 l8 c8 qn ∧ NR W n10 p10 l10 c10 qd) ?_ ?_
    · obtain ⟨o1, o2⟩ := put4 hb (.bool n10) (.slice p10 l10 c10)
      exact ⟨(EX11.setCell hg5 _).setCell hg5 _, o2, NR.keep6 nr8 hb o1, NR.keep6 nr10 hb o1⟩
    clear e0 e1 e2 e3 e4 e5 ef el
    clear hb nr8 nr10 EX11
    rintro Wa ⟨EXa, hb, nr8, nr10⟩
    obtain ⟨⟨e0, e1, e2, e3, e4, e5⟩, ef, el⟩ := cells6 hb
    have ob := OB3.out.ext EXa
    obtain ⟨ex, hs, ⟨a0, a1⟩, ⟨b0, b1⟩, f0, f1, rb⟩ := id ob
    have hl0 : w.heap.size < Wa.heap.size := by omega
    have hl1 : w.heap.size + 1 < Wa.heap.size := by omega
    have hl2 : w.heap.size + 2 < Wa.heap.size := by omega
    have y8 := nr8.2.1
    have y10 := nr10.2.1
    have m8 := nr8.2.2.le
    have m10 := nr10.2.2.le
    have x8 := nr8.2.2.max
    have x10 := nr10.2.2.max
    have HM := FIN.out
    rw [← y8, ← y10] at HM
    rw [← y8] at m8
    rw [← y10] at m10
    have MA := Lib.hid HM
    have NR8 := Lib.hid nr8
    have NR10 := Lib.hid nr10
    clear nr8 nr10 y8 y10 HM hb
    have fzero : ∀ (P : Hid (ofP add s n d = (Rt.no, false))), True := fun _ => trivial
    by_cases h8 : 8 < l8
    · have d8 : decide (8 < (l8 : Int)) = true := by rw [decide_eq_true_eq]; omega
      have P : Hid (ofP add s n d = (Rt.no, false)) := Lib.hid (by rw [MA.out, if_pos (by omega)])
      clear h8 fzero
      go_upto_region 12 with (fail)
      refine wp_GR (w.heap.size + 1 + 1) (.cells #[.int .i64 0, .int .i64 0, .bool false, .slice none 0 0, .bool false, .slice none 0 0] 38) (fun W => Ext w W ∧ Wa.heap.size ≤ W.heap.size ∧ W.cell? ⟨w.heap.size, 0, none⟩ = some (.bool nn) ∧ W.cell? ⟨w.heap.size, 1, none⟩ = some (.slice pn ln kn)) ?_
      intro hSM hRKS
      repeat (first | refine F_s ?_ | refine F_r ?_)
      refine F_w (fun W => _) (fun W hW => hW) ?_
      repeat (first | refine F_s ?_ | refine F_r ?_)
      rintro Wb ⟨⟨⟨hx, hz, hc⟩, hb⟩, _⟩
      obtain ⟨⟨c0, c1, c2, c3, c4, c5⟩, _, hl⟩ := cells6 hb
      clear hc hb
      go_wp2
      refine bodyPost_ret (v := .tuple #[.agg #[.int .i64 0, .int .i64 0, .bool false, .slice none 0 0, .bool false, .slice none 0 0], .bool false]) (by simp only [results, Tryz.results77]; go_simp) rfl ?_
      rw [P.out]
      exact ⟨false, none, 0, 0, false, none, 0, 0, rfl, NR.zero _, NR.zero _, hx⟩
    have d8 : decide (8 < (l8 : Int)) = false := by rw [decide_eq_false_iff_not]; omega
    by_cases h10 : 8 < l10
    · have d10 : decide (8 < (l10 : Int)) = true := by rw [decide_eq_true_eq]; omega
      have P : Hid (ofP add s n d = (Rt.no, false)) := Lib.hid (by rw [MA.out, if_pos (by omega)])
      clear h8 h10 fzero
      go_upto_region 12 with (fail)
      refine wp_GR (w.heap.size + 1 + 1) (.cells #[.int .i64 0, .int .i64 0, .bool false, .slice none 0 0, .bool false, .slice none 0 0] 38) (fun W => Ext w W ∧ Wa.heap.size ≤ W.heap.size ∧ W.cell? ⟨w.heap.size, 0, none⟩ = some (.bool nn) ∧ W.cell? ⟨w.heap.size, 1, none⟩ = some (.slice pn ln kn)) ?_
      intro hSM hRKS
      repeat (first | refine F_s ?_ | refine F_r ?_)
      refine F_w (fun W => _) (fun W hW => hW) ?_
      repeat (first | refine F_s ?_ | refine F_r ?_)
      rintro Wb ⟨⟨⟨hx, hz, hc⟩, hb⟩, _⟩
      obtain ⟨⟨c0, c1, c2, c3, c4, c5⟩, _, hl⟩ := cells6 hb
      clear hc hb
      go_wp2
      refine bodyPost_ret (v := .tuple #[.agg #[.int .i64 0, .int .i64 0, .bool false, .slice none 0 0, .bool false, .slice none 0 0], .bool false]) (by simp only [results, Tryz.results77]; go_simp) rfl ?_
      rw [P.out]
      exact ⟨false, none, 0, 0, false, none, 0, 0, rfl, NR.zero _, NR.zero _, hx⟩
    have d10 : decide (8 < (l10 : Int)) = false := by rw [decide_eq_false_iff_not]; omega
    have P : Hid (ofP add s n d = (⟨add, 0, qn, qd⟩, true)) := Lib.hid (by rw [MA.out, if_neg (by omega)])
    clear h8 h10 fzero
    go_upto_region 13 with (fail)
    have nr8 := NR8.out
    have nr10 := NR10.out
    refine wp_GN (w.heap.size + 1 + 1) (.cells #[.int .i64 0, .int .i64 0, .bool false, .slice none 0 0, .bool false, .slice none 0 0] 38) (fun W => Ext w W ∧ Wa.heap.size ≤ W.heap.size ∧ W.cell? ⟨g5, 0, none⟩ = some (.int .i64 add) ∧ W.cell? ⟨g5, 1, none⟩ = some (.int .i64 0) ∧ W.cell? ⟨g5, 2, none⟩ = some (.bool n8) ∧ W.cell? ⟨g5, 3, none⟩ = some (.slice p8 l8 c8) ∧ W.cell? ⟨g5, 4, none⟩ = some (.bool n10) ∧ W.cell? ⟨g5, 5, none⟩ = some (.slice p10 l10 c10)) (fun W => NR W n8 p8 l8 c8 qn ∧ NR W n10 p10 l10 c10 qd) ?_
    intro hSM hRKS
    repeat (first | refine F_s ?_ | refine F_r ?_)
    refine F_w (fun W => _) (fun W hW => hW) ?_
    repeat (first | refine F_s ?_ | refine F_r ?_)
    rintro Wb ⟨⟨⟨⟨hx, hz, hc⟩, k6, k8⟩, hb⟩, _⟩
    obtain ⟨⟨c0, c1, c2, c3, c4, c5⟩, _, hl⟩ := cells6 hb
    clear hc hb nr8 nr10
    go_wp2
    refine bodyPost_ret (v := .tuple #[.agg #[.int .i64 add, .int .i64 0, .bool n8, .slice p8 l8 c8, .bool n10, .slice p10 l10 c10], .bool true]) (by simp only [results, Tryz.results77]; go_simp) rfl ?_
    rw [P.out]
    exact ⟨n8, p8, l8, c8, n10, p10, l10, c10, rfl, k6, k8, hx⟩
  have d6 : (sn == 0) = false := by simpa using n0
  go_upto_region 6 with (fail)
  refine wp_FSc (fun W => cn W w.heap.size 0 nn pn ln kn ∧ cn W (w.heap.size + 1) 0 nd pd ld cd) ?_
  repeat (first | refine F_s ?_ | refine F_r ?_)
  refine F_n W4 zero (fun W hW => r02_zero _) ?_; intro n3 p3 l3 c3 hn3
  repeat (first | refine F_s ?_ | refine F_r ?_)
  refine F_c (.int .i64 sn) (fun W hW => r01_sgn n _ _ _ _ _ _ _ _ _ ((HN.out.ext ex).ext hW.1.1) hW.2 RN.out _ SN.out) ?_
  repeat (first | refine F_s ?_ | refine F_r ?_)
  rintro W5 hW5
  have hx : Ext W4 W5 := by
    have hzz := hW5
    repeat (first | exact hzz.1 | replace hzz := hzz.1)
  have EX5 : Ext W3 W5 := Ext.step EX4 hx
  replace ob := ob.ext hx
  replace hb := heap_ext hb hx
  clear hx hW5 EX4
  clear ex hs a0 a1 b0 b1 f0 f1 rb
  clear hl0 hl1 hl2
  obtain ⟨ex, hs, ⟨a0, a1⟩, ⟨b0, b1⟩, f0, f1, rb⟩ := id ob
  have hl0 : w.heap.size < W5.heap.size := by omega
  have hl1 : w.heap.size + 1 < W5.heap.size := by omega
  have hl2 : w.heap.size + 2 < W5.heap.size := by omega
  obtain ⟨gn, GN⟩ : ∃ g, Hid (Nat.gcd (val n.d) (val d.d) = g) := ⟨_, rfl⟩
  have vd := d_pos DP.out
  have vn := z_pos HNG.out
  have hmain := ofP_main (add := add) HNG.out DP.out HB.out (by have := HSN.out; omega)
  have hg := gcdP_right RN.out RD.out
  rw [GN.out] at hmain hg
  have gp : 0 < gn := by rw [← GN.out]; exact Nat.gcd_pos_of_pos_right _ vd.2
  have sg1 : small (gn : Int) = true := by
    refine small_of_le HD.out.2.2.dig RD.out ?_
    rw [Int.natAbs_natCast, ← GN.out]
    exact Nat.gcd_le_right _ vd.2
  have dvn := divP_nm RN.out sg1 gp
  have dvd := divP_nm RD.out sg1 gp
  rw [vn] at dvn
  rw [vd.1] at dvd
  obtain ⟨qn, QN⟩ : ∃ q, Hid (ofZ ((val n.d / gn : Nat) : Int) = q) := ⟨_, rfl⟩
  obtain ⟨qd, QD⟩ : ∃ q, Hid (ofZ ((val d.d / gn : Nat) : Int) = q) := ⟨_, rfl⟩
  rw [← Int.natCast_ediv, QN.out] at dvn
  rw [← Int.natCast_ediv, QD.out] at dvd
  rw [QN.out, QD.out] at hmain
  obtain ⟨gz, GZ⟩ : ∃ z : Int, Hid ((gn : Int) = z) := ⟨_, rfl⟩
  rw [GZ.out] at hg dvn dvd
  have HG := Lib.hid hg
  have DVN := Lib.hid dvn
  have DVD := Lib.hid dvd
  have FIN := Lib.hid hmain
  have nrN := HN.out.ext ex
  have nrD := HD.out.ext ex
  clear hg dvn dvd hmain gp sg1 vd vn ob
  clear ex hs a0 a1 b0 b1 f0 f1 rb
  clear hl0 hl1 hl2
  obtain ⟨⟨e0, e1, e2, e3, e4, e5⟩, ef, el⟩ := cells6 hb
  go_wp2_with fail
  refine (rgcdB n d _ _ _ _ _ _ _ _ _ _ (nrN.ext bxx) (nrD.ext bxx) HG.out).mono ?_
  rintro e W7 ⟨n7, p7, l7, c7, rfl, nr7, _, hx⟩
  have hx7 : Ext W5 W7 := Ext.step bxx hx
  have EX7 : Ext W3 W7 := Ext.step EX5 hx7
  replace hb := heap_ext hb hx7
  replace nrN := nrN.ext hx7
  replace nrD := nrD.ext hx7
  clear e0 e1 e2 e3 e4 e5 ef el
  clear hx hx7
  obtain ⟨⟨e0, e1, e2, e3, e4, e5⟩, ef, el⟩ := cells6 hb
  go_upto_region 9 with (fail)
  refine wp_know (fun W => Ext W3 W ∧ W.heap[g5]? = some (.cells #[.int .i64 add, .int .i64 s, .bool nn, .slice pn ln kn, .bool nd, .slice pd ld cd] 38) ∧ VB2 W W7.heap.size n7 p7 l7 c7 (ofZ gz) ∧ NR W nn pn ln kn n ∧ NR W nd pd ld cd d) ?_ ?_
  · exact ⟨EX7.alloc EX7.size _, heap_old hb, VB2.heap (heap_new rfl) (nr7.alloc _), nrN.alloc _, nrD.alloc _⟩
  have hg57 := el
  obtain ⟨g7, G7⟩ : ∃ x, Hid (W7.heap.size = x) := ⟨_, rfl⟩
  rw [G7.out] at hg57 ⊢
  clear e0 e1 e2 e3 e4 e5 ef el
  clear hb nrN nrD nr7 EX7
  rintro W8 ⟨EX8, hb, vg, nrN, nrD⟩
  obtain ⟨⟨e0, e1, e2, e3, e4, e5⟩, ef, el⟩ := cells6 hb
  obtain ⟨q0, q1, q2, q3⟩ := id vg
  go_wp2_with fail
  refine (rdivB n (ofZ gz) _ _ _ _ _ _ _ _ _ _ (nrN.ext bxx) (q3.ext bxx) DVN.out).mono ?_
  rintro e W9 ⟨n8, p8, l8, c8, n9, p9, l9, c9, rfl, nr8, _, _, _, hx⟩
  have hx9 : Ext W8 W9 := Ext.step bxx hx
  have EX9 : Ext W3 W9 := Ext.step EX8 hx9
  replace hb := heap_ext hb hx9
  replace vg := vg.ext hx9
  replace nrD := nrD.ext hx9
  clear e0 e1 e2 e3 e4 e5 ef el
  clear hx hx9 nrN q0 q1 q2 q3 EX8
  obtain ⟨⟨e0, e1, e2, e3, e4, e5⟩, ef, el⟩ := cells6 hb
  go_upto_region 10 with (fail)
  refine wp_know (fun W => Ext W3 W ∧ W.heap[g5]? = some (.cells #[.int .i64 add, .int .i64 s, .bool n8, .slice p8 l8 c8, .bool nd, .slice pd ld cd] 38) ∧ VB2 W g7 n7 p7 l7 c7 (ofZ gz) ∧ NR W n8 p8 l8 c8 qn ∧ NR W nd pd ld cd d) ?_ ?_
  · obtain ⟨o1, o2⟩ := put2 hb (.bool n8) (.slice p8 l8 c8)
    exact ⟨(EX9.setCell hg5 _).setCell hg5 _, o2, vg.only (by omega) hb o1, NR.keep6 nr8 hb o1, NR.keep6 nrD hb o1⟩
  clear e0 e1 e2 e3 e4 e5 ef el
  clear hb nrD nr8 EX9 vg
  rintro W10 ⟨EX10, hb, vg, nr8, nrD⟩
  obtain ⟨⟨e0, e1, e2, e3, e4, e5⟩, ef, el⟩ := cells6 hb
  obtain ⟨q0, q1, q2, q3⟩ := id vg
  go_wp2_with fail
  refine (rdivB d (ofZ gz) _ _ _ _ _ _ _ _ _ _ (nrD.ext bxx) (q3.ext bxx) DVD.out).mono ?_
  rintro e W11 ⟨n10, p10, l10, c10, n11, p11, l11, c11, rfl, nr10, _, _, _, hx⟩
  have hx11 : Ext W10 W11 := Ext.step bxx hx
  have EX11 : Ext W3 W11 := Ext.step EX10 hx11
  replace hb := heap_ext hb hx11
  replace nr8 := nr8.ext hx11
  clear e0 e1 e2 e3 e4 e5 ef el
  clear hx hx11 nrD q0 q1 q2 q3 EX10 vg
  obtain ⟨⟨e0, e1, e2, e3, e4, e5⟩, ef, el⟩ := cells6 hb
  go_upto_region 11 with (fail)
  refine wp_know (fun W => Ext W3 W ∧ W.heap[g5]? = some (.cells #[.int .i64 add, .int .i64 s, .bool n8, .slice p8 l8 c8, .bool n10, .slice p10 l10 c10] 38) ∧ NR W n8 p8 l8 c8 qn ∧ NR W n10 p10 l10 c10 qd) ?_ ?_
  · obtain ⟨o1, o2⟩ := put4 hb (.bool n10) (.slice p10 l10 c10)
    exact ⟨(EX11.setCell hg5 _).setCell hg5 _, o2, NR.keep6 nr8 hb o1, NR.keep6 nr10 hb o1⟩
  clear e0 e1 e2 e3 e4 e5 ef el
  clear hb nr8 nr10 EX11
  rintro Wa ⟨EXa, hb, nr8, nr10⟩
  obtain ⟨⟨e0, e1, e2, e3, e4, e5⟩, ef, el⟩ := cells6 hb
  have ob := OB3.out.ext EXa
  obtain ⟨ex, hs, ⟨a0, a1⟩, ⟨b0, b1⟩, f0, f1, rb⟩ := id ob
  have hl0 : w.heap.size < Wa.heap.size := by omega
  have hl1 : w.heap.size + 1 < Wa.heap.size := by omega
  have hl2 : w.heap.size + 2 < Wa.heap.size := by omega
  have y8 := nr8.2.1
  have y10 := nr10.2.1
  have m8 := nr8.2.2.le
  have m10 := nr10.2.2.le
  have x8 := nr8.2.2.max
  have x10 := nr10.2.2.max
  have HM := FIN.out
  rw [← y8, ← y10] at HM
  rw [← y8] at m8
  rw [← y10] at m10
  have MA := Lib.hid HM
  have NR8 := Lib.hid nr8
  have NR10 := Lib.hid nr10
  clear nr8 nr10 y8 y10 HM hb
  have fzero : ∀ (P : Hid (ofP add s n d = (Rt.no, false))), True := fun _ => trivial
  by_cases h8 : 8 < l8
  · have d8 : decide (8 < (l8 : Int)) = true := by rw [decide_eq_true_eq]; omega
    have P : Hid (ofP add s n d = (Rt.no, false)) := Lib.hid (by rw [MA.out, if_pos (by omega)])
    clear h8 fzero
    go_upto_region 12 with (fail)
    refine wp_GR (w.heap.size + 1 + 1) (.cells #[.int .i64 0, .int .i64 0, .bool false, .slice none 0 0, .bool false, .slice none 0 0] 38) (fun W => Ext w W ∧ Wa.heap.size ≤ W.heap.size ∧ W.cell? ⟨w.heap.size, 0, none⟩ = some (.bool nn) ∧ W.cell? ⟨w.heap.size, 1, none⟩ = some (.slice pn ln kn)) ?_
    intro hSM hRKS
    repeat (first | refine F_s ?_ | refine F_r ?_)
    refine F_w (fun W => _) (fun W hW => hW) ?_
    repeat (first | refine F_s ?_ | refine F_r ?_)
    rintro Wb ⟨⟨⟨hx, hz, hc⟩, hb⟩, _⟩
    obtain ⟨⟨c0, c1, c2, c3, c4, c5⟩, _, hl⟩ := cells6 hb
    clear hc hb
    go_wp2
    refine bodyPost_ret (v := .tuple #[.agg #[.int .i64 0, .int .i64 0, .bool false, .slice none 0 0, .bool false, .slice none 0 0], .bool false]) (by simp only [results, Tryz.results77]; go_simp) rfl ?_
    rw [P.out]
    exact ⟨false, none, 0, 0, false, none, 0, 0, rfl, NR.zero _, NR.zero _, hx⟩
  have d8 : decide (8 < (l8 : Int)) = false := by rw [decide_eq_false_iff_not]; omega
  by_cases h10 : 8 < l10
  · have d10 : decide (8 < (l10 : Int)) = true := by rw [decide_eq_true_eq]; omega
    have P : Hid (ofP add s n d = (Rt.no, false)) := Lib.hid (by rw [MA.out, if_pos (by omega)])
    clear h8 h10 fzero
    go_upto_region 12 with (fail)
    refine wp_GR (w.heap.size + 1 + 1) (.cells #[.int .i64 0, .int .i64 0, .bool false, .slice none 0 0, .bool false, .slice none 0 0] 38) (fun W => Ext w W ∧ Wa.heap.size ≤ W.heap.size ∧ W.cell? ⟨w.heap.size, 0, none⟩ = some (.bool nn) ∧ W.cell? ⟨w.heap.size, 1, none⟩ = some (.slice pn ln kn)) ?_
    intro hSM hRKS
    repeat (first | refine F_s ?_ | refine F_r ?_)
    refine F_w (fun W => _) (fun W hW => hW) ?_
    repeat (first | refine F_s ?_ | refine F_r ?_)
    rintro Wb ⟨⟨⟨hx, hz, hc⟩, hb⟩, _⟩
    obtain ⟨⟨c0, c1, c2, c3, c4, c5⟩, _, hl⟩ := cells6 hb
    clear hc hb
    go_wp2
    refine bodyPost_ret (v := .tuple #[.agg #[.int .i64 0, .int .i64 0, .bool false, .slice none 0 0, .bool false, .slice none 0 0], .bool false]) (by simp only [results, Tryz.results77]; go_simp) rfl ?_
    rw [P.out]
    exact ⟨false, none, 0, 0, false, none, 0, 0, rfl, NR.zero _, NR.zero _, hx⟩
  have d10 : decide (8 < (l10 : Int)) = false := by rw [decide_eq_false_iff_not]; omega
  have P : Hid (ofP add s n d = (⟨add, s, qn, qd⟩, true)) := Lib.hid (by rw [MA.out, if_neg (by omega)])
  clear h8 h10 fzero
  go_upto_region 13 with (fail)
  have nr8 := NR8.out
  have nr10 := NR10.out
  refine wp_GN (w.heap.size + 1 + 1) (.cells #[.int .i64 0, .int .i64 0, .bool false, .slice none 0 0, .bool false, .slice none 0 0] 38) (fun W => Ext w W ∧ Wa.heap.size ≤ W.heap.size ∧ W.cell? ⟨g5, 0, none⟩ = some (.int .i64 add) ∧ W.cell? ⟨g5, 1, none⟩ = some (.int .i64 s) ∧ W.cell? ⟨g5, 2, none⟩ = some (.bool n8) ∧ W.cell? ⟨g5, 3, none⟩ = some (.slice p8 l8 c8) ∧ W.cell? ⟨g5, 4, none⟩ = some (.bool n10) ∧ W.cell? ⟨g5, 5, none⟩ = some (.slice p10 l10 c10)) (fun W => NR W n8 p8 l8 c8 qn ∧ NR W n10 p10 l10 c10 qd) ?_
  intro hSM hRKS
  repeat (first | refine F_s ?_ | refine F_r ?_)
  refine F_w (fun W => _) (fun W hW => hW) ?_
  repeat (first | refine F_s ?_ | refine F_r ?_)
  rintro Wb ⟨⟨⟨⟨hx, hz, hc⟩, k6, k8⟩, hb⟩, _⟩
  obtain ⟨⟨c0, c1, c2, c3, c4, c5⟩, _, hl⟩ := cells6 hb
  clear hc hb nr8 nr10
  go_wp2
  refine bodyPost_ret (v := .tuple #[.agg #[.int .i64 add, .int .i64 s, .bool n8, .slice p8 l8 c8, .bool n10, .slice p10 l10 c10], .bool true]) (by simp only [results, Tryz.results77]; go_simp) rfl ?_
  rw [P.out]
  exact ⟨n8, p8, l8, c8, n10, p10, l10, c10, rfl, k6, k8, hx⟩
end Go.Proofs.YtighahcllmoajaaGreat
