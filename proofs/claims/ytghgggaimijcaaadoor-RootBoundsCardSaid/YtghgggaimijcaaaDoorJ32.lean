/- Contract: etchantlaw02.bounds. | The walk of the law RootBounds. -/
import Derived.Test.YtghgggaimijcaaaDoorJ30
import Derived.Test.YtghgggaimijcaaaDoorJ27
import Derived.Test.YtghgggaimijcaaaDoorJ28
set_option linter.unusedVariables false
set_option linter.unusedSimpArgs false

namespace Go.Proofs.YtghgggaimijcaaaDoor
open Go.RowKit
attribute [local go_sem] Gives givesU

/-- What holds ahead of a round: the root of X lies from lo to lo + 2 st. -/
def BInv (X lo st : Nat) : Prop := lo * lo ≤ X ∧ ((st = 0 ∧ X < (lo + 1) * (lo + 1)) ∨ ∃ k, k ≤ 25 ∧ st = 2 ^ k ∧ X < (lo + 2 * st) * (lo + 2 * st))
theorem BInv.half {X lo st : Nat} (h1 : lo * lo ≤ X) (k : Nat) (hk : k ≤ 25) (hs : st = 2 ^ k) (h2 : X < (lo + st) * (lo + st)) : BInv X lo (st / 2) := by
  refine ⟨h1, ?_⟩
  rcases k with _ | k
  · left
    subst hs
    exact ⟨by decide, by simpa using h2⟩
  · right
    refine ⟨k, by omega, by rw [hs, Nat.pow_succ]; omega, ?_⟩
    have e : 2 * (st / 2) = st := by rw [hs, Nat.pow_succ]; omega
    rw [e]
    exact h2
theorem BInv.lo_bd {X lo st : Nat} (h : BInv X lo st) (hX : X < 104857600000) : lo < 400000 := by
  apply Classical.byContradiction
  intro hn
  have := Nat.mul_le_mul (show 400000 ≤ lo by omega) (show 400000 ≤ lo by omega)
  have := h.1
  omega
theorem BInv.st_bd {X lo st : Nat} (h : BInv X lo st) : st ≤ 33554432 := by
  rcases h.2 with ⟨h, _⟩ | ⟨k, hk, rfl, _⟩
  · omega
  · have := Nat.pow_le_pow_right (n := 2) (by decide) hk
    omega
theorem wrap_small {n : Nat} (h : n ≤ 33554432) : wrap64 (n : Int) = n := IntWalk.wrap64_in _ ⟨by omega, by omega⟩
theorem bd_facts {lo st : Nat} (h1 : lo < 400000) (h2 : st ≤ 33554432) : wrap64 ((lo : Int) + st) = lo + st ∧ wrap64 (((lo : Int) + st) * ((lo : Int) + st)) = (((lo + st) * (lo + st) : Nat) : Int) := by
  have ht : lo + st ≤ 33954432 := by omega
  have hm := Nat.mul_le_mul ht ht
  have e : ((lo : Int) + st) * ((lo : Int) + st) = (((lo + st) * (lo + st) : Nat) : Int) := by rw [Int.natCast_mul, Int.natCast_add]
  refine ⟨IntWalk.wrap64_in _ ⟨by omega, by omega⟩, ?_⟩
  rw [e]
  generalize (lo + st) * (lo + st) = m at hm ⊢
  exact IntWalk.wrap64_in _ ⟨by omega, by omega⟩
set_option maxRecDepth 100000 in
set_option maxHeartbeats 4000000 in
theorem l02_bounds (add s : Int) (n : Nat) (w : World) (ha : -1000 < add ∧ add < 1000) (hs : s = 1 ∨ s = 0 ∨ s = -1) (hn : n < 100000) :
    Calls Tryd.prog 12 #[.int .i64 add, .int .i64 s, .int .i64 (n : Int)] w fun e w' => (∃ r h : Nat, r * r ≤ n * 1048576 ∧ n * 1048576 ≤ h * h ∧ (r < 400000 ∧ h ≤ 400000) ∧ e = .returned (.tuple #[.int .i64 (lowZ add s r h), .int .i64 (highZ add s r h)])) ∧ Ext w w' := by
  obtain ⟨X, HX⟩ : ∃ X, Hid (n * 1048576 = X) := ⟨_, Lib.hid rfl⟩
  have hX : X < 104857600000 := by have := HX.out; omega
  have hsh : wrap64 ((n : Int) * 1048576) = (X : Int) := (IntWalk.wrap64_in _ ⟨by omega, by omega⟩).trans (by have := HX.out; omega)
  have hsh2 : (n : Int) * 1048576 = (X : Int) := by have := HX.out; omega
  have hsa : wrap64 (add * 1024) = add * 1024 := IntWalk.wrap64_in _ ⟨by omega, by omega⟩
  rw [HX.out]
  go_enter Tryd.func12, Tryd.ntmps12
  go_wp2_with fail
  go_loopw [8, 9] (fun a b wr => ∃ lo st : Nat, a = .int .i64 (lo : Int) ∧ b = .int .i64 (st : Int) ∧ BInv X lo st ∧ wr = w) (fun _ b _ => (intOf b).toNat)
  case atStart => exact ⟨0, 33554432, rfl, rfl, ⟨by omega, .inr ⟨25, by decide, by decide, by omega⟩⟩, rfl⟩
  case round =>
    obtain ⟨lo, st, rfl, rfl, hinv, rfl⟩ := hrel
    have bl := hinv.lo_bd hX
    have bs := hinv.st_bd
    rcases hinv.2 with ⟨rfl, hu⟩ | ⟨k, hk, hst, hu⟩
    · have sq : wrap64 ((lo : Int) * lo) = ((lo * lo : Nat) : Int) := (IntWalk.wrap64_in _ (by rw [← Int.natCast_mul]; have := hinv.1; omega)).trans (by rw [Int.natCast_mul])
      obtain ⟨q, Q⟩ : ∃ q, Hid (lo * lo = q) := ⟨_, Lib.hid rfl⟩
      rw [Q.out] at sq
      have hq := hinv.1
      rw [Q.out] at hq
      have lo1 : wrap64 ((lo : Int) + 1) = (lo : Int) + 1 := IntWalk.wrap64_in _ ⟨by omega, by omega⟩
      by_cases hlt : q < X
      · have dl : decide ((q : Int) < (X : Int)) = true := by simpa using hlt
        have FIN : ∀ e, (e = .returned (.tuple #[.int .i64 (lowZ add s lo (lo + 1)), .int .i64 (highZ add s lo (lo + 1))])) → ((∃ r h : Nat, r * r ≤ X ∧ X ≤ h * h ∧ (r < 400000 ∧ h ≤ 400000) ∧ e = Ending.returned (.tuple #[.int .i64 (lowZ add s r h), .int .i64 (highZ add s r h)])) ∧ Ext wr wr) :=
          fun e he => ⟨⟨lo, lo + 1, by rw [Q.out]; exact hq, by omega, ⟨bl, by omega⟩, he⟩, Below.refl _ _⟩
        have FH := Lib.hid FIN
        clear FIN hu hinv
        rcases hs with rfl | rfl | rfl
        · have r1 : wrap64 (add * 1024 + (lo : Int)) = add * 1024 + lo := IntWalk.wrap64_in _ ⟨by omega, by omega⟩
          have r2 : wrap64 (add * 1024 + ((lo : Int) + 1)) = add * 1024 + (lo + 1) := IntWalk.wrap64_in _ ⟨by omega, by omega⟩
          go_wp2
          go_ret2
          exact FH.out _ rfl
        · go_wp2
          go_ret2
          exact FH.out _ rfl
        · have r1 : wrap64 (add * 1024 - ((lo : Int) + 1)) = add * 1024 - (lo + 1) := IntWalk.wrap64_in _ ⟨by omega, by omega⟩
          have r2 : wrap64 (add * 1024 - (lo : Int)) = add * 1024 - lo := IntWalk.wrap64_in _ ⟨by omega, by omega⟩
          go_wp2
          go_ret2
          exact FH.out _ rfl
      · have dl : decide ((q : Int) < (X : Int)) = false := by rw [decide_eq_false_iff_not]; omega
        have FIN : ∀ e, (e = .returned (.tuple #[.int .i64 (lowZ add s lo lo), .int .i64 (highZ add s lo lo)])) → ((∃ r h : Nat, r * r ≤ X ∧ X ≤ h * h ∧ (r < 400000 ∧ h ≤ 400000) ∧ e = Ending.returned (.tuple #[.int .i64 (lowZ add s r h), .int .i64 (highZ add s r h)])) ∧ Ext wr wr) :=
          fun e he => ⟨⟨lo, lo, by rw [Q.out]; exact hq, by rw [Q.out]; omega, ⟨bl, by omega⟩, he⟩, Below.refl _ _⟩
        have FH := Lib.hid FIN
        clear FIN hu hinv
        rcases hs with rfl | rfl | rfl
        · have r1 : wrap64 (add * 1024 + (lo : Int)) = add * 1024 + lo := IntWalk.wrap64_in _ ⟨by omega, by omega⟩
          go_wp2
          go_ret2
          exact FH.out _ rfl
        · go_wp2
          go_ret2
          exact FH.out _ rfl
        · have r1 : wrap64 (add * 1024 - (lo : Int)) = add * 1024 - lo := IntWalk.wrap64_in _ ⟨by omega, by omega⟩
          go_wp2
          go_ret2
          exact FH.out _ rfl
    · have hst0 : 0 < st := by rw [hst]; exact Nat.pow_pos (by decide)
      have dp : decide (0 < (st : Int)) = true := decide_eq_true (Int.natCast_pos.2 hst0)
      obtain ⟨hls, sq2⟩ := bd_facts bl bs
      obtain ⟨t, T⟩ : ∃ t, Hid (lo + st = t) := ⟨_, Lib.hid rfl⟩
      have LST : Hid ((lo : Int) + st = (t : Int)) := Lib.hid (by rw [← T.out, Int.natCast_add])
      rw [T.out] at sq2
      obtain ⟨q, Q⟩ : ∃ q, Hid (t * t = q) := ⟨_, Lib.hid rfl⟩
      rw [Q.out] at sq2
      obtain ⟨s2, S2⟩ : ∃ q, Hid (st / 2 = q) := ⟨_, Lib.hid rfl⟩
      have TD : Hid ((st : Int) / 2 = (s2 : Int)) := Lib.hid (by rw [← S2.out]; exact (Int.natCast_ediv st 2).symm)
      have HST := Lib.hid hst
      have MS : Hid (s2 < st) := Lib.hid (by rw [← S2.out]; exact Nat.div_lt_self hst0 (by decide))
      have HSA := Lib.hid hsa
      clear hst hsa hn hs ha
      by_cases hle : q ≤ X
      · have dl : decide (wrap64 (((lo : Int) + st) * ((lo : Int) + st)) ≤ (X : Int)) = true := by rw [sq2]; exact decide_eq_true (Int.ofNat_le.2 hle)
        have NX : Hid (BInv X t s2) := Lib.hid (by
          rw [← S2.out]
          refine BInv.half (by rw [Q.out]; exact hle) k hk HST.out ?_
          rw [← T.out, Nat.add_assoc, ← Nat.two_mul]
          exact hu)
        clear hu hinv sq2
        go_wp2_with fail
        rw [TD.out]
        exact ⟨⟨t, s2, by rw [LST.out], rfl, NX.out, trivial⟩, by simp only [intOf, Int.toNat_natCast]; exact MS.out⟩
      · have dl : decide (wrap64 (((lo : Int) + st) * ((lo : Int) + st)) ≤ (X : Int)) = false := by rw [sq2]; exact decide_eq_false (fun h => hle (Int.ofNat_le.1 h))
        have NX : Hid (BInv X lo s2) := Lib.hid (by
          rw [← S2.out]
          refine BInv.half hinv.1 k hk HST.out ?_
          rw [T.out, Q.out]
          exact Nat.lt_of_not_le hle)
        clear hu hinv sq2
        go_wp2_with fail
        rw [TD.out]
        exact ⟨⟨lo, s2, rfl, rfl, NX.out, trivial⟩, by simp only [intOf, Int.toNat_natCast]; exact MS.out⟩
end Go.Proofs.YtghgggaimijcaaaDoor

namespace Go.Proofs.YtghgggaimijcaaaDoor
open Go.RowKit
attribute [local go_sem] Gives givesU

theorem abs_modB (z : Int) {k : Int} (h : 0 < k) (hk : k ≤ 9223372036854775807) : ∃ M : Nat, (M : Int) < k ∧ max (z.tmod k) (-(z.tmod k)) = (M : Int) ∧ IntKind.i64.wrap (-(z.tmod k)) = -(z.tmod k) := by
  have h1 := Int.tmod_lt_of_pos z h
  have h2 := Int.tmod_lt_of_pos (-z) h
  rw [Int.neg_tmod] at h2
  refine ⟨(max (z.tmod k) (-(z.tmod k))).toNat, by omega, by omega, wrapI (by omega) (by omega)⟩
/-- Both rows of bounds, of which k are reckoned. -/
def BRow (W : World) (g h : Nat) (T : TypeId) (k : Nat) (a s : Nat → Int) (n : Nat → Nat) (al ah : Array Value) : Prop :=
  W.heap[g]? = some (.cells al T) ∧ W.heap[h]? = some (.cells ah T) ∧ al.size = 2 ∧ ah.size = 2 ∧ ((∀ v ∈ al.toList, ∀ z, v ≠ .int .u32 z) ∧ ∀ v ∈ ah.toList, ∀ z, v ≠ .int .u32 z) ∧
  ∀ j, j < k → ∃ r t : Nat, r * r ≤ n j * 1048576 ∧ n j * 1048576 ≤ t * t ∧ al[j]? = some (.int .i64 (lowZ (a j) (s j) r t)) ∧ ah[j]? = some (.int .i64 (highZ (a j) (s j) r t))
theorem BRow.ext {W W' : World} {g h : Nat} {T : TypeId} {k : Nat} {a s : Nat → Int} {n : Nat → Nat} {al ah : Array Value} (b : BRow W g h T k a s n al ah) (hx : Ext W W') : BRow W' g h T k a s n al ah :=
  ⟨heap_ext b.1 hx, heap_ext b.2.1 hx, b.2.2⟩
theorem BRow.only {W W' : World} {g h i : Nat} {T : TypeId} {k : Nat} {a s : Nat → Int} {n : Nat → Nat} {al ah : Array Value} (b : BRow W g h T k a s n al ah) (ho : OnlyB i W W') (hg : g ≠ i) (hh : h ≠ i) : BRow W' g h T k a s n al ah :=
  ⟨(ho.block g hg).trans b.1, (ho.block h hh).trans b.2.1, b.2.2⟩
theorem RLs.only {W W' : World} {g i : Nat} {T : TypeId} {N k : Nat} {f : Nat → Rt} {cs : Array Value} {ts : Array Value} {U : TypeId} (h : RLs W g T N k f cs) (ho : OnlyB i W W') (hg : g ≠ i) (hi : W.heap[i]? = some (.cells ts U)) (h0 : ∀ v ∈ ts.toList, ∀ z, v ≠ .int .u32 z) : RLs W' g T N k f cs := by
  obtain ⟨h1, h2, h3, h4⟩ := h
  refine ⟨(ho.block g hg).trans h1, h2, h3, fun j hj => ?_⟩
  obtain ⟨n, p, l, c, m, q, i, d, hc, k1, k2⟩ := h4 j hj
  exact ⟨n, p, l, c, m, q, i, d, hc, k1.keepA hi ho h0, k2.keepA hi ho h0⟩
def bq (q : List Int) (j o : Nat) : Int := q[j * 3 + o]?.getD 0
def bA (q : List Int) (j : Nat) : Int := (bq q j 0).tmod 1000
def bS (q : List Int) (j : Nat) : Int := (bq q j 1).tmod 2
def bN (q : List Int) (j : Nat) : Nat := (max ((bq q j 2).tmod 100000) (-((bq q j 2).tmod 100000))).toNat
def bR (q : List Int) (j : Nat) : Rt := rootOf (bA q j) (bS q j) (bN q j) 1
theorem BRow.put {W W1 W2 : World} {g h : Nat} {T : TypeId} {k : Nat} {a s : Nat → Int} {n : Nat → Nat} {al ah : Array Value} (b : BRow W g h T k a s n al ah) (hk : k < 2) (hne : g ≠ h) {x y : Value} (r t : Nat) (h1 : r * r ≤ n k * 1048576) (h2 : n k * 1048576 ≤ t * t)
    (hx : x = .int .i64 (lowZ (a k) (s k) r t)) (hy : y = .int .i64 (highZ (a k) (s k) r t)) (e1 : W1 = W.setCell ⟨g, k, none⟩ x) (e2 : W2 = W1.setCell ⟨h, k, none⟩ y) :
    BRow W2 g h T (k + 1) a s n (al.setIfInBounds k x) (ah.setIfInBounds k y) ∧ OnlyB g W W1 ∧ OnlyB h W1 W2 := by
  obtain ⟨b1, b2, b3, b4, ⟨b6, b7⟩, b5⟩ := b
  obtain ⟨o1, c1⟩ := store1c (j := k) (v := x) b1
  rw [← e1] at o1 c1
  obtain ⟨o2, c2⟩ := store1c (j := k) (v := y) ((o1.block h (fun e => hne e.symm)).trans b2)
  rw [← e2] at o2 c2
  have mem : ∀ (l : Array Value) (v : Value) (h0 : ∀ u ∈ l.toList, ∀ z, u ≠ .int .u32 z) (h1 : ∀ z, v ≠ .int .u32 z), ∀ u ∈ (l.setIfInBounds k v).toList, ∀ z, u ≠ .int .u32 z := by
    intro l v h0 h1 u hu z
    rw [Array.toList_setIfInBounds] at hu
    rcases List.mem_or_eq_of_mem_set hu with hu | rfl
    · exact h0 u hu z
    · exact h1 z
  refine ⟨⟨(o2.block g hne).trans c1, c2, by simpa using b3, by simpa using b4, ⟨mem _ _ b6 (by rw [hx]; intro z e; cases e), mem _ _ b7 (by rw [hy]; intro z e; cases e)⟩, fun j hj => ?_⟩, o1, o2⟩
  rcases Nat.lt_or_ge j k with hjk | hjk
  · obtain ⟨r', t', k1, k2, k3, k4⟩ := b5 j hjk
    exact ⟨r', t', k1, k2, by rw [Array.getElem?_setIfInBounds_ne (by omega)]; exact k3, by rw [Array.getElem?_setIfInBounds_ne (by omega)]; exact k4⟩
  · obtain rfl : j = k := by omega
    refine ⟨r, t, h1, h2, ?_, ?_⟩
    · rw [Array.getElem?_setIfInBounds_self_of_lt (by omega), hx]
    · rw [Array.getElem?_setIfInBounds_self_of_lt (by omega), hy]
set_option maxRecDepth 100000 in
set_option maxHeartbeats 16000000 in
theorem Bounds_core (x0 x1 x2 x3 x4 x5 : Int) (w : World) (ht : Tab w) : Calls Tryd.prog 4 #[.agg #[.int .i64 x0, .int .i64 x1, .int .i64 x2, .int .i64 x3, .int .i64 x4, .int .i64 x5]] w fun e w' => e = .returned (.bool true) ∧ Ext w w' := by
  have TB := Lib.hid ht
  clear ht
  go_enter Tryd.func4, Tryd.ntmps4
  go_wp2_with fail
  refine (law_sanity2 _ (TB.out.ext bxx)).mono ?_
  rintro e w1 ⟨rfl, hx⟩
  have ex1 : Ext w w1 := Ext.step bxx hx
  have hq := heap_ext (heap_new (W := w) rfl) hx
  clear hx
  have hs1 := ex1.size
  go_upto_region 4 with (fail)
  refine wp_know (fun W => Ext w W ∧ IRow W w.heap.size [x0, x1, x2, x3, x4, x5] ∧ (∃ cs, RLs W w1.heap.size 37 2 0 (bR [x0, x1, x2, x3, x4, x5]) cs) ∧ ∃ al ah, BRow W (w1.heap.size + 1) (w1.heap.size + 2) 38 0 (bA [x0, x1, x2, x3, x4, x5]) (bS [x0, x1, x2, x3, x4, x5]) (bN [x0, x1, x2, x3, x4, x5]) al ah) ⟨bxx, IRow.heap (heap_old (heap_old (heap_old hq))) rfl, ⟨_, RLs.zero (heap_old (heap_old (heap_new rfl))) rfl (by intro v hv z e; subst e; simp at hv)⟩, ⟨_, _, heap_old (heap_new (by simp)), heap_new (by simp), rfl, rfl, ⟨by intro v hv z e; subst e; simp at hv, by intro v hv z e; subst e; simp at hv⟩, fun j hj => absurd hj (Nat.not_lt_zero j)⟩⟩ ?_
  have hg : w.heap.size < w1.heap.size := (Array.getElem?_eq_some_iff.1 hq).1
  obtain ⟨g, G⟩ : ∃ g, Hid (w1.heap.size = g) := ⟨_, Lib.hid rfl⟩
  rw [G.out] at hg ⊢
  clear hq ex1 hs1
  rintro W0 ⟨ex, iq, ⟨cs, rl⟩, al, ah, br⟩
  go_wp2_with fail
  go_loopw [7] (fun i wr => ∃ (k : Nat) (cs al ah : Array Value), k ≤ 2 ∧ i = .int .i64 (k : Int) ∧ Ext w wr ∧ IRow wr w.heap.size [x0, x1, x2, x3, x4, x5] ∧ RLs wr g 37 2 k (bR [x0, x1, x2, x3, x4, x5]) cs ∧ BRow wr (g + 1) (g + 2) 38 k (bA [x0, x1, x2, x3, x4, x5]) (bS [x0, x1, x2, x3, x4, x5]) (bN [x0, x1, x2, x3, x4, x5]) al ah) (fun i _ => 2 - (intOf i).toNat)
  case atStart => exact ⟨0, cs, al, ah, by omega, rfl, ex, iq, rl, br⟩
  case round =>
    clear ex iq rl br cs al ah
    obtain ⟨k, cs, al, ah, hk, rfl, ex, iq, rl, br⟩ := hrel
    by_cases hlt : k < 2
    · have hk3 : (k : Int) < 2 := by omega
      have hk0 : ¬ (k : Int) < 0 := by omega
      have hgl := rl.lt
      have hql := iq.1
      obtain ⟨z0, hz0⟩ : ∃ z, [x0, x1, x2, x3, x4, x5][k * 3]? = some z := ⟨_, List.getElem?_eq_getElem (by simp; omega)⟩
      obtain ⟨z1, hz1⟩ : ∃ z, [x0, x1, x2, x3, x4, x5][k * 3 + 1]? = some z := ⟨_, List.getElem?_eq_getElem (by simp; omega)⟩
      obtain ⟨z2, hz2⟩ : ∃ z, [x0, x1, x2, x3, x4, x5][k * 3 + 2]? = some z := ⟨_, List.getElem?_eq_getElem (by simp; omega)⟩
      have q0 := iq.2 _ _ hz0
      have q1 := iq.2 _ _ hz1
      have q2 := iq.2 _ _ hz2
      obtain ⟨A, HA⟩ : ∃ z, Hid (z0.tmod 1000 = z) := ⟨_, Lib.hid rfl⟩
      obtain ⟨s, HS⟩ : ∃ z, Hid (z1.tmod 2 = z) := ⟨_, Lib.hid rfl⟩
      obtain ⟨zm, HZ⟩ : ∃ z, Hid (z2.tmod 100000 = z) := ⟨_, Lib.hid rfl⟩
      obtain ⟨N, ltN, hN1, hN2⟩ := abs_modB z2 (k := 100000) (by decide) (by decide)
      have EA : Hid (bA [x0, x1, x2, x3, x4, x5] k = A) := Lib.hid (by unfold bA bq; rw [Nat.add_zero, hz0]; exact HA.out)
      have ES : Hid (bS [x0, x1, x2, x3, x4, x5] k = s) := Lib.hid (by unfold bS bq; rw [hz1]; exact HS.out)
      have EN : Hid (bN [x0, x1, x2, x3, x4, x5] k = N) := Lib.hid (by unfold bN bq; rw [hz2]; show (max (z2.tmod 100000) (-(z2.tmod 100000))).toNat = N; rw [hN1]; rfl)
      have ER : Hid (bR [x0, x1, x2, x3, x4, x5] k = rootOf A s N 1) := Lib.hid (by unfold bR; rw [EA.out, ES.out, EN.out])
      have cA : -1000 < A ∧ A < 1000 := by
        have h1 := Int.tmod_lt_of_pos z0 (show (0 : Int) < 1000 by decide)
        have h2 := Int.tmod_lt_of_pos (-z0) (show (0 : Int) < 1000 by decide)
        rw [Int.neg_tmod] at h2
        rw [HA.out] at h1 h2
        omega
      have cS : s = 1 ∨ s = 0 ∨ s = -1 := by
        have h1 := Int.tmod_lt_of_pos z1 (show (0 : Int) < 2 by decide)
        have h2 := Int.tmod_lt_of_pos (-z1) (show (0 : Int) < 2 by decide)
        rw [Int.neg_tmod] at h2
        rw [HS.out] at h1 h2
        omega
      rw [HZ.out] at hN1 hN2
      have hNb : N < 100000 := by omega
      have hp : (100000 : Nat) < 4294967296 ^ 8 := by decide +kernel
      have PF := ofP_nat (add := A) (s := s) (n := N) (d := 1) (by omega) (by omega) (by omega) (by decide)
      rw [← ER.out, show ((1 : Nat) : Int) = 1 from rfl] at PF
      have SQ := Lib.hid (fun W => l02_square A s (N : Int) (bR [x0, x1, x2, x3, x4, x5] k) true W (by omega) PF)
      have BD := Lib.hid (fun W => l02_bounds A s N W cA cS hNb)
      clear hz0 hz1 hz2 PF hp cA cS ltN hNb
      go_upto_region 9 with (fail)
      rw [HA.out, HS.out]
      have hmax := @run_maxD Tryd.prog
      refine wp_FS (fun W => W.cell? ⟨w.heap.size, k * 3 + 2, none⟩ = some (.int .i64 z2)) ?_
      have tm := HZ.out
      repeat (first | refine F_s ?_ | refine F_r ?_)
      rintro W9 ⟨hx, _⟩
      replace ex := Ext.step ex hx
      replace iq := iq.ext hx
      replace rl := rl.ext hx
      replace br := br.ext hx
      clear hx tm hmax hN1 hN2 q0 q1 q2 hgl hql
      have hgl := rl.lt
      have hql := iq.1
      go_upto_region 10 with (fail)
      obtain ⟨f, F⟩ : ∃ f, Hid (bR [x0, x1, x2, x3, x4, x5] = f) := ⟨_, Lib.hid rfl⟩
      rw [F.out] at rl SQ
      have hne : w.heap.size ≠ g := by omega
      refine wp_region_Gs (fun W => Ext w W ∧ IRow W w.heap.size [x0, x1, x2, x3, x4, x5] ∧ W9.heap.size ≤ W.heap.size ∧ BRow W (g + 1) (g + 2) 38 k (bA [x0, x1, x2, x3, x4, x5]) (bS [x0, x1, x2, x3, x4, x5]) (bN [x0, x1, x2, x3, x4, x5]) al ah) (fun W => RLs W g 37 2 k f cs) ⟨⟨ex, iq, Nat.le_refl _, br⟩, rl⟩ (FMono.and (fun W W' h hb => ⟨Ext.step h.1 hb, h.2.1.ext hb, Nat.le_trans h.2.2.1 hb.size, h.2.2.2.ext hb⟩) RLs.mono) (fun W h => h.2.2.1) ?_
      repeat (first | refine F_s ?_ | refine F_r ?_)
      refine F_root (f k) (by rfl) (by rfl) (by intro W hW; (try dsimp only at hW); go_simp; exact (SQ.out W).mono fun _ _ h => RetRo.isRo h) ?_; intro n1 p1 l1 c1' m1 q1' k1 d1; refine F_put ?_
      repeat (first | refine F_s ?_ | refine F_r ?_)
      refine F_storeRow (fun W => Ext w W ∧ IRow W w.heap.size [x0, x1, x2, x3, x4, x5] ∧ W9.heap.size ≤ W.heap.size ∧ BRow W (g + 1) (g + 2) 38 k (bA [x0, x1, x2, x3, x4, x5]) (bS [x0, x1, x2, x3, x4, x5]) (bN [x0, x1, x2, x3, x4, x5]) al ah) g _ 2 k 37 27 f cs n1 m1 p1 q1' l1 c1' k1 d1 _ _ (by rfl) (by rfl) (by rfl) (by rfl) rfl (by rfl) (by kernel_rfl) hlt (fun W hW => ⟨hW.1.1.1, hW.1.1.2, hW.1.2, hW.2⟩) (fun W W' h ho => ⟨h.1.trans (ho.below (by omega)), h.2.1.only ho hne, by rw [ho.size]; exact h.2.2.1, h.2.2.2.only ho (by omega) (by omega)⟩) (fun W W' h hb => ⟨Ext.step h.1 hb, h.2.1.ext hb, Nat.le_trans h.2.2.1 hb.size, h.2.2.2.ext hb⟩) (fun _ h => h) ?_
      refine F_put ?_
      repeat (first | refine F_s ?_ | refine F_r ?_)
      rintro W10 ⟨⟨⟨ex2, iq2, _, br2⟩, rl2⟩, _⟩
      clear ex iq rl br SQ hgl hql
      rw [← F.out] at rl2
      go_wp2_with fail
      refine (BD.out W10).mono ?_
      rintro e W11 ⟨⟨r, t, h1, h2, hrt, rfl⟩, hx⟩
      replace ex2 := Ext.step ex2 hx
      replace iq2 := iq2.ext hx
      replace rl2 := rl2.ext hx
      replace br2 := br2.ext hx
      obtain ⟨u1, hu1⟩ : ∃ v, al[k]? = some v := ⟨_, Array.getElem?_eq_getElem (by rw [br2.2.2.1]; exact hlt)⟩
      obtain ⟨u2, hu2⟩ : ∃ v, ah[k]? = some v := ⟨_, Array.getElem?_eq_getElem (by rw [br2.2.2.2.1]; exact hlt)⟩
      have y1 : W11.cell? ⟨g + 1, k, none⟩ = some u1 := by rw [cell_of_row _ _ _ _ _ _ br2.1]; exact hu1
      have y2 : W11.cell? ⟨g + 2, k, none⟩ = some u2 := by rw [cell_of_row _ _ _ _ _ _ br2.2.1]; exact hu2
      have f1 : ∀ o, W11.frozen? ⟨g + 1, o, none⟩ = false := fun o => by simp [World.frozen?, br2.1]
      have f2 : ∀ o, W11.frozen? ⟨g + 2, o, none⟩ = false := fun o => by simp [World.frozen?, br2.2.1]
      have sz1 := (Array.getElem?_eq_some_iff.1 br2.1).1
      have sz2 := (Array.getElem?_eq_some_iff.1 br2.2.1).1
      obtain ⟨br3, o1, o2⟩ := br2.put hlt (by omega) r t (by rw [EN.out]; exact h1) (by rw [EN.out]; exact h2) (by rw [EA.out, ES.out]) (by rw [EA.out, ES.out]) rfl rfl
      have BR := Lib.hid br3
      have RL := Lib.hid (RLs.only (RLs.only rl2 o1 (by omega) br2.1 br2.2.2.2.2.1.1) o2 (by omega) ((o1.block (g + 2) (by omega)).trans br2.2.1) br2.2.2.2.2.1.2)
      have IQ := Lib.hid ((iq2.only o1 (by omega)).only o2 (by omega))
      have EXX : Hid (Ext w _) := Lib.hid ((ex2.trans (o1.below (n := w.heap.size) (by omega))).trans (o2.below (n := w.heap.size) (by omega)))
      clear br3 o1 o2 rl2 iq2 br2 hu1 hu2 hx h1 h2
      go_wp2_with fail
      exact ⟨⟨k + 1, _, _, _, by omega, rfl, EXX.out, IQ.out, RL.out, BR.out⟩, by simp [intOf]; omega⟩
    · obtain rfl : k = 2 := by omega
      have fin : ∀ j, j < 2 → ∃ N : Nat, bN [x0, x1, x2, x3, x4, x5] j = N ∧ N < 100000 ∧ -1000 < bA [x0, x1, x2, x3, x4, x5] j ∧ bA [x0, x1, x2, x3, x4, x5] j < 1000 ∧ (bS [x0, x1, x2, x3, x4, x5] j = 1 ∨ bS [x0, x1, x2, x3, x4, x5] j = 0 ∨ bS [x0, x1, x2, x3, x4, x5] j = -1) := by
        intro j _
        obtain ⟨N, b, h, _⟩ := abs_modB (bq [x0, x1, x2, x3, x4, x5] j 2) (k := 100000) (by decide) (by decide)
        refine ⟨N, by unfold bN; rw [h]; rfl, by omega, ?_⟩
        have a1 := Int.tmod_lt_of_pos (bq [x0, x1, x2, x3, x4, x5] j 0) (show (0 : Int) < 1000 by decide)
        have a2 := Int.tmod_lt_of_pos (-(bq [x0, x1, x2, x3, x4, x5] j 0)) (show (0 : Int) < 1000 by decide)
        rw [Int.neg_tmod] at a2
        have s1 := Int.tmod_lt_of_pos (bq [x0, x1, x2, x3, x4, x5] j 1) (show (0 : Int) < 2 by decide)
        have s2 := Int.tmod_lt_of_pos (-(bq [x0, x1, x2, x3, x4, x5] j 1)) (show (0 : Int) < 2 by decide)
        rw [Int.neg_tmod] at s2
        unfold bA bS
        generalize (bq [x0, x1, x2, x3, x4, x5] j 0).tmod 1000 = x at *
        generalize (bq [x0, x1, x2, x3, x4, x5] j 1).tmod 2 = y at *
        omega
      have adds : ∀ s x y z, (rootOf z s x y).add = z := by intro s x y z; unfold rootOf; split <;> rfl
      have hp : (100000 : Nat) < 4294967296 ^ 8 := by decide +kernel
      obtain ⟨N0, e0, b0, c0, d0, s0⟩ := fin 0 (by decide)
      obtain ⟨N1, e1, b1, c1, d1, s1⟩ := fin 1 (by decide)
      obtain ⟨r0, t0, u0, v0, lo0, hi0⟩ := br.2.2.2.2.2 0 (by decide)
      obtain ⟨r1, t1, u1, v1, lo1, hi1⟩ := br.2.2.2.2.2 1 (by decide)
      rw [e0] at u0 v0
      rw [e1] at u1 v1
      obtain ⟨w1', w2', w3'⟩ := root_between (add := bA [x0, x1, x2, x3, x4, x5] 0) s0 u0 v0
      obtain ⟨w4', w5', w6'⟩ := root_between (add := bA [x0, x1, x2, x3, x4, x5] 1) s1 u1 v1
      have G0 : (bR [x0, x1, x2, x3, x4, x5] 0).Gd := by unfold bR; rw [e0]; exact rootOf_gd (by omega) (by omega) (by omega) (by decide)
      have G1 : (bR [x0, x1, x2, x3, x4, x5] 1).Gd := by unfold bR; rw [e1]; exact rootOf_gd (by omega) (by omega) (by omega) (by decide)
      have R0 : bR [x0, x1, x2, x3, x4, x5] 0 = rootOf (bA [x0, x1, x2, x3, x4, x5] 0) (bS [x0, x1, x2, x3, x4, x5] 0) N0 1 := by unfold bR; rw [e0]
      have R1 : bR [x0, x1, x2, x3, x4, x5] 1 = rootOf (bA [x0, x1, x2, x3, x4, x5] 1) (bS [x0, x1, x2, x3, x4, x5] 1) N1 1 := by unfold bR; rw [e1]
      rw [← R0] at w1' w2' w3'
      rw [← R1] at w4' w5' w6'
      have hsg := cmpRt_sg G0.1 G1.1
      rw [← cmpRt_gd G0 G1] at hsg
      obtain ⟨T1, T2⟩ := bounds_tell w1' w4' hsg w2' w3' w5' w6'
      have IA : Hid (-9223372036854775808 ≤ (bR [x0, x1, x2, x3, x4, x5] 0).add ∧ (bR [x0, x1, x2, x3, x4, x5] 0).add ≤ 9223372036854775807) := Lib.hid (by rw [R0, adds]; omega)
      have IB : Hid (-9223372036854775808 ≤ (bR [x0, x1, x2, x3, x4, x5] 1).add ∧ (bR [x0, x1, x2, x3, x4, x5] 1).add ≤ 9223372036854775807) := Lib.hid (by rw [R1, adds]; omega)
      have bc := sg_bd hsg
      obtain ⟨c, C⟩ : ∃ c, Hid (cmpRt (bR [x0, x1, x2, x3, x4, x5] 0) (bR [x0, x1, x2, x3, x4, x5] 1) = c) := ⟨_, Lib.hid rfl⟩
      rw [C.out] at T1 T2 bc
      obtain ⟨l0, L0⟩ : ∃ z, Hid (lowZ (bA [x0, x1, x2, x3, x4, x5] 0) (bS [x0, x1, x2, x3, x4, x5] 0) r0 t0 = z) := ⟨_, Lib.hid rfl⟩
      obtain ⟨h0, H0⟩ : ∃ z, Hid (highZ (bA [x0, x1, x2, x3, x4, x5] 0) (bS [x0, x1, x2, x3, x4, x5] 0) r0 t0 = z) := ⟨_, Lib.hid rfl⟩
      obtain ⟨l1, L1⟩ : ∃ z, Hid (lowZ (bA [x0, x1, x2, x3, x4, x5] 1) (bS [x0, x1, x2, x3, x4, x5] 1) r1 t1 = z) := ⟨_, Lib.hid rfl⟩
      obtain ⟨h1, H1⟩ : ∃ z, Hid (highZ (bA [x0, x1, x2, x3, x4, x5] 1) (bS [x0, x1, x2, x3, x4, x5] 1) r1 t1 = z) := ⟨_, Lib.hid rfl⟩
      rw [L0.out] at lo0 T2
      rw [H0.out] at hi0 T1
      rw [L1.out] at lo1 T1
      rw [H1.out] at hi1 T2
      have y1 : wr.cell? ⟨g + 1, 0, none⟩ = some (.int .i64 l0) := by rw [cell_of_row _ _ _ _ _ _ br.1]; exact lo0
      have y2 : wr.cell? ⟨g + 1, 1, none⟩ = some (.int .i64 l1) := by rw [cell_of_row _ _ _ _ _ _ br.1]; exact lo1
      have y3 : wr.cell? ⟨g + 2, 0, none⟩ = some (.int .i64 h0) := by rw [cell_of_row _ _ _ _ _ _ br.2.1]; exact hi0
      have y4 : wr.cell? ⟨g + 2, 1, none⟩ = some (.int .i64 h1) := by rw [cell_of_row _ _ _ _ _ _ br.2.1]; exact hi1
      have sz1 := (Array.getElem?_eq_some_iff.1 br.1).1
      have sz2 := (Array.getElem?_eq_some_iff.1 br.2.1).1
      obtain ⟨nA, pA, lA, cA, mA, qA, kA, dA, rA⟩ := rl.at 0 (by decide)
      obtain ⟨nB, pB, lB, cB, mB, qB, kB, dB, rB⟩ := rl.at 1 (by decide)
      obtain ⟨A, HA⟩ : ∃ A, Hid (bR [x0, x1, x2, x3, x4, x5] 0 = A) := ⟨_, Lib.hid rfl⟩
      obtain ⟨B, HB⟩ : ∃ A, Hid (bR [x0, x1, x2, x3, x4, x5] 1 = A) := ⟨_, Lib.hid rfl⟩
      replace rA : RAt wr g 0 A nA pA lA cA mA qA kA dA := by rw [← HA.out]; exact rA
      replace rB : RAt wr g 6 B nB pB lB cB mB qB kB dB := by rw [← HB.out]; exact rB
      rw [HA.out] at IA C
      rw [HB.out] at IB C
      have TT1 := Lib.hid T1
      have TT2 := Lib.hid T2
      have BC := Lib.hid bc
      clear fin adds hp e0 b0 c0 d0 s0 e1 b1 c1 d1 s1 u0 v0 u1 v1 lo0 hi0 lo1 hi1 w1' w2' w3' w4' w5' w6' G0 G1 R0 R1 hsg T1 T2 bc br rl iq hk hlt
      obtain ⟨⟨a0, a1, a2, a3, a4, a5⟩, _, an, ad⟩ := rA
      obtain ⟨⟨b0, b1, b2, b3, b4, b5⟩, _, bn, bd⟩ := rB
      have HAn := Lib.hid an
      have HAd := Lib.hid ad
      have HBn := Lib.hid bn
      have HBd := Lib.hid bd
      clear an ad bn bd
      go_upto_region 12 with (fail)
      refine wp_FS (fun W => W.cell? ⟨g, 0, none⟩ = some (.int .i64 A.add) ∧ W.cell? ⟨g, 1, none⟩ = some (.int .i64 A.s) ∧ W.cell? ⟨g, 2, none⟩ = some (.bool nA) ∧ W.cell? ⟨g, 3, none⟩ = some (.slice pA lA cA) ∧ W.cell? ⟨g, 4, none⟩ = some (.bool mA) ∧ W.cell? ⟨g, 5, none⟩ = some (.slice qA kA dA) ∧ W.cell? ⟨g, 6, none⟩ = some (.int .i64 B.add) ∧ W.cell? ⟨g, 7, none⟩ = some (.int .i64 B.s) ∧ W.cell? ⟨g, 8, none⟩ = some (.bool nB) ∧ W.cell? ⟨g, 9, none⟩ = some (.slice pB lB cB) ∧ W.cell? ⟨g, 10, none⟩ = some (.bool mB) ∧ W.cell? ⟨g, 11, none⟩ = some (.slice qB kB dB)) ?_
      repeat (first | refine F_s ?_ | refine F_r ?_)
      (refine F_call (v := .int .i64 c) (by rfl) (by rfl) ?_ ?_; (· (intro W hW; (try dsimp only at hW); go_simp; refine (root_CmpE A.add A.s B.add B.s A.n A.d B.n B.d c _ _ _ _ _ _ _ _ _ _ _ _ _ _ _ _ W (HAn.out.ext hW.1) (HAd.out.ext hW.1) (HBn.out.ext hW.1) (HBd.out.ext hW.1) IA.out IB.out C.out).mono ?_; rintro e w' ⟨rfl, hx⟩; exact ⟨_, rfl, rfl, hx⟩))); refine F_put ?_
      repeat (first | refine F_s ?_ | refine F_r ?_)
      rintro W12 ⟨hx, _⟩
      replace ex := Ext.step ex hx
      replace y1 := (hx.cell (p := ⟨g + 1, 0, none⟩) sz1).trans y1
      replace y2 := (hx.cell (p := ⟨g + 1, 1, none⟩) sz1).trans y2
      replace y3 := (hx.cell (p := ⟨g + 2, 0, none⟩) sz2).trans y3
      replace y4 := (hx.cell (p := ⟨g + 2, 1, none⟩) sz2).trans y4
      have zs1 : g + 1 < W12.heap.size := Nat.lt_of_lt_of_le sz1 hx.size
      have zs2 : g + 2 < W12.heap.size := Nat.lt_of_lt_of_le sz2 hx.size
      clear hx a0 a1 a2 a3 a4 a5 b0 b1 b2 b3 b4 b5 HAn HAd HBn HBd C
      rcases BC.out with e | e | e
      · have g1 : decide (l1 ≤ h0) = true := by rw [decide_eq_true_eq]; rcases TT1.out (by omega) with h | h; exact h; exact h.elim
        subst e
        go_wp2
        go_ret
        exact ⟨rfl, ex⟩
      · have g1 : decide (l1 ≤ h0) = true := by rw [decide_eq_true_eq]; rcases TT1.out (by omega) with h | h; exact h; exact h.elim
        have g2 : decide (l0 ≤ h1) = true := by rw [decide_eq_true_eq]; exact TT2.out (by omega)
        subst e
        go_wp2
        go_ret
        exact ⟨rfl, ex⟩
      · have g2 : decide (l0 ≤ h1) = true := by rw [decide_eq_true_eq]; exact TT2.out (by omega)
        subst e
        go_wp2
        go_ret
        exact ⟨rfl, ex⟩
end Go.Proofs.YtghgggaimijcaaaDoor
