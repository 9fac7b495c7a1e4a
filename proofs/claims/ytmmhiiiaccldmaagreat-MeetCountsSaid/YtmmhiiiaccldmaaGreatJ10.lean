/- Contracts: meet.signs (the iterator), meet.count. | A slice of sums (a + b √c) that a function makes and lengthens. | Contracts: points and vectors (vec, etchantref05). -/
import Derived.Test.YtmmhiiiaccldmaaGreatJ09
import Derived.Test.YtmmhiiiaccldmaaGreatJ03
import Derived.Shelf.Abstract
import Derived.Shelf.RegionOpen
import Derived.Deep.AppendLies
set_option linter.unusedVariables false
set_option linter.unusedSimpArgs false

namespace Go.Proofs.YtmmhiiiaccldmaaGreat
open Go.RowKit Go.Shelf
attribute [local go_sem] Oper.semAt_some
attribute [local go_sem] Gives givesU

/-- A sign. -/
abbrev Sgn := { x : Int // -1 ≤ x ∧ x ≤ 1 }
def sP : Sgn := ⟨1, by omega⟩
def sM : Sgn := ⟨-1, by omega⟩
/-- The signs that are yielded. -/
def signL (neg : Bool) (l : Nat) : List Sgn := if neg then [] else if l = 0 then [sP] else [sP, sM]

/-- A block's cells stay. -/
def KB (B : Nat) (W W' : World) : Prop := ∀ o, W'.cell? ⟨B, o, none⟩ = W.cell? ⟨B, o, none⟩

set_option maxRecDepth 100000 in
set_option maxHeartbeats 2000000 in
theorem signs_stops (n : Nat) (hn : 1 ≤ n) (Bc l cp : Nat) (neg : Bool) (p : Option Addr) (w : World) (hB : Bc < w.heap.size) (c0 : w.cell? ⟨Bc, 0, none⟩ = some (.bool neg)) (c1 : w.cell? ⟨Bc, 1, none⟩ = some (.slice p l cp)) (hl : l ≤ 9223372036854775807) :
    SeqStopsK Fence.wide n Tryz.prog 82 #[.pointer (some ⟨Bc, 0, none⟩)] (fun x : Sgn => #[.int .i64 x.1]) (KB Bc) (fun xs => xs = signL neg l) (fun pre => pre = [sP] ∨ pre = [sP, sM]) (if neg then 0 else 2) w := fun L J Jx W hW _ _ hY h0 => by
  have k0 : W.cell? ⟨Bc, 0, none⟩ = some (.bool neg) := (hW.cell (p := ⟨Bc, 0, none⟩) hB).trans c0
  have k1 : W.cell? ⟨Bc, 1, none⟩ = some (.slice p l cp) := (hW.cell (p := ⟨Bc, 1, none⟩) hB).trans c1
  clear c0 c1
  refine callsIn_of_wp Tryz.func82 rfl trivial ?_ rfl
  simp only [Tryz.ntmps82, List.size_toArray, List.length_cons, List.length_nil, Nat.reduceAdd, Nat.reduceSub, Array.replicate_succ, Array.replicate_zero, List.push_toArray, List.append_toArray, List.nil_append, List.cons_append]
  cases neg with
  | true =>
    gi_wp2
    refine ⟨fun _ h => (by cases h), ?_⟩
    gi_wp2
    refine bodyPost_ret (results_none rfl _ _ _) rfl ?_
    exact ⟨⟨_, rfl⟩, .inl ⟨[], rfl, h0⟩⟩
  | false =>
    obtain ⟨f1, t1, a1, b1, hy1, hR1⟩ := hY [] sP W h0 (by simp)
    dsimp only [sP] at hy1
    gi_wp2
    refine hR1.mono ?_
    rintro e W1 (⟨rfl, hJ1, hk⟩ | ⟨rfl, hx1⟩)
    · have m1 : W1.cell? ⟨Bc, 1, none⟩ = some (.slice p l cp) := (hk 1).trans k1
      have hJ1' := Lib.hid hJ1
      by_cases hl0 : l = 0
      · have lb : ((l : Int) == 0) = true := by simp [hl0]
        have S1 : Hid ([sP] = signL false l) := by show [sP] = _; simp [signL, hl0]
        clear hl0
        gi_wp2
        refine bodyPost_ret (results_none rfl _ _ _) rfl ?_
        exact ⟨⟨_, rfl⟩, .inl ⟨[sP], S1.out, hJ1'.out⟩⟩
      · have lb : ((l : Int) == 0) = false := by simp [hl0]
        have S1 : Hid ([sP, sM] = signL false l) := by show [sP, sM] = _; simp [signL, hl0]
        clear hl0
        obtain ⟨f2, t2, a2, b2, hy2, hR2⟩ := hY [sP] sM W1 hJ1 (by simp)
        dsimp only [sM] at hy2
        gi_wp2
        refine hR2.mono ?_
        rintro e W2 (⟨rfl, hJ2, hk2⟩ | ⟨rfl, hx2⟩)
        · gi_wp2
          go_end0
          exact ⟨⟨_, rfl⟩, .inl ⟨[sP, sM], S1.out, hJ2⟩⟩
        · gi_wp2
          go_end0
          exact ⟨⟨_, rfl⟩, .inr ⟨[sP, sM], .inr rfl, hx2⟩⟩
    · gi_wp2
      refine bodyPost_ret (results_none rfl _ _ _) rfl ?_
      exact ⟨⟨_, rfl⟩, .inr ⟨[sP], .inl rfl, hx1⟩⟩

set_option maxRecDepth 100000 in
set_option maxHeartbeats 2000000 in
theorem meet_signs (n : Bool) (p : Option Addr) (l c : Nat) (w : World) :
    Calls Tryz.prog 63 #[.agg #[.bool n, .slice p l c]] w fun e w' => e = .returned (.func (.func 82) #[] #[.pointer (some ⟨w.heap.size, 0, none⟩)]) ∧ Ext w w' ∧ w'.cell? ⟨w.heap.size, 0, none⟩ = some (.bool n) ∧ w'.cell? ⟨w.heap.size, 1, none⟩ = some (.slice p l c) ∧ w.heap.size < w'.heap.size := by
  go_enter Tryz.func63, Tryz.ntmps63
  go_wp2
  go_ret
  exact ⟨rfl, bxx, by go_simp, by go_simp, by simp⟩

/-- Sums and signs in memory: the elements of a slice. -/
def SR (w : World) (g c : Nat) (l : List (Int × Int)) : Prop :=
  l.length ≤ c ∧ c ≤ 9223372036854775807 ∧ g < w.heap.size ∧ ∀ i x y, l[i]? = some (x, y) → ∃ n1 p1 l1 c1 n2 p2 l2 c2, w.cell? ⟨g, i * 4, none⟩ = some (.bool n1) ∧ w.cell? ⟨g, i * 4 + 1, none⟩ = some (.slice p1 l1 c1) ∧ w.cell? ⟨g, i * 4 + 2, none⟩ = some (.bool n2) ∧ w.cell? ⟨g, i * 4 + 3, none⟩ = some (.slice p2 l2 c2) ∧ NR w n1 p1 l1 c1 (ofZ x) ∧ NR w n2 p2 l2 c2 (ofZ y)
theorem SR.ext {w w' : World} {g c : Nat} {l : List (Int × Int)} (h : SR w g c l) (hx : Ext w w') : SR w' g c l := by
  obtain ⟨h1, h2, h3, h4⟩ := h
  refine ⟨h1, h2, Nat.lt_of_lt_of_le h3 hx.size, fun i x y hi => ?_⟩
  obtain ⟨n1, p1, l1, c1, n2, p2, l2, c2, e0, e1, e2, e3, e4, e5⟩ := h4 i x y hi
  have k := fun o => hx.cell (p := ⟨g, o, none⟩) h3
  exact ⟨n1, p1, l1, c1, n2, p2, l2, c2, (k _).trans e0, (k _).trans e1, (k _).trans e2, (k _).trans e3, e4.ext hx, e5.ext hx⟩

/-- Whether all x + s y √d are not negative. -/
def goodS (d s : Int) (l : List (Int × Int)) : Bool := l.all fun p => decide (0 ≤ sideZ p.1 (s * p.2) d)
/-- For how many signs. -/
def countL (d : Int) (l : List (Int × Int)) (ss : List Sgn) : Int := (ss.filter fun s => goodS d s.1 l).length
def countZ (d : Int) (l : List (Int × Int)) : Int := countL d l (signL (decide (d < 0)) (digs d.natAbs).length)
/-- Small enough for Sign. -/
def Gd (x : Int) : Prop := x.natAbs < 4294967296 ^ 20

theorem goodS_take {d s : Int} {l : List (Int × Int)} {k : Nat} {x y : Int} (h : l[k]? = some (x, y)) : goodS d s (l.take (k + 1)) = (goodS d s (l.take k) && decide (0 ≤ sideZ x (s * y) d)) := by
  have hk := (List.getElem?_eq_some_iff.1 h).1
  rw [List.take_succ_eq_append_getElem hk]
  rw [List.getElem?_eq_getElem hk] at h
  simp only [Option.some.injEq] at h
  simp [goodS, h]
theorem countL_snoc (d : Int) (l : List (Int × Int)) (ss : List Sgn) (s : Sgn) : countL d l (ss ++ [s]) = countL d l ss + if goodS d s.1 l then 1 else 0 := by
  unfold countL
  rw [List.filter_append]
  cases h : goodS d s.1 l <;> simp [h]
theorem countL_bd (d : Int) (l : List (Int × Int)) (ss : List Sgn) : 0 ≤ countL d l ss ∧ countL d l ss ≤ ss.length := by
  unfold countL
  have := List.length_filter_le (fun s : Sgn => goodS d s.1 l) ss
  omega
theorem Gd.small {x : Int} (h : Gd x) : small x = true := small_of_lt h (by omega)
theorem Gd.good {x : Int} (h : Gd x) : goodB (ofZ x) = true := by
  unfold goodB
  rw [ofZ_right h.small]
  have := (digs_length_le x.natAbs 20).2 h
  exact decide_eq_true this
theorem Gd.sgn {x : Int} (h : Gd x) (s : Sgn) : Gd (s.1 * x) := by
  obtain ⟨s, h1, h2⟩ := s
  unfold Gd at *
  obtain rfl | rfl | rfl : s = -1 ∨ s = 0 ∨ s = 1 := by omega
  · simpa using h
  · simp
  · simpa using h
theorem signP_ofZ {x y d : Int} (hx : Gd x) (hy : Gd y) (hd : Gd d) (h0 : 0 ≤ d) : signP (ofZ x) (ofZ y) (ofZ d) = sideZ x y d := by
  unfold signP
  rw [hx.good, hy.good, hd.good, ofZ_z, ofZ_z, ofZ_z]
  have : (ofZ d).neg = false := by simp [ofZ]; omega
  simp [this]
theorem KeepsOthers.of_ext {W W' : World} (h : Ext W W') : KeepsOthers W W' := ⟨h.size, fun k o hk _ => (h.block k (Array.getElem?_eq_some_iff.1 hk).1).trans hk⟩

set_option maxRecDepth 100000 in
set_option maxHeartbeats 8000000 in
theorem meet_count (d : Int) (l : List (Int × Int)) (n : Bool) (p : Option Addr) (ln c g cp : Nat) (w : World) (hd : NR w n p ln c (ofZ d)) (hl : SR w g cp l) (hG : Gd d) (hGl : ∀ (i : Nat) (x y : Int), l[i]? = some (x, y) → Gd x ∧ Gd y) (hlen : l.length ≤ 1000) :
    Calls Tryz.prog 45 #[.agg #[.bool n, .slice p ln c], .slice (some ⟨g, 0, none⟩) l.length cp] w fun e w' => e = .returned (.int .i64 (countZ d l)) ∧ Ext w w' := by
  have hln : ln ≤ 9223372036854775807 := by
    have := hd.2.1; have := hd.2.2.le; have := hd.2.2.max; omega
  have hnn : n = decide (d < 0) := hd.1
  have hlz : ln = (digs d.natAbs).length := hd.2.1
  have RES : Hid (countZ d l = countL d l (signL n ln)) := by show countZ d l = _; rw [countZ, hnn, hlz]
  have ND : Hid (n = decide (d < 0)) := hnn
  clear hnn hlz
  have HGL := Lib.hid hGl
  clear hGl
  refine (callsIn_wide (n := 6)).1 ?_
  refine callsIn_of_wp_marks Tryz.func45 rfl trivial ?_ rfl
  simp only [Tryz.ntmps45, List.size_toArray, List.length_cons, List.length_nil, Nat.reduceAdd, Nat.reduceSub, Array.replicate_succ, Array.replicate_zero, List.push_toArray, List.append_toArray, List.nil_append, List.cons_append]
  gi_wp2
  refine ⟨trivial, (callsIn_wide.2 (meet_signs n p ln c _)).mono ?_⟩
  rintro e w1 ⟨rfl, hx, b0, b1, hb⟩
  have hx0 : Ext w w1 := Ext.step bxx hx
  have hs0 := hx.size
  simp at hs0 b0 b1 hb
  have e0 : w1.cell? ⟨w.heap.size, 0, none⟩ = some (.bool n) := (hx.cell (p := ⟨w.heap.size, 0, none⟩) (by simp; omega)).trans (by go_simp)
  have e1 : w1.cell? ⟨w.heap.size, 1, none⟩ = some (.slice p ln c) := (hx.cell (p := ⟨w.heap.size, 1, none⟩) (by simp; omega)).trans (by go_simp)
  have e2 : w1.cell? ⟨w.heap.size + 1, 0, none⟩ = some (.slice (some ⟨g, 0, none⟩) l.length cp) := (hx.cell (p := ⟨w.heap.size + 1, 0, none⟩) (by simp)).trans (by go_simp)
  have e3 : w1.cell? ⟨w.heap.size + 1 + 1, 0, none⟩ = some (.int .i64 0) := (hx.cell (p := ⟨w.heap.size + 1 + 1, 0, none⟩) (by simp)).trans (by go_simp)
  have e4 : w1.frozen? ⟨w.heap.size + 1 + 1, 0, none⟩ = false := (hx.frozen (p := ⟨w.heap.size + 1 + 1, 0, none⟩) (by simp)).trans (by go_simp)
  clear hx
  gi_wp2
  refine wpIn_rangeFunc_ownF rfl (by omega) (gf := 82) (lb := #[.pointer (some ⟨w.heap.size + 1 + 1 + 1, 0, none⟩)]) rfl trivial (enters_of Tryz.func82 (by kernel_rfl) rfl)
    (signs_stops 5 (by omega) (w.heap.size + 1 + 1 + 1) ln c n p w1 hb b0 b1 hln) (fun h k o => (k o).trans (h o)) (fun W L o o' hL hW ho _ q => World.cell?_of_block (World.putObj_heap_other (by show w.heap.size + 1 + 1 + 1 ≠ L; omega))) (Below.refl _ _) (fun _ => rfl)
    (fun pre W => ((W.cell? ⟨w.heap.size, 0, none⟩ = some (.bool n) ∧ W.cell? ⟨w.heap.size, 1, none⟩ = some (.slice p ln c) ∧ W.cell? ⟨w.heap.size + 1, 0, none⟩ = some (.slice (some ⟨g, 0, none⟩) l.length cp) ∧ W.cell? ⟨w.heap.size + 1 + 1, 0, none⟩ = some (.int .i64 (countL d l pre)) ∧ W.frozen? ⟨w.heap.size + 1 + 1, 0, none⟩ = false) ∧ Below w.heap.size w W) ∧ w1.heap.size ≤ W.heap.size)
    (fun _ _ _ => False)
    (OwnFrom.and (OwnFrom.and (Own.from (fun s A B row hs hg hr => ⟨cell_kept hs.1 hg hr, cell_kept hs.2.1 hg hr, cell_kept hs.2.2.1 hg hr, cell_kept hs.2.2.2.1 hg hr, (frozen_kept hs.2.2.2.1 hg hr).trans hs.2.2.2.2⟩) _) (ownFrom_below (Nat.le_refl _) (by omega))) (fun s A B row hs hg hr => Nat.le_trans hs hg.size))
    (fun _ _ _ _ _ hs _ _ => hs)
    ⟨⟨⟨e0, e1, e2, e3, e4⟩, hx0⟩, Nat.le_refl _⟩
    (fun x => { tmps := #[.agg #[.bool n, .slice p ln c], .slice (some ⟨g, 0, none⟩) l.length cp, .pointer (some ⟨w.heap.size, 0, none⟩), .pointer (some ⟨w.heap.size + 1, 0, none⟩), .int .i64 0, .pointer (some ⟨w.heap.size + 1 + 1, 0, none⟩), .int .i64 x.1, undef, undef, undef, .agg #[.bool n, .slice p ln c], .func (.func 82) #[] #[.pointer (some ⟨w.heap.size + 1 + 1 + 1, 0, none⟩)], .int .i64 x.1, undef, undef, undef, undef, undef, undef, undef, undef, undef, undef, undef, undef, undef, undef, undef, undef, undef, undef, undef, undef, undef, undef, undef, undef], defers := [] }) ?assign ?body ?done ?stop
  case assign =>
    intro L x W K hK
    gi_wp2
    exact hK
  case body =>
    rintro L pre x W ⟨⟨⟨c0, c1, c2, c3, c4⟩, hB⟩, hz⟩ hpl
    have hxs := x.2
    have hd0 : Hid (0 ≤ d) := by
      show 0 ≤ d
      have := ND.out
      cases n with
      | true => simp at hpl
      | false => simpa using this.symm
    have hn2 : pre.length < 2 := by
      cases n with
      | true => simp at hpl
      | false => simpa using hpl
    clear hpl
    have hzW : w.heap.size + 1 + 1 + 1 ≤ W.heap.size := by omega
    have HM := Lib.hid hlen
    clear hlen
    have hm : (l.length : Int) ≤ 1000 := by have := HM.out; omega
    gi_wp2
    gi_loopw [7, 15] (fun gd i wr => ∃ k : Nat, k ≤ l.length ∧ i = .int .i64 (k : Int) ∧ gd = .bool (goodS d x.1 (l.take k)) ∧ Ext W wr) (fun _ i _ => l.length - (intOf i).toNat)
    case atStart => exact ⟨0, Nat.zero_le _, rfl, rfl, Below.refl _ _⟩
    case round =>
      obtain ⟨k, hk, rfl, rfl, hx⟩ := hrel
      have hbx : Ext w wr := Ext.step hB hx
      have hzr := hx.size
      have f0 : wr.cell? ⟨w.heap.size, 0, none⟩ = some (.bool n) := (hx.cell (p := ⟨w.heap.size, 0, none⟩) (show w.heap.size < W.heap.size by omega)).trans c0
      have f1 : wr.cell? ⟨w.heap.size, 1, none⟩ = some (.slice p ln c) := (hx.cell (p := ⟨w.heap.size, 1, none⟩) (show w.heap.size < W.heap.size by omega)).trans c1
      have hlr : w.heap.size < wr.heap.size := by omega
      by_cases hlt : k < l.length
      · obtain ⟨⟨xx, yy⟩, XY⟩ : ∃ xy, Hid (l[k]? = some xy) := ⟨l[k], List.getElem?_eq_getElem hlt⟩
        obtain ⟨n1, p1, l1, c1', n2, p2, l2, c2', e0', e1', e2', e3', e4', e5'⟩ := (hl.ext hbx).2.2.2 k xx yy XY.out
        have hgr : g < wr.heap.size := (hl.ext hbx).2.2.1
        obtain ⟨gx, gy⟩ := HGL.out k xx yy XY.out
        have GT := Lib.hid (goodS_take (d := d) (s := x.1) XY.out)
        cases hgd : goodS d x.1 (l.take k) with
        | false =>
          rw [hgd] at GT
          have GT := Lib.hid GT.out
          clear hgd
          gi_wp2
          first | refine wp_region_FC (fun W => W.cell? ⟨w.heap.size, 0, none⟩ = some (.bool n) ∧ W.cell? ⟨w.heap.size, 1, none⟩ = some (.slice p ln c) ∧ W.cell? ⟨wr.heap.size, 0, none⟩ = some (.bool n1) ∧ W.cell? ⟨wr.heap.size, 1, none⟩ = some (.slice p1 l1 c1') ∧ W.cell? ⟨wr.heap.size, 2, none⟩ = some (.bool n2) ∧ W.cell? ⟨wr.heap.size, 3, none⟩ = some (.slice p2 l2 c2')) (by kernel_rfl) (by kernel_rfl) ?_ ?_ ?_ | refine wp_region_FCs (fun W => W.cell? ⟨w.heap.size, 0, none⟩ = some (.bool n) ∧ W.cell? ⟨w.heap.size, 1, none⟩ = some (.slice p ln c) ∧ W.cell? ⟨wr.heap.size, 0, none⟩ = some (.bool n1) ∧ W.cell? ⟨wr.heap.size, 1, none⟩ = some (.slice p1 l1 c1') ∧ W.cell? ⟨wr.heap.size, 2, none⟩ = some (.bool n2) ∧ W.cell? ⟨wr.heap.size, 3, none⟩ = some (.slice p2 l2 c2')) ?_ ?_ ?_ | refine wpIn_region_FC (fun W => W.cell? ⟨w.heap.size, 0, none⟩ = some (.bool n) ∧ W.cell? ⟨w.heap.size, 1, none⟩ = some (.slice p ln c) ∧ W.cell? ⟨wr.heap.size, 0, none⟩ = some (.bool n1) ∧ W.cell? ⟨wr.heap.size, 1, none⟩ = some (.slice p1 l1 c1') ∧ W.cell? ⟨wr.heap.size, 2, none⟩ = some (.bool n2) ∧ W.cell? ⟨wr.heap.size, 3, none⟩ = some (.slice p2 l2 c2')) (by kernel_rfl) (by kernel_rfl) (by kernel_rfl) ?_ ?_ ?_
          · go_simp
          · (intro W W' h hx hb; have hs := hx.size; (try simp at hs); have hbc : ∀ b o, b < W.heap.size → W'.cell? ⟨b, o, none⟩ = W.cell? ⟨b, o, none⟩ := fun b o h => hb.cell (p := ⟨b, o, none⟩) h; (try dsimp only at h ⊢); simp (disch := omega) only [hbc]; exact h)
          repeat (first | refine F_s ?_ | refine F_r ?_)
          rintro W2 ⟨hx2, hc⟩
          have hx3 : Ext W W2 := Ext.step bxx hx2
          clear hc hx2
          gi_wp2
          exact ⟨⟨k + 1, by omega, rfl, by rw [GT.out]; rfl, hx3⟩, by simp [intOf]; omega⟩
        | true =>
          rw [hgd] at GT
          have GT := Lib.hid GT.out
          clear hgd
          obtain ⟨z, Z⟩ : ∃ z, Hid (x.1 * yy = z) := ⟨_, rfl⟩
          have gz : Gd z := by rw [← Z.out]; exact gy.sgn x
          obtain ⟨sd, SDD⟩ : ∃ q, Hid (sideZ xx z d = q) := ⟨_, rfl⟩
          have RS := fun (na nb nc : Bool) (pa pb pc : Option Addr) (la ca lb cb lc cc : Nat) (w : World) ha hb hc => root_Sign (ofZ xx) (ofZ z) (ofZ d) na nb nc pa pb pc la ca lb cb lc cc w ha hb hc
          rw [signP_ofZ gx gz hG hd0.out, SDD.out] at RS
          have RS := Lib.hid RS
          have SX := Lib.hid (show small x.1 = true from small_of_lt (k := 1) (by omega) (by omega))
          have SY := Lib.hid gy.small
          have SZ := Lib.hid gz.small
          rw [Z.out, SDD.out] at GT
          have hdr := hd.ext hbx
          clear gx gy gz
          gi_wp2
          first | refine wp_region_FC (fun W => W.cell? ⟨w.heap.size, 0, none⟩ = some (.bool n) ∧ W.cell? ⟨w.heap.size, 1, none⟩ = some (.slice p ln c) ∧ W.cell? ⟨wr.heap.size, 0, none⟩ = some (.bool n1) ∧ W.cell? ⟨wr.heap.size, 1, none⟩ = some (.slice p1 l1 c1') ∧ W.cell? ⟨wr.heap.size, 2, none⟩ = some (.bool n2) ∧ W.cell? ⟨wr.heap.size, 3, none⟩ = some (.slice p2 l2 c2')) (by kernel_rfl) (by kernel_rfl) ?_ ?_ ?_ | refine wp_region_FCs (fun W => W.cell? ⟨w.heap.size, 0, none⟩ = some (.bool n) ∧ W.cell? ⟨w.heap.size, 1, none⟩ = some (.slice p ln c) ∧ W.cell? ⟨wr.heap.size, 0, none⟩ = some (.bool n1) ∧ W.cell? ⟨wr.heap.size, 1, none⟩ = some (.slice p1 l1 c1') ∧ W.cell? ⟨wr.heap.size, 2, none⟩ = some (.bool n2) ∧ W.cell? ⟨wr.heap.size, 3, none⟩ = some (.slice p2 l2 c2')) ?_ ?_ ?_ | refine wpIn_region_FC (fun W => W.cell? ⟨w.heap.size, 0, none⟩ = some (.bool n) ∧ W.cell? ⟨w.heap.size, 1, none⟩ = some (.slice p ln c) ∧ W.cell? ⟨wr.heap.size, 0, none⟩ = some (.bool n1) ∧ W.cell? ⟨wr.heap.size, 1, none⟩ = some (.slice p1 l1 c1') ∧ W.cell? ⟨wr.heap.size, 2, none⟩ = some (.bool n2) ∧ W.cell? ⟨wr.heap.size, 3, none⟩ = some (.slice p2 l2 c2')) (by kernel_rfl) (by kernel_rfl) (by kernel_rfl) ?_ ?_ ?_
          · go_simp
          · (intro W W' h hx hb; have hs := hx.size; (try simp at hs); have hbc : ∀ b o, b < W.heap.size → W'.cell? ⟨b, o, none⟩ = W.cell? ⟨b, o, none⟩ := fun b o h => hb.cell (p := ⟨b, o, none⟩) h; (try dsimp only at h ⊢); simp (disch := omega) only [hbc]; exact h)
          repeat (first | refine F_s ?_ | refine F_r ?_)
          refine F_num { w with heap := #[] } (ofZ x.1) (by rfl) (by rfl) (by intro W hW; (try dsimp only at hW); go_simp; exact (meet_of x.1 _ (by omega)).mono fun _ _ h => RetN.isN (Nat.zero_le _) h) ?_; intro n5 p5 l5 c5 _; refine F_put ?_
          repeat (first | refine F_s ?_ | refine F_r ?_)
          refine F_num { w with heap := #[] } (ofZ z) (by rfl) (by rfl) (by intro W hW; (try dsimp only at hW); go_simp; exact (meet_mul x.1 yy _ _ _ _ _ _ _ _ _ hW.2 ((e5'.alloc _).ext hW.1.1) SX.out SY.out z Z.out SZ.out).mono fun _ _ h => RetN.isN (Nat.zero_le _) h) ?_; intro n6 p6 l6 c6 _; refine F_put ?_
          repeat (first | refine F_s ?_ | refine F_r ?_)
          (refine F_call (v := .int .i64 sd) (by rfl) (by rfl) ?_ ?_; (· (intro W hW; (try dsimp only at hW); go_simp; refine (RS.out _ _ _ _ _ _ _ _ _ _ _ _ _ ((e4'.alloc _).ext hW.1.1.1) hW.2 ((hdr.alloc _).ext hW.1.1.1)).mono ?_; rintro e w' ⟨rfl, hx⟩; exact ⟨_, rfl, rfl, hx⟩))); refine F_put ?_
          repeat (first | refine F_s ?_ | refine F_r ?_)
          rintro W2 ⟨⟨⟨hx2, hc⟩, _⟩, _⟩
          have hx3 : Ext W W2 := Ext.step bxx hx2
          clear hc hx2
          gi_wp2
          exact ⟨⟨k + 1, by omega, rfl, by rw [GT.out]; rfl, hx3⟩, by simp [intOf]; omega⟩
      · obtain rfl : k = l.length := by omega
        have f2 : wr.cell? ⟨w.heap.size + 1 + 1, 0, none⟩ = some (.int .i64 (countL d l pre)) := (hx.cell (p := ⟨w.heap.size + 1 + 1, 0, none⟩) (show w.heap.size + 1 + 1 < W.heap.size by omega)).trans c3
        have f3 : wr.frozen? ⟨w.heap.size + 1 + 1, 0, none⟩ = false := (hx.frozen (p := ⟨w.heap.size + 1 + 1, 0, none⟩) (show w.heap.size + 1 + 1 < W.heap.size by omega)).trans c4
        have f4 : wr.cell? ⟨w.heap.size + 1, 0, none⟩ = some (.slice (some ⟨g, 0, none⟩) l.length cp) := (hx.cell (p := ⟨w.heap.size + 1, 0, none⟩) (show w.heap.size + 1 < W.heap.size by omega)).trans c2
        have kb : ∀ W', (∀ o, W'.cell? ⟨w.heap.size + 1 + 1 + 1, o, none⟩ = wr.cell? ⟨w.heap.size + 1 + 1 + 1, o, none⟩) → KB (w.heap.size + 1 + 1 + 1) W W' := fun W' h o => (h o).trans (hx.cell (p := ⟨w.heap.size + 1 + 1 + 1, o, none⟩) (show w.heap.size + 1 + 1 + 1 < W.heap.size by omega))
        have KBH := Lib.hid kb
        have CS := Lib.hid (countL_snoc d l pre x)
        have cbd := countL_bd d l pre
        rw [List.take_of_length_le (Nat.le_refl _)]
        clear kb c0 c1 c2 c3 c4
        obtain ⟨q, Q⟩ : ∃ q, Hid (countL d l pre = q) := ⟨_, rfl⟩
        rw [Q.out] at f2 cbd CS
        cases hgd : goodS d x.1 l with
        | false =>
          rw [hgd] at CS
          clear hgd
          gi_wp2
          refine ⟨KeepsOthers.of_ext hx, KBH.out _ (fun _ => rfl), ⟨⟨f0, f1, f4, ?_, f3⟩, hbx⟩, by omega⟩
          rw [CS.out, f2]
          simp
        | true =>
          rw [hgd] at CS
          clear hgd
          gi_wp2
          refine ⟨(KeepsOthers.of_ext hx).trans (KeepsOthers.setCell _ _ _), KBH.out _ (fun o => ?_), ⟨⟨?_, ?_, ?_, ?_, ?_⟩, ?_⟩, ?_⟩
          · go_simp
          · go_simp
          · go_simp
          · go_simp
          · rw [CS.out]; go_simp
          · go_simp
          · exact bxx
          · simp; omega
  case done =>
    rintro D xs W hD rfl ⟨⟨⟨c0, c1, c2, c3, c4⟩, hB⟩, hz⟩ hK
    gi_wp2
    refine ⟨by simp, .inl ⟨_, _, rfl, run_takeDeferred hK, ?_⟩⟩
    exact ⟨_, results_tmp rfl _ _ _, by rw [RES.out]; rfl, hB.trans (belowK_b (w := w) (Nat.le_refl _) W D _ _ (by omega) hK rfl rfl)⟩
  case stop =>
    rintro D c' pre W _ _ h _
    exact h.elim
end Go.Proofs.YtmmhiiiaccldmaaGreat

namespace Go.Proofs.YtmmhiiiaccldmaaGreat
open Go.RowKit
attribute [local go_sem] Gives givesU

theorem infoSurd : (Tryz.prog.info? 88).map (fun i => (i.zero, i.size, i.bytes)) = some (some (.agg #[.bool false, .slice none 0 0, .bool false, .slice none 0 0]), 4, 64) := by kernel_rfl

/-- A number that does not lie in block G. -/
def NRG (w : World) (G : Option Nat) (n : Bool) (p : Option Addr) (l c : Nat) (x : Nm) : Prop := NR w n p l c x ∧ (0 < x.d.length → ∀ a, p = some a → some a.block ≠ G)
theorem NRG.ext {w w' : World} {G : Option Nat} {n : Bool} {p : Option Addr} {l c : Nat} {x : Nm} (h : NRG w G n p l c x) (hx : Ext w w') : NRG w' G n p l c x := ⟨h.1.ext hx, h.2⟩
/-- An append to the row in block G leaves it; and it lies apart from the row's new block. -/
theorem NRG.grown {w w' : World} {G G' : Option Nat} {n : Bool} {p : Option Addr} {l c : Nat} {x : Nm} (h : NRG w G n p l c x) (hg : w.grownBy w' G) (hG : G' = G ∨ G' = some w.heap.size) : NRG w' G' n p l c x := by
  obtain ⟨⟨h1, h2, h3, h4, h5, h6⟩, hn⟩ := h
  refine ⟨⟨h1, h2, h3, h4, h5, fun h0 => ?_⟩, fun h0 a ha => ?_⟩
  · obtain ⟨B, o, rfl, hlt, hc⟩ := h6 h0
    refine ⟨B, o, rfl, Nat.lt_of_lt_of_le hlt hg.size, fun i hi => ?_⟩
    rw [← hc i hi]
    exact World.cell?_of_block (hg.block B hlt (hn h0 _ rfl))
  · rcases hG with rfl | rfl
    · exact hn h0 a ha
    · obtain ⟨B, o, rfl, hlt, hc⟩ := h6 h0
      cases ha
      simp only [ne_eq, Option.some.injEq]
      omega
/-- A number in memory ahead of block g. -/
theorem NR.guard {w : World} {n : Bool} {p : Option Addr} {l c : Nat} {x : Nm} (h : NR w n p l c x) {g : Nat} (hg : w.heap.size ≤ g) : NRG w (some g) n p l c x := by
  refine ⟨h, fun h0 a ha => ?_⟩
  obtain ⟨B, o, rfl, hlt, _⟩ := h.2.2.2.2.2 h0
  cases ha
  simp only [ne_eq, Option.some.injEq]
  omega
/-- A number that was made behind block g. -/
theorem NR.behind {w w0 : World} {n : Bool} {p : Option Addr} {l c : Nat} {x : Nm} (h : NR w n p l c x) (hn : New w0 p) {g : Nat} (hg : g < w0.heap.size) : NRG w (some g) n p l c x :=
  ⟨h, fun _ a ha => by have := hn a ha; simp only [ne_eq, Option.some.injEq]; omega⟩

/-- Cells that read as sums. -/
def SV (w : World) (G : Option Nat) (xs : List Value) : List (Int × Int) → Prop
  | [] => xs = []
  | e :: L => ∃ n1 p1 l1 c1 n2 p2 l2 c2 r, xs = .bool n1 :: .slice p1 l1 c1 :: .bool n2 :: .slice p2 l2 c2 :: r ∧ NRG w G n1 p1 l1 c1 (ofZ e.1) ∧ NRG w G n2 p2 l2 c2 (ofZ e.2) ∧ SV w G r L
theorem SV.step {w w' : World} {G G' : Option Nat} (hs : ∀ n p l c x, NRG w G n p l c x → NRG w' G' n p l c x) : ∀ {L : List (Int × Int)} {xs : List Value}, SV w G xs L → SV w' G' xs L
  | [], _, h => h
  | _ :: _, _, h => by
    obtain ⟨n1, p1, l1, c1, n2, p2, l2, c2, r, e, h1, h2, h3⟩ := h
    exact ⟨n1, p1, l1, c1, n2, p2, l2, c2, r, e, hs _ _ _ _ _ h1, hs _ _ _ _ _ h2, SV.step hs h3⟩
theorem SV.ext {w w' : World} {G : Option Nat} {xs : List Value} {L : List (Int × Int)} (h : SV w G xs L) (hx : Ext w w') : SV w' G xs L := h.step fun _ _ _ _ _ h => h.ext hx
theorem SV.snoc {w : World} {G : Option Nat} {n1 n2 : Bool} {p1 p2 : Option Addr} {l1 c1 l2 c2 : Nat} {x y : Int} : ∀ {L : List (Int × Int)} {xs : List Value}, SV w G xs L → NRG w G n1 p1 l1 c1 (ofZ x) → NRG w G n2 p2 l2 c2 (ofZ y) →
    SV w G (xs ++ [.bool n1, .slice p1 l1 c1, .bool n2, .slice p2 l2 c2]) (L ++ [(x, y)])
  | [], _, h, h1, h2 => by
    cases h
    exact ⟨n1, p1, l1, c1, n2, p2, l2, c2, [], rfl, h1, h2, rfl⟩
  | _ :: _, _, h, h1, h2 => by
    obtain ⟨m1, q1, k1, d1, m2, q2, k2, d2, r, e, g1, g2, h3⟩ := h
    exact ⟨m1, q1, k1, d1, m2, q2, k2, d2, r ++ _, by rw [e]; rfl, g1, g2, SV.snoc h3 h1 h2⟩
theorem SV.length {w : World} {G : Option Nat} : ∀ {L : List (Int × Int)} {xs : List Value}, SV w G xs L → xs.length = L.length * 4
  | [], _, h => by cases h; rfl
  | _ :: _, _, h => by
    obtain ⟨m1, q1, k1, d1, m2, q2, k2, d2, r, e, g1, g2, h3⟩ := h
    rw [e]
    simp [SV.length h3]
    omega
theorem SV.at {w : World} {G : Option Nat} : ∀ {L : List (Int × Int)} {xs : List Value} (i : Nat) (x y : Int), SV w G xs L → L[i]? = some (x, y) →
    ∃ n1 p1 l1 c1 n2 p2 l2 c2, xs[i * 4]? = some (.bool n1) ∧ xs[i * 4 + 1]? = some (.slice p1 l1 c1) ∧ xs[i * 4 + 2]? = some (.bool n2) ∧ xs[i * 4 + 3]? = some (.slice p2 l2 c2) ∧ NR w n1 p1 l1 c1 (ofZ x) ∧ NR w n2 p2 l2 c2 (ofZ y)
  | [], _, _, _, _, _, h => by simp at h
  | e :: L, xs, i, x, y, hs, h => by
    obtain ⟨m1, q1, k1, d1, m2, q2, k2, d2, r, e', g1, g2, h3⟩ := hs
    cases i with
    | zero =>
      simp only [List.getElem?_cons_zero, Option.some.injEq] at h
      subst h
      exact ⟨m1, q1, k1, d1, m2, q2, k2, d2, by rw [e']; rfl, by rw [e']; rfl, by rw [e']; rfl, by rw [e']; rfl, g1.1, g2.1⟩
    | succ i =>
      simp only [List.getElem?_cons_succ] at h
      obtain ⟨n1, p1, l1, c1, n2, p2, l2, c2, f0, f1, f2, f3, f4, f5⟩ := SV.at i x y h3 h
      refine ⟨n1, p1, l1, c1, n2, p2, l2, c2, ?_, ?_, ?_, ?_, f4, f5⟩ <;> rw [e', Nat.succ_mul] <;> simpa using by assumption

/-- The block of a slice. -/
def blk (p : Option Addr) : Option Nat := p.map (·.block)
theorem blk_own (p : Option Addr) (n c : Nat) : Value.ownBlock (.slice p n c) = blk p := by cases p <;> rfl
/-- A slice of the function's own whose elements read as sums. -/
def OwnS (w : World) (B : Nat) (p : Option Addr) (n c : Nat) (L : List (Int × Int)) : Prop := n = L.length ∧ ∃ xs, w.ownsRow B 88 4 (.slice p n c) n xs ∧ SV w (blk p) xs L
theorem ownsRow_ext {w w' : World} {B e size : Nat} {v : Value} {n : Nat} {xs : List Value} (h : w.ownsRow B e size v n xs) (hx : Ext w w') : w'.ownsRow B e size v n xs := by
  refine ⟨h.1, ?_⟩
  rcases h.2 with h | ⟨g, cap, cur, h1, h2, h3, h4⟩
  · exact .inl h
  · exact .inr ⟨g, cap, cur, h1, h2, by rw [hx.block g (Array.getElem?_eq_some_iff.1 h3).1]; exact h3, h4⟩
theorem OwnS.ext {w w' : World} {B n c : Nat} {p : Option Addr} {L : List (Int × Int)} (h : OwnS w B p n c L) (hx : Ext w w') : OwnS w' B p n c L := by
  obtain ⟨h1, xs, h2, h3⟩ := h
  exact ⟨h1, xs, ownsRow_ext h2 hx, h3.ext hx⟩
theorem OwnS.nil (w : World) (B : Nat) : OwnS w B none 0 0 [] := ⟨rfl, [], ⟨rfl, .inl ⟨rfl, rfl⟩⟩, rfl⟩
theorem OwnS.lt {w : World} {B n c : Nat} {p : Option Addr} {L : List (Int × Int)} (h : OwnS w B p n c L) : ∀ g, blk p = some g → B ≤ g ∧ g < w.heap.size := by
  intro g' hg'
  obtain ⟨h1, xs, h2, h3⟩ := h
  rcases h2.2 with ⟨hz, hl⟩ | ⟨g, cap, cur, k1, kb, kg, k4⟩
  · cases hz; cases hg'
  · cases k1
    cases hg'
    exact ⟨kb, (Array.getElem?_eq_some_iff.1 kg).1⟩
theorem OwnS.sr {w : World} {B n c : Nat} {p : Option Addr} {L : List (Int × Int)} (h : OwnS w B p n c L) (h0 : 0 < L.length) : ∃ g, p = some ⟨g, 0, none⟩ ∧ SR w g c L := by
  obtain ⟨rfl, xs, h2, h3⟩ := h
  rcases h2.2 with ⟨_, h⟩ | ⟨g, cap, cur, h1, hb, hg, hn, hm, hs, ht⟩
  · omega
  · cases h1
    refine ⟨g, rfl, hn, by simpa [maxLen] using hm, (Array.getElem?_eq_some_iff.1 hg).1, fun i x y hi => ?_⟩
    obtain ⟨n1, p1, l1, c1, n2, p2, l2, c2, e0, e1, e2, e3, e4, e5⟩ := SV.at i x y h3 hi
    have hlt := (List.getElem?_eq_some_iff.1 hi).1
    have k : ∀ j v, xs[j]? = some v → w.cell? ⟨g, j, none⟩ = some v := fun j v hj => by
      rw [cell_of_row w g j cur _ (0, 0) hg]
      rw [← ht, List.getElem?_take] at hj
      split at hj
      · simpa using hj
      · cases hj
    exact ⟨n1, p1, l1, c1, n2, p2, l2, c2, k _ _ e0, k _ _ e1, k _ _ e2, k _ _ e3, e4, e5⟩

/-- An append of one sum, in a walk by the rule. -/
theorem F_appendS {ops : Array Oper} {S : World → Prop} {Q : Act → World → Prop} {o : Oper} {l : List Oper} {a : Act} {own : List Nat} {F : World → Prop} (s x : Operand) (R : World → Prop) (B : Nat) (p : Option Addr) (n c : Nat) (L : List (Int × Int)) (gb : Nat) (n1 n2 : Bool) (p1 p2 : Option Addr) (l1 c1 l2 c2 : Nat) (u v : Int)
    (ho : o.op = .call { callee := .builtin .append, args := #[s, x], argTypes := #[89, 89] }) (hk : fkind o = 3) (hw : Region.wanted o (yielded ops a.tmps) = true)
    (hs : a.eval s = .slice p n c) (hx : a.eval x = .slice (some ⟨gb, 0, none⟩) 1 1) (hn : n ≤ 1000)
    (hF : ∀ W, F W → R W ∧ OwnS W B p n c L ∧ W.heap[gb]? = some (.cells #[.bool n1, .slice p1 l1 c1, .bool n2, .slice p2 l2 c2] 88) ∧ NRG W (blk p) n1 p1 l1 c1 (ofZ u) ∧ NRG W (blk p) n2 p2 l2 c2 (ofZ v) ∧ B ≤ W.heap.size)
    (hR : ∀ W W', R W → OwnS W B p n c L → W.grownBy W' (blk p) → R W') (hm : FMono R) (hRS : ∀ W, R W → S W)
    (h : ∀ g' c', WpF Tryz.prog ops S Q l (a.put o.dst (.slice (some ⟨g', 0, none⟩) (n + 1) c')) own (fun W => (R W ∧ OwnS W B (some ⟨g', 0, none⟩) (n + 1) c' (L ++ [(u, v)])) ∧ ∀ g ∈ own, g < W.heap.size)) : WpF Tryz.prog ops S Q (o :: l) a own F := by
  obtain ⟨i, hi, hz0, hz1, hz2⟩ := info_parts infoSurd
  refine F_storeE (I := Nat × Nat) (fun t => .slice (some ⟨t.1, 0, none⟩) (n + 1) t.2) (fun t W => R W ∧ OwnS W B (some ⟨t.1, 0, none⟩) (n + 1) t.2 (L ++ [(u, v)])) (fun t W W' h hb => ⟨hm _ _ h.1 hb, h.2.ext hb⟩) (fun t W h => hRS W h.1) hk hw (fun W hf => ?_) (fun t => h t.1 t.2)
  obtain ⟨hr, ⟨hlen, xs, hown, hsv⟩, hblk, g1, g2, hB⟩ := hF W hf
  obtain ⟨g', cap, w', hrun, k1, k2, k3, k4⟩ := run_append_lies (P := Tryz.prog) W 89 o.type B 88 i (.agg #[.bool false, .slice none 0 0, .bool false, .slice none 0 0]) 4 64 Tryz.underlying89 hi hz0 hz1 hz2 rfl (by omega) (.slice p n c) n xs hown ⟨gb, 0, none⟩ 1 1 [.bool n1, .slice p1 l1 c1, .bool n2, .slice p2 l2 c2] rfl (World.news_of_block hblk) (by intro u hu; simp at hu; rcases hu with rfl | rfl | rfl | rfl <;> rfl) (by omega) (by unfold maxLen; omega) (by omega) hB W.heap.size rfl
  have e : (execOp a.eval o).run Tryz.prog W = .ok (.value (.slice (some ⟨g', 0, none⟩) (n + 1) cap)) w' := by
    unfold execOp
    simp only [ho, resolve, invoke, builtin, Sem.run_bind, Sem.run_pure, Result.andThen_ok, List.map_toArray, List.map_cons, List.map_nil, hs, hx, hrun]
  unfold Gives
  rw [e]
  rw [blk_own] at k2 k3
  have hG : blk (some ⟨g', 0, none⟩) = blk p ∨ blk (some ⟨g', 0, none⟩) = some W.heap.size := by
    rcases k3 with k3 | k3
    · exact .inl k3.symm
    · exact .inr (by rw [k3]; rfl)
  refine ⟨(g', cap), rfl, k2.size, hR W w' hr ⟨hlen, xs, hown, hsv⟩ k2, by simp [hlen], _, k1, ?_⟩
  exact SV.snoc (hsv.step fun _ _ _ _ _ h => h.grown k2 hG) (g1.grown k2 hG) (g2.grown k2 hG)
end Go.Proofs.YtmmhiiiaccldmaaGreat

namespace Go.Proofs.YtmmhiiiaccldmaaGreat
open Go.RowKit

/-- An int of 64 bits. -/
def I64 (x : Int) : Prop := -9223372036854775808 ≤ x ∧ x ≤ 9223372036854775807
/-- A coordinate within the bounds. -/
def coordB (x y : Int) : Bool := decide (-67108864 ≤ x) && decide (x ≤ 67108864) && decide (-67108864 ≤ y) && decide (y ≤ 67108864)

set_option maxRecDepth 100000 in
set_option maxHeartbeats 1000000 in
theorem vec_Sub (ax ay bx by' : Int) (w : World) (h1 : I64 (ax - bx)) (h2 : I64 (ay - by')) :
    Calls Tryz.prog 35 #[.agg #[.int .i64 ax, .int .i64 ay], .agg #[.int .i64 bx, .int .i64 by']] w fun e w' => e = .returned (.agg #[.int .i64 (ax-bx), .int .i64 (ay-by')]) ∧ Ext w w' := by
  obtain ⟨h1a, h1b⟩ := h1
  obtain ⟨h2a, h2b⟩ := h2
  go_enter Tryz.func35, Tryz.ntmps35
  go_wp2
  exact bodyPost_ret (v := .agg #[.int .i64 (ax-bx), .int .i64 (ay-by')]) (by simp [results, Tryz.results35, go_sem]) rfl ⟨rfl, bxx⟩
set_option maxRecDepth 100000 in
set_option maxHeartbeats 1000000 in
theorem vec_Add (ax ay bx by' : Int) (w : World) (h1 : I64 (ax + bx)) (h2 : I64 (ay + by')) :
    Calls Tryz.prog 115 #[.agg #[.int .i64 ax, .int .i64 ay], .agg #[.int .i64 bx, .int .i64 by']] w fun e w' => e = .returned (.agg #[.int .i64 (ax+bx), .int .i64 (ay+by')]) ∧ Ext w w' := by
  obtain ⟨h1a, h1b⟩ := h1
  obtain ⟨h2a, h2b⟩ := h2
  go_enter Tryz.func115, Tryz.ntmps115
  go_wp2
  exact bodyPost_ret (v := .agg #[.int .i64 (ax+bx), .int .i64 (ay+by')]) (by simp [results, Tryz.results115, go_sem]) rfl ⟨rfl, bxx⟩
set_option maxRecDepth 100000 in
set_option maxHeartbeats 1000000 in
theorem vec_Cross (ax ay bx by' : Int) (w : World) (h1 : I64 (ax * by')) (h2 : I64 (ay * bx)) (h3 : I64 (ax * by' - ay * bx)) :
    Calls Tryz.prog 38 #[.agg #[.int .i64 ax, .int .i64 ay], .agg #[.int .i64 bx, .int .i64 by']] w fun e w' => e = .returned (.int .i64 (ax * by' - ay * bx)) ∧ Ext w w' := by
  obtain ⟨h1a, h1b⟩ := h1
  obtain ⟨h2a, h2b⟩ := h2
  obtain ⟨h3a, h3b⟩ := h3
  go_enter Tryz.func38, Tryz.ntmps38
  go_wp2
  go_ret
  exact ⟨rfl, bxx⟩
set_option maxRecDepth 100000 in
set_option maxHeartbeats 1000000 in
theorem vec_Dot (ax ay bx by' : Int) (w : World) (h1 : I64 (ax * bx)) (h2 : I64 (ay * by')) (h3 : I64 (ax * bx + ay * by')) :
    Calls Tryz.prog 40 #[.agg #[.int .i64 ax, .int .i64 ay], .agg #[.int .i64 bx, .int .i64 by']] w fun e w' => e = .returned (.int .i64 (ax * bx + ay * by')) ∧ Ext w w' := by
  obtain ⟨h1a, h1b⟩ := h1
  obtain ⟨h2a, h2b⟩ := h2
  obtain ⟨h3a, h3b⟩ := h3
  go_enter Tryz.func40, Tryz.ntmps40
  go_wp2
  go_ret
  exact ⟨rfl, bxx⟩
set_option maxRecDepth 100000 in
set_option maxHeartbeats 1000000 in
theorem r05_Sub (ax ay bx by' : Int) (w : World) (h1 : I64 (ax - bx)) (h2 : I64 (ay - by')) :
    Calls Tryz.prog 47 #[.agg #[.int .i64 ax, .int .i64 ay], .agg #[.int .i64 bx, .int .i64 by']] w fun e w' => e = .returned (.agg #[.int .i64 (ax-bx), .int .i64 (ay-by')]) ∧ Ext w w' := by
  obtain ⟨h1a, h1b⟩ := h1
  obtain ⟨h2a, h2b⟩ := h2
  go_enter Tryz.func47, Tryz.ntmps47
  go_wp2
  exact bodyPost_ret (v := .agg #[.int .i64 (ax-bx), .int .i64 (ay-by')]) (by simp [results, Tryz.results47, go_sem]) rfl ⟨rfl, bxx⟩
set_option maxRecDepth 100000 in
set_option maxHeartbeats 1000000 in
theorem r05_Add (ax ay bx by' : Int) (w : World) (h1 : I64 (ax + bx)) (h2 : I64 (ay + by')) :
    Calls Tryz.prog 16 #[.agg #[.int .i64 ax, .int .i64 ay], .agg #[.int .i64 bx, .int .i64 by']] w fun e w' => e = .returned (.agg #[.int .i64 (ax+bx), .int .i64 (ay+by')]) ∧ Ext w w' := by
  obtain ⟨h1a, h1b⟩ := h1
  obtain ⟨h2a, h2b⟩ := h2
  go_enter Tryz.func16, Tryz.ntmps16
  go_wp2
  exact bodyPost_ret (v := .agg #[.int .i64 (ax+bx), .int .i64 (ay+by')]) (by simp [results, Tryz.results16, go_sem]) rfl ⟨rfl, bxx⟩
set_option maxRecDepth 100000 in
set_option maxHeartbeats 1000000 in
theorem r05_Cross (ax ay bx by' : Int) (w : World) (h1 : I64 (ax * by')) (h2 : I64 (ay * bx)) (h3 : I64 (ax * by' - ay * bx)) :
    Calls Tryz.prog 48 #[.agg #[.int .i64 ax, .int .i64 ay], .agg #[.int .i64 bx, .int .i64 by']] w fun e w' => e = .returned (.int .i64 (ax * by' - ay * bx)) ∧ Ext w w' := by
  obtain ⟨h1a, h1b⟩ := h1
  obtain ⟨h2a, h2b⟩ := h2
  obtain ⟨h3a, h3b⟩ := h3
  go_enter Tryz.func48, Tryz.ntmps48
  go_wp2
  go_ret
  exact ⟨rfl, bxx⟩
set_option maxRecDepth 100000 in
set_option maxHeartbeats 1000000 in
theorem r05_Dot (ax ay bx by' : Int) (w : World) (h1 : I64 (ax * bx)) (h2 : I64 (ay * by')) (h3 : I64 (ax * bx + ay * by')) :
    Calls Tryz.prog 50 #[.agg #[.int .i64 ax, .int .i64 ay], .agg #[.int .i64 bx, .int .i64 by']] w fun e w' => e = .returned (.int .i64 (ax * bx + ay * by')) ∧ Ext w w' := by
  obtain ⟨h1a, h1b⟩ := h1
  obtain ⟨h2a, h2b⟩ := h2
  obtain ⟨h3a, h3b⟩ := h3
  go_enter Tryz.func50, Tryz.ntmps50
  go_wp2
  go_ret
  exact ⟨rfl, bxx⟩
set_option maxRecDepth 100000 in
set_option maxHeartbeats 1000000 in
theorem vec_Right (x y : Int) (w : World) :
    Calls Tryz.prog 33 #[.agg #[.int .i64 x, .int .i64 y]] w fun e w' => e = .returned (.bool (coordB x y)) ∧ Ext w w' := by
  go_enter Tryz.func33, Tryz.ntmps33
  go_wp2
  all_goals
    go_ret
    exact ⟨ret_bool (Bool.eq_iff_iff.2 (by simp [coordB]; omega)), bxx⟩
set_option maxRecDepth 100000 in
set_option maxHeartbeats 1000000 in
theorem r05_Right (x y : Int) (w : World) :
    Calls Tryz.prog 46 #[.agg #[.int .i64 x, .int .i64 y]] w fun e w' => e = .returned (.bool (coordB x y)) ∧ Ext w w' := by
  go_enter Tryz.func46, Tryz.ntmps46
  go_wp2
  all_goals
    go_ret
    exact ⟨ret_bool (Bool.eq_iff_iff.2 (by simp [coordB]; omega)), bxx⟩

/-- On which side of the line from a to b the point p lies. -/
def sideI (n : Int) : Int := if 0 < n then 1 else if n < 0 then -1 else 0

attribute [local go_sem] Gives givesU
set_option maxRecDepth 100000 in
set_option maxHeartbeats 1000000 in
theorem vec_Side (ax ay bx by' px py : Int) (w : World) (h1 : I64 (bx - ax)) (h2 : I64 (by' - ay)) (h3 : I64 (px - ax)) (h4 : I64 (py - ay))
    (h5 : I64 ((bx - ax) * (py - ay))) (h6 : I64 ((by' - ay) * (px - ax))) (h7 : I64 ((bx - ax) * (py - ay) - (by' - ay) * (px - ax))) :
    Calls Tryz.prog 39 #[.agg #[.int .i64 ax, .int .i64 ay], .agg #[.int .i64 bx, .int .i64 by'], .agg #[.int .i64 px, .int .i64 py]] w fun e w' => e = .returned (.int .i64 (sideI ((bx - ax) * (py - ay) - (by' - ay) * (px - ax)))) ∧ Ext w w' := by
  go_enter Tryz.func39, Tryz.ntmps39
  go_wp2
  refine wp_FS (fun W => W.cell? ⟨w.heap.size, 0, none⟩ = some (.int .i64 ax) ∧ W.cell? ⟨w.heap.size, 1, none⟩ = some (.int .i64 ay) ∧ W.cell? ⟨w.heap.size + 1, 0, none⟩ = some (.int .i64 bx) ∧ W.cell? ⟨w.heap.size + 1, 1, none⟩ = some (.int .i64 by') ∧ W.cell? ⟨w.heap.size + 1 + 1, 0, none⟩ = some (.int .i64 px) ∧ W.cell? ⟨w.heap.size + 1 + 1, 1, none⟩ = some (.int .i64 py)) ?_
  repeat (first | refine F_s ?_ | refine F_r ?_)
  (refine F_call (v := .agg #[.int .i64 (bx-ax), .int .i64 (by'-ay)]) (by rfl) (by rfl) ?_ ?_; (· (intro W hW; (try dsimp only at hW); go_simp; refine (vec_Sub _ _ _ _ _ h1 h2).mono ?_; rintro e w' ⟨rfl, hx⟩; exact ⟨_, rfl, rfl, hx⟩))); refine F_put ?_
  repeat (first | refine F_s ?_ | refine F_r ?_)
  (refine F_call (v := .agg #[.int .i64 (px-ax), .int .i64 (py-ay)]) (by rfl) (by rfl) ?_ ?_; (· (intro W hW; (try dsimp only at hW); go_simp; refine (vec_Sub _ _ _ _ _ h3 h4).mono ?_; rintro e w' ⟨rfl, hx⟩; exact ⟨_, rfl, rfl, hx⟩))); refine F_put ?_
  (refine F_call (v := .int .i64 ((bx - ax) * (py - ay) - (by' - ay) * (px - ax))) (by rfl) (by rfl) ?_ ?_; (· (intro W hW; (try dsimp only at hW); go_simp; refine (vec_Cross _ _ _ _ _ h5 h6 h7).mono ?_; rintro e w' ⟨rfl, hx⟩; exact ⟨_, rfl, rfl, hx⟩))); refine F_put ?_
  repeat (first | refine F_s ?_ | refine F_r ?_)
  rintro W ⟨hx, hc⟩
  have hx0 : Ext w W := Ext.step bxx hx
  clear hx hc
  obtain ⟨h7a, h7b⟩ := h7
  go_wp2
  all_goals
    go_ret
    exact ⟨ret_int (by unfold sideI; (repeat' split) <;> omega), hx0⟩
end Go.Proofs.YtmmhiiiaccldmaaGreat
