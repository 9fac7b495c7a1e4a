/- Contracts: num.down (the iterator), num.Int. | Plain mathematics of the product of digits. -/
import Derived.Test.YtdaaknfmodbjcaaDoorJ05
import Derived.Test.YtdaaknfmodbjcaaDoorJ12
import Derived.Test.YtdaaknfmodbjcaaDoorJ01
import Derived.Shelf.Abstract
import Derived.Shelf.RegionOpen
set_option linter.unusedVariables false
set_option linter.unusedSimpArgs false

namespace Go.Proofs.YtdaaknfmodbjcaaDoor
open Go.RowKit Go.Shelf
attribute [local go_sem] Oper.semAt_some
attribute [local go_sem] Gives givesU

/-- A digit. -/
abbrev Dg := { x : Nat // x < 4294967296 }
/-- The cells of block B and of the row's block stay. -/
def KR (B : Nat) (p : Option Addr) (n : Nat) (W W' : World) : Prop := (∀ o, W'.cell? ⟨B, o, none⟩ = W.cell? ⟨B, o, none⟩) ∧ (0 < n → ∀ a, p = some a → ∀ o, W'.cell? ⟨a.block, o, none⟩ = W.cell? ⟨a.block, o, none⟩)

set_option maxRecDepth 100000 in
set_option maxHeartbeats 2000000 in
theorem down_stops (n : Nat) (hn : 1 ≤ n) (Bc c : Nat) (d : List Nat) (p : Option Addr) (w : World) (hB : Bc < w.heap.size) (c0 : w.cell? ⟨Bc, 0, none⟩ = some (.slice p d.length c)) (hr : Row w p c d) :
    SeqStopsK Fence.wide n Tryd.prog 62 #[.pointer (some ⟨Bc, 0, none⟩)] (fun x : Dg => #[.int .u32 (x.1 : Int)]) (KR Bc p d.length) (fun xs => xs.map (·.1) = d.reverse) (fun _ => True) d.length w := fun L J Jx W hW _ _ hY h0 => by
  have k0 : W.cell? ⟨Bc, 0, none⟩ = some (.slice p d.length c) := (hW.cell (p := ⟨Bc, 0, none⟩) hB).trans c0
  have hrW : Row W p c d := hr.ext hW
  have hma := hr.max
  have hle := hr.le
  clear c0 hr
  refine callsIn_of_wp Tryd.func62 rfl trivial ?_ rfl
  simp only [Tryd.ntmps62, List.size_toArray, List.length_cons, List.length_nil, Nat.reduceAdd, Nat.reduceSub, Array.replicate_succ, Array.replicate_zero, List.push_toArray, List.append_toArray, List.nil_append, List.cons_append]
  gi_wp2
  gi_loopw [3] (fun i wr => ∃ (k : Nat) (pre : List Dg), i = .int .i64 ((k : Int) - 1) ∧ pre.length + k = d.length ∧ pre.map (·.1) = (d.drop k).reverse ∧ J pre wr ∧ KR Bc p d.length W wr) (fun i _ => (intOf i + 1).toNat)
  case atStart => exact ⟨d.length, [], rfl, by simp, by rw [List.drop_eq_nil_of_le (Nat.le_refl _)]; rfl, h0, fun _ => rfl, fun _ _ _ _ => rfl⟩
  case round =>
    obtain ⟨k, pre, rfl, hk, hpre, hJ, hK1, hK2⟩ := hrel
    have m0 : wr.cell? ⟨Bc, 0, none⟩ = some (.slice p d.length c) := (hK1 0).trans k0
    cases k with
    | zero =>
      have HJ := Lib.hid hJ
      have HP := Lib.hid hpre
      clear hJ hpre hK1 hK2 hk
      have e : (((0 : Nat) : Int) - 1) = -1 := by omega
      rw [e]
      clear e
      gi_wp2
      go_end0
      exact ⟨⟨_, rfl⟩, .inl ⟨pre, by rw [HP.out, List.drop_zero], HJ.out⟩⟩
    | succ j =>
      have e : (((j + 1 : Nat) : Int) - 1) = (j : Int) := by omega
      rw [e]
      clear e
      obtain ⟨ba, oa, rfl, hba, hca⟩ := hrW.at (by omega)
      have ca1 : wr.cell? ⟨ba, oa + j, none⟩ = some (.int .u32 ((d[j]?.getD 0 : Nat) : Int)) := (hK2 (by omega) _ rfl _).trans (hca j (by omega))
      have hxd := hrW.dig.getD j
      rw [List.getD_eq_getElem?_getD] at hxd
      have hjd : j < d.length := by omega
      have hdrop : d.drop j = d[j]?.getD 0 :: d.drop (j + 1) := by rw [List.drop_eq_getElem_cons hjd, getD_eq hjd]
      obtain ⟨x, X⟩ : ∃ x, Hid (d[j]?.getD 0 = x) := ⟨_, rfl⟩
      rw [X.out] at ca1 hxd hdrop
      obtain ⟨f1, t1, a1, b1, hy1, hR1⟩ := hY pre ⟨x, hxd⟩ wr hJ (by omega)
      dsimp only at hy1
      have HP := Lib.hid hpre
      have HD := Lib.hid hdrop
      have HK1 := Lib.hid hK1
      have HK2 := Lib.hid hK2
      clear hca hpre hJ hdrop hK1 hK2
      gi_wp2
      refine hR1.mono ?_
      rintro e W1 (⟨rfl, hJ1, hkk1, hkk2⟩ | ⟨rfl, hx1⟩)
      · have HJ1 := Lib.hid hJ1
        have HL1 := Lib.hid hkk1
        have HL2 := Lib.hid hkk2
        clear hJ1 hkk1 hkk2
        gi_wp2
        refine ⟨⟨j, pre ++ [⟨x, hxd⟩], rfl, by simp; omega, ?_, HJ1.out, fun o => (HL1.out o).trans (HK1.out o), fun h a ha o => (HL2.out h a ha o).trans (HK2.out h a ha o)⟩, by simp [intOf]⟩
        rw [List.map_append, HP.out, HD.out, List.reverse_cons]
        rfl
      · gi_wp2
        refine bodyPost_ret (results_none rfl _ _ _) rfl ?_
        exact ⟨⟨_, rfl⟩, .inr ⟨_, trivial, hx1⟩⟩
set_option maxRecDepth 100000 in
set_option maxHeartbeats 1000000 in
theorem num_down (p : Option Addr) (l c : Nat) (w : World) :
    Calls Tryd.prog 44 #[.slice p l c] w fun e w' => e = .returned (.func (.func 62) #[] #[.pointer (some ⟨w.heap.size, 0, none⟩)]) ∧ Ext w w' ∧ w'.cell? ⟨w.heap.size, 0, none⟩ = some (.slice p l c) ∧ w.heap.size < w'.heap.size := by
  go_enter Tryd.func44, Tryd.ntmps44
  go_wp2
  go_ret
  exact ⟨rfl, by (repeat (first | exact Below.refl _ _ | assumption | refine Below.drewN ?_ _ | refine Below.drew ?_ | refine Below.setCell ?_ (by first | exact Nat.le_refl _ | (simp; done) | (simp; omega) | omega) _ | refine Below.alloc ?_ (by first | exact Nat.le_refl _ | (simp; done) | (simp; omega) | omega) _)), by go_simp, by simp⟩

theorem tight_posD {b : List Nat} (tb : Tight b) (h : 0 < b.length) : 0 < val b := by
  rcases Nat.eq_zero_or_pos (val b) with h0 | h0
  · exfalso
    rcases List.eq_nil_or_concat b with rfl | ⟨c, x, rfl⟩
    · simp at h
    · have hx : x ≠ 0 := by have := tb (by simp); simpa using this
      rw [List.concat_eq_append, val_append, show val [x] = x from (by simp [val])] at h0
      have h1 : 0 < 4294967296 ^ c.length := Nat.pow_pos (by omega)
      have h2 := Nat.mul_pos h1 (show 0 < x by omega)
      omega
  · exact h0
theorem wrapI {n : Int} (h1 : -9223372036854775808 ≤ n) (h2 : n ≤ 9223372036854775807) : IntKind.i64.wrap n = n := IntWalk.i64_in _ ⟨h1, h2⟩
/-- The int of a number. -/
def intP (a : Nm) : Int × Bool := if a.right && decide (a.d.length ≤ 2) && decide (-9223372036854775808 ≤ a.z) && decide (a.z ≤ 9223372036854775807) then (a.z, true) else (0, false)
def RetInt (w : World) (r : Int × Bool) (e : Ending) (w' : World) : Prop := e = .returned (.tuple #[.int .i64 r.1, .bool r.2]) ∧ Ext w w'
def accD (pre : List Dg) : Nat := pre.foldl (fun m x => m * 4294967296 + x.1) 0
theorem accD_snoc (pre : List Dg) (x : Dg) : accD (pre ++ [x]) = accD pre * 4294967296 + x.1 := by simp [accD]
theorem accD_val : ∀ (pre : List Dg), accD pre = val (pre.map (·.1)).reverse := by
  intro pre
  have h : ∀ (l : List Dg) (m : Nat), l.foldl (fun m x => m * 4294967296 + x.1) m = val (l.map (·.1)).reverse + 4294967296 ^ l.length * m := by
    intro l
    induction l with
    | nil => intro m; simp [val]
    | cons x l ih =>
      intro m
      rw [List.foldl_cons, ih, List.map_cons, List.reverse_cons, val_append, show val [x.1] = x.1 from (by simp [val]), List.length_reverse, List.length_map, List.length_cons, Nat.pow_succ]
      rw [Nat.mul_add, Nat.mul_assoc, Nat.mul_comm m]
      omega
  rw [accD, h, Nat.mul_zero, Nat.add_zero]
theorem accD_lt (pre : List Dg) : accD pre < 4294967296 ^ pre.length := by
  rw [accD_val]
  have := val_lt (d := (pre.map (·.1)).reverse) (by intro y hy; rw [List.mem_reverse, List.mem_map] at hy; obtain ⟨z, _, rfl⟩ := hy; exact z.2)
  rwa [List.length_reverse, List.length_map] at this

set_option maxRecDepth 100000 in
set_option maxHeartbeats 4000000 in
theorem num_Int (a : Nm) (na : Bool) (pa : Option Addr) (la ca : Nat) (w : World) (ha : NR w na pa la ca a) :
    Calls Tryd.prog 22 #[.agg #[.bool na, .slice pa la ca]] w (RetInt w (intP a)) := by
  have RA := Lib.hid (fun w' (hx : Ext w w') => num_Right a na pa la ca w' (ha.ext hx))
  cases ra : a.right with
  | false =>
    rw [ra] at RA
    have hP : intP a = (0, false) := by unfold intP; rw [ra]; rfl
    rw [hP]
    go_enter Tryd.func22, Tryd.ntmps22
    go_wp2_with fail
    refine (RA.out _ (by (repeat (first | exact Below.refl _ _ | assumption | refine Below.drewN ?_ _ | refine Below.drew ?_ | refine Below.setCell ?_ (by first | exact Nat.le_refl _ | (simp; done) | (simp; omega) | omega) _ | refine Below.alloc ?_ (by first | exact Nat.le_refl _ | (simp; done) | (simp; omega) | omega) _)))).mono ?_
    rintro e w1 ⟨rfl, hx⟩
    have hx0 : Ext w w1 := Ext.step (by (repeat (first | exact Below.refl _ _ | assumption | refine Below.drewN ?_ _ | refine Below.drew ?_ | refine Below.setCell ?_ (by first | exact Nat.le_refl _ | (simp; done) | (simp; omega) | omega) _ | refine Below.alloc ?_ (by first | exact Nat.le_refl _ | (simp; done) | (simp; omega) | omega) _))) hx
    go_wp2
    go_ret2
    exact ⟨rfl, hx0⟩
  | true =>
    rw [ra] at RA
    by_cases hl : 2 < la
    · have hP : intP a = (0, false) := by
        have := ha.2.1
        unfold intP; rw [if_neg]; simp; intros; omega
      rw [hP]
      go_enter Tryd.func22, Tryd.ntmps22
      go_wp2_with fail
      refine (RA.out _ (by (repeat (first | exact Below.refl _ _ | assumption | refine Below.drewN ?_ _ | refine Below.drew ?_ | refine Below.setCell ?_ (by first | exact Nat.le_refl _ | (simp; done) | (simp; omega) | omega) _ | refine Below.alloc ?_ (by first | exact Nat.le_refl _ | (simp; done) | (simp; omega) | omega) _)))).mono ?_
      rintro e w1 ⟨rfl, hx⟩
      have hx0 : Ext w w1 := Ext.step (by (repeat (first | exact Below.refl _ _ | assumption | refine Below.drewN ?_ _ | refine Below.drew ?_ | refine Below.setCell ?_ (by first | exact Nat.le_refl _ | (simp; done) | (simp; omega) | omega) _ | refine Below.alloc ?_ (by first | exact Nat.le_refl _ | (simp; done) | (simp; omega) | omega) _))) hx
      have hz_w1 : w.heap.size + 1 ≤ w1.heap.size := Nat.le_trans (by first | omega | (simp; done) | (simp; omega)) hx.size
      have hl_w1_0 : w.heap.size < w1.heap.size := Nat.lt_of_lt_of_le (by omega) hz_w1
      have hk_w1_0 : ∀ o, w1.cell? ⟨w.heap.size, o, none⟩ = _ := fun o => hx.cell (p := ⟨w.heap.size, o, none⟩) (show w.heap.size < _ from (by first | omega | (simp; done) | (simp; omega)))
      have hf_w1_0 : ∀ o, w1.frozen? ⟨w.heap.size, o, none⟩ = _ := fun o => hx.frozen (p := ⟨w.heap.size, o, none⟩) (show w.heap.size < _ from (by first | omega | (simp; done) | (simp; omega)))
      go_wp2
      go_ret2
      exact ⟨rfl, hx0⟩
    · have dl : decide (2 < (la : Int)) = false := by rw [decide_eq_false_iff_not]; omega
      obtain rfl : la = a.d.length := ha.2.1
      have hlen : a.d.length ≤ 2 := by omega
      clear hl
      refine (callsIn_wide (n := 6)).1 ?_
      have RA' := Lib.hid (fun w' (hx : Ext w w') => (callsIn_wide (n := 5)).2 (RA.out w' hx))
      have HA := Lib.hid ha
      have HLEN := Lib.hid hlen
      have hrow0 := ha.2.2
      clear ha RA hlen
      refine callsIn_of_wp_marks Tryd.func22 rfl trivial ?_ rfl
      simp only [Tryd.ntmps22, List.size_toArray, List.length_cons, List.length_nil, Nat.reduceAdd, Nat.reduceSub, Array.replicate_succ, Array.replicate_zero, List.push_toArray, List.append_toArray, List.nil_append, List.cons_append]
      gi_wp2
      refine ⟨trivial, (RA'.out _ (by (repeat (first | exact Below.refl _ _ | assumption | refine Below.drewN ?_ _ | refine Below.drew ?_ | refine Below.setCell ?_ (by first | exact Nat.le_refl _ | (simp; done) | (simp; omega) | omega) _ | refine Below.alloc ?_ (by first | exact Nat.le_refl _ | (simp; done) | (simp; omega) | omega) _)))).mono ?_⟩
      rintro e w1 ⟨rfl, hx⟩
      have hx0 : Ext w w1 := Ext.step (by (repeat (first | exact Below.refl _ _ | assumption | refine Below.drewN ?_ _ | refine Below.drew ?_ | refine Below.setCell ?_ (by first | exact Nat.le_refl _ | (simp; done) | (simp; omega) | omega) _ | refine Below.alloc ?_ (by first | exact Nat.le_refl _ | (simp; done) | (simp; omega) | omega) _))) hx
      have hz_w1 : w.heap.size + 1 ≤ w1.heap.size := Nat.le_trans (by first | omega | (simp; done) | (simp; omega)) hx.size
      have hl_w1_0 : w.heap.size < w1.heap.size := Nat.lt_of_lt_of_le (by omega) hz_w1
      have hk_w1_0 : ∀ o, w1.cell? ⟨w.heap.size, o, none⟩ = _ := fun o => hx.cell (p := ⟨w.heap.size, o, none⟩) (show w.heap.size < _ from (by first | omega | (simp; done) | (simp; omega)))
      have hf_w1_0 : ∀ o, w1.frozen? ⟨w.heap.size, o, none⟩ = _ := fun o => hx.frozen (p := ⟨w.heap.size, o, none⟩) (show w.heap.size < _ from (by first | omega | (simp; done) | (simp; omega)))
      have g0 : w1.cell? ⟨w.heap.size, 0, none⟩ = some (.bool na) := by go_simp
      have g1 : w1.cell? ⟨w.heap.size, 1, none⟩ = some (.slice pa a.d.length ca) := by go_simp
      clear hk_w1_0 hf_w1_0
      gi_wp2
      refine ⟨trivial, (callsIn_wide.2 (num_down pa a.d.length ca _)).mono ?_⟩
      rintro e w2 ⟨rfl, hx2, b0, hb⟩
      have hs2 := hx2.size
      simp at hs2 b0 hb
      have hx3 : Ext w w2 := Ext.step (by (repeat (first | exact Below.refl _ _ | assumption | refine Below.drewN ?_ _ | refine Below.drew ?_ | refine Below.setCell ?_ (by first | exact Nat.le_refl _ | (simp; done) | (simp; omega) | omega) _ | refine Below.alloc ?_ (by first | exact Nat.le_refl _ | (simp; done) | (simp; omega) | omega) _))) hx2
      have e0 : w2.cell? ⟨w.heap.size, 0, none⟩ = some (.bool na) := (hx2.cell (p := ⟨w.heap.size, 0, none⟩) (by simp; omega)).trans (by go_simp)
      have e1 : w2.cell? ⟨w.heap.size, 1, none⟩ = some (.slice pa a.d.length ca) := (hx2.cell (p := ⟨w.heap.size, 1, none⟩) (by simp; omega)).trans (by go_simp)
      have e2 : w2.cell? ⟨w1.heap.size, 0, none⟩ = some (.int .u64 0) := (hx2.cell (p := ⟨w1.heap.size, 0, none⟩) (by simp)).trans (by go_simp)
      have e3 : w2.frozen? ⟨w1.heap.size, 0, none⟩ = false := (hx2.frozen (p := ⟨w1.heap.size, 0, none⟩) (by simp)).trans (by go_simp)
      have hrow := hrow0.ext hx3
      have hpb : ∀ x, pa = some x → 0 < a.d.length → x.block < w.heap.size := by
        intro x hp h0
        obtain ⟨b', o', hp', hlt, _⟩ := hrow0.at h0
        rw [hp] at hp'
        cases hp'
        exact hlt
      clear hx2
      gi_wp2
      refine wpIn_rangeFunc_ownF rfl (by omega) (gf := 62) (lb := #[.pointer (some ⟨w1.heap.size + 1, 0, none⟩)]) rfl trivial (enters_of Tryd.func62 (by kernel_rfl) rfl)
        (down_stops 5 (by omega) (w1.heap.size + 1) ca a.d pa w2 hb b0 hrow) (fun h k => ⟨fun o => (k.1 o).trans (h.1 o), fun z x hx o => (k.2 z x hx o).trans (h.2 z x hx o)⟩)
        (fun W L o o' hL hW ho _ => ⟨fun q => World.cell?_of_block (World.putObj_heap_other (by show w1.heap.size + 1 ≠ L; omega)), fun z x hx q => World.cell?_of_block (World.putObj_heap_other (by have := hpb x hx z; show x.block ≠ L; omega))⟩) (Below.refl _ _) (fun _ => rfl)
        (fun pre W => ((W.cell? ⟨w.heap.size, 0, none⟩ = some (.bool na) ∧ W.cell? ⟨w.heap.size, 1, none⟩ = some (.slice pa a.d.length ca) ∧ W.cell? ⟨w1.heap.size, 0, none⟩ = some (.int .u64 ((accD pre : Nat) : Int)) ∧ W.frozen? ⟨w1.heap.size, 0, none⟩ = false) ∧ Below w.heap.size w W) ∧ w2.heap.size ≤ W.heap.size)
        (fun _ _ _ => False)
        (OwnFrom.and (OwnFrom.and (Own.from (fun s A B row hs hg hr => ⟨cell_kept hs.1 hg hr, cell_kept hs.2.1 hg hr, cell_kept hs.2.2.1 hg hr, (frozen_kept hs.2.2.1 hg hr).trans hs.2.2.2⟩) _) (ownFrom_below (Nat.le_refl _) (by omega))) (fun s A B row hs hg hr => Nat.le_trans hs hg.size))
        (fun _ _ _ _ _ hs _ _ => hs)
        ⟨⟨⟨e0, e1, e2, e3⟩, hx3⟩, Nat.le_refl _⟩
        (fun x => { tmps := #[.agg #[.bool na, .slice pa a.d.length ca], .pointer (some ⟨w.heap.size, 0, none⟩), .int .i64 0, .bool false, .pointer (some ⟨w1.heap.size, 0, none⟩), .int .u32 (x.1 : Int), .agg #[.bool na, .slice pa a.d.length ca], .bool true, .bool false, .bool false, .pointer (some ⟨w.heap.size, 1, none⟩), .slice pa a.d.length ca, .int .i64 (a.d.length : Int), .bool false, .bool false, .pointer (some ⟨w.heap.size, 1, none⟩), .slice pa a.d.length ca, .func (.func 62) #[] #[.pointer (some ⟨w1.heap.size + 1, 0, none⟩)], .int .u32 (x.1 : Int), undef, undef, undef, undef, undef, undef, undef, undef, undef, undef, undef, undef, undef, undef, undef, undef, undef, undef, undef, undef, undef, undef, undef, undef, undef], defers := [] }) ?assign ?body ?done ?stop
      case assign =>
        intro L x W K hK
        gi_wp2
        exact hK
      case body =>
        rintro L pre x W ⟨⟨⟨c0, c1, c2, c3⟩, hB⟩, hz⟩ hpl
        have hx1 := x.2
        have hac : accD pre < 4294967296 := by
          have := accD_lt pre
          have h1 : pre.length ≤ 1 := by have := HLEN.out; omega
          exact Nat.lt_of_lt_of_le this (Nat.pow_le_pow_right (n := 4294967296) (i := pre.length) (j := 1) (by omega) h1)
        have OR := or_u64 (accD pre) x.1 hac hx1
        have SN := Lib.hid (accD_snoc pre x)
        have hWl : w.heap.size < W.heap.size := by omega
        have hWm : w1.heap.size < W.heap.size := by omega
        have hne : w.heap.size ≠ w1.heap.size := by omega
        have hne' : w1.heap.size ≠ w.heap.size := by omega
        clear hpl
        gi_wp2
        refine ⟨KeepsOthers.setCell _ _ _, ⟨fun o => ?_, fun z y hy o => ?_⟩, ⟨⟨?_, ?_, ?_, ?_⟩, ?_⟩, ?_⟩
        · go_simp
        · have hn : w1.heap.size ≠ y.block := by have := hpb y hy z; omega
          have hn' := Ne.symm hn
          go_simp
        · go_simp
        · go_simp
        · rw [SN.out]; go_simp
        · go_simp
        · (repeat (first | exact Below.refl _ _ | assumption | refine Below.drewN ?_ _ | refine Below.drew ?_ | refine Below.setCell ?_ (by first | exact Nat.le_refl _ | (simp; done) | (simp; omega) | omega) _ | refine Below.alloc ?_ (by first | exact Nat.le_refl _ | (simp; done) | (simp; omega) | omega) _))
        · simp; omega
      case done =>
        rintro D xs W hD hS ⟨⟨⟨c0, c1, c2, c3⟩, hB⟩, hz⟩ hK
        have hacc : accD xs = val a.d := by rw [accD_val, hS, List.reverse_reverse]
        have hM64 : val a.d < 18446744073709551616 := by
          have := val_lt hrow0.dig
          exact Nat.lt_of_lt_of_le this (Nat.pow_le_pow_right (n := 4294967296) (i := a.d.length) (j := 2) (by omega) HLEN.out)
        have hsgn : na = a.neg := HA.out.1
        have hzv : a.z = if na then -(val a.d : Int) else val a.d := by unfold Nm.z; rw [hsgn]
        have hpos : na = true → 0 < val a.d := by
          intro h
          refine tight_posD (a.right_iff.1 ra).2.1 ?_
          rcases Nat.eq_zero_or_pos a.d.length with g | g
          · have := (a.right_iff.1 ra).2.2 (List.eq_nil_of_length_eq_zero g)
            rw [hsgn, this] at h; cases h
          · exact g
        have hP : intP a = if decide (-9223372036854775808 ≤ a.z) && decide (a.z ≤ 9223372036854775807) then (a.z, true) else (0, false) := by
          unfold intP
          rw [ra, show decide (a.d.length ≤ 2) = true by simpa using HLEN.out]
          rfl
        rw [hzv] at hP
        rw [hacc] at c2
        obtain ⟨M, HM⟩ : ∃ M, Hid (val a.d = M) := ⟨_, rfl⟩
        rw [HM.out] at c2 hM64 hpos hP
        have HP := Lib.hid hP
        have HK := Lib.hid hK
        clear hP hzv hsgn hacc hS hpb hrow0 hrow dl
        cases na
        · by_cases h63 : M < 9223372036854775808
          · have d1 : decide ((M : Int) < 9223372036854775808) = true := by rw [decide_eq_true_eq]; omega
            have w0 : IntKind.i64.wrap (M : Int) = (M : Int) := wrapI (by omega) (by omega)
            have r : (if (decide (-9223372036854775808 ≤ (if false = true then -(M : Int) else (M : Int))) && decide ((if false = true then -(M : Int) else (M : Int)) ≤ 9223372036854775807)) = true then ((if false = true then -(M : Int) else (M : Int)), true) else (0, false)) = (((M : Int), true) : Int × Bool) := by
              rw [if_pos]; rfl; simp; omega
            have RES := Lib.hid (HP.out.trans r)
            clear r HP
            gi_wp2
            refine ⟨by simp, .inl ⟨_, _, rfl, run_takeDeferred HK.out, ?_⟩⟩
            refine ⟨_, results_tmp2 rfl _ _ _, ?_, hB.trans (belowK_b (w := w) (Nat.le_refl _) W D _ _ (by omega) HK.out rfl rfl)⟩
            rw [RES.out]
            rfl
          · have d1 : decide ((M : Int) < 9223372036854775808) = false := by rw [decide_eq_false_iff_not]; omega
            have r : (if (decide (-9223372036854775808 ≤ (if false = true then -(M : Int) else (M : Int))) && decide ((if false = true then -(M : Int) else (M : Int)) ≤ 9223372036854775807)) = true then ((if false = true then -(M : Int) else (M : Int)), true) else (0, false)) = ((0, false) : Int × Bool) := by
              rw [if_neg]; simp; omega
            have RES := Lib.hid (HP.out.trans r)
            clear r HP
            gi_wp2
            refine ⟨by simp, .inl ⟨_, _, rfl, run_takeDeferred HK.out, ?_⟩⟩
            refine ⟨_, results_tmp2 rfl _ _ _, ?_, hB.trans (belowK_b (w := w) (Nat.le_refl _) W D _ _ (by omega) HK.out rfl rfl)⟩
            rw [RES.out]
            rfl
        · by_cases h63 : M ≤ 9223372036854775808
          · have d1 : decide ((M : Int) ≤ 9223372036854775808) = true := by rw [decide_eq_true_eq]; omega
            have hp := hpos rfl
            have w1 : IntKind.u64.wrap (-(M : Int)) = 18446744073709551616 - (M : Int) := by rw [u64_neg _ (by omega)]; omega
            have w2 : wrap64 (18446744073709551616 - (M : Int)) = -(M : Int) := by
              unfold wrap64
              omega
            have HW := Lib.hid w1
            have HW2 := Lib.hid w2
            clear w1 w2
            have r : (if (decide (-9223372036854775808 ≤ (if true = true then -(M : Int) else (M : Int))) && decide ((if true = true then -(M : Int) else (M : Int)) ≤ 9223372036854775807)) = true then ((if true = true then -(M : Int) else (M : Int)), true) else (0, false)) = ((-(M : Int), true) : Int × Bool) := by
              rw [if_pos]; rfl; simp; omega
            have RES := Lib.hid (HP.out.trans r)
            clear r HP
            gi_wp2
            refine ⟨by simp, .inl ⟨_, _, rfl, run_takeDeferred HK.out, ?_⟩⟩
            refine ⟨_, results_tmp2 rfl _ _ _, ?_, hB.trans (belowK_b (w := w) (Nat.le_refl _) W D _ _ (by omega) HK.out rfl rfl)⟩
            have e : wrap64 (IntKind.u64.wrap (-(M : Int))) = -(M : Int) := by rw [HW.out, HW2.out]
            rw [RES.out]
            exact congrArg (fun z => Ending.returned (.tuple #[.int .i64 z, .bool true])) e
          · have d1 : decide ((M : Int) ≤ 9223372036854775808) = false := by rw [decide_eq_false_iff_not]; omega
            have r : (if (decide (-9223372036854775808 ≤ (if true = true then -(M : Int) else (M : Int))) && decide ((if true = true then -(M : Int) else (M : Int)) ≤ 9223372036854775807)) = true then ((if true = true then -(M : Int) else (M : Int)), true) else (0, false)) = ((0, false) : Int × Bool) := by
              rw [if_neg]; simp; omega
            have RES := Lib.hid (HP.out.trans r)
            clear r HP
            gi_wp2
            refine ⟨by simp, .inl ⟨_, _, rfl, run_takeDeferred HK.out, ?_⟩⟩
            refine ⟨_, results_tmp2 rfl _ _ _, ?_, hB.trans (belowK_b (w := w) (Nat.le_refl _) W D _ _ (by omega) HK.out rfl rfl)⟩
            rw [RES.out]
            rfl
      case stop =>
        rintro D c' pre W _ _ h _
        exact h.elim
end Go.Proofs.YtdaaknfmodbjcaaDoor

namespace Go.Proofs.YtdaaknfmodbjcaaDoor

theorem val_set (o : List Nat) (j d q : Nat) (hj : j < o.length) (hq : o[j]?.getD 0 = q) : val (o.set j d) + 4294967296 ^ j * q = val o + 4294967296 ^ j * d := by
  induction o generalizing j with
  | nil => simp at hj
  | cons x o ih =>
    cases j with
    | zero =>
      simp only [List.getElem?_cons_zero, Option.getD_some] at hq
      subst hq
      simp only [List.set_cons_zero, val_cons, Nat.pow_zero, Nat.one_mul]
      omega
    | succ j =>
      simp only [List.getElem?_cons_succ] at hq
      have h := ih j (by simpa using hj) hq
      simp only [List.set_cons_succ, val_cons, Nat.pow_succ]
      generalize 4294967296 ^ j = p at *
      have e1 : p * 4294967296 * q = 4294967296 * (p * q) := by rw [Nat.mul_comm p, Nat.mul_assoc]
      have e2 : p * 4294967296 * d = 4294967296 * (p * d) := by rw [Nat.mul_comm p, Nat.mul_assoc]
      rw [e1, e2]
      generalize p * q = u at *
      generalize p * d = v at *
      omega
theorem Dig.set {o : List Nat} (h : Dig o) (j d : Nat) (hd : d < 4294967296) : Dig (o.set j d) := by
  intro x hx
  rcases List.mem_or_eq_of_mem_set hx with hx | rfl
  · exact h x hx
  · exact hd
theorem getD_set_ne {o : List Nat} {i j d : Nat} (h : i ≠ j) : (o.set i d)[j]?.getD 0 = o[j]?.getD 0 := by rw [List.getElem?_set_ne h]

/-- From place m on all digits are 0. -/
def Zeros (o : List Nat) (m : Nat) : Prop := ∀ j, m ≤ j → o[j]?.getD 0 = 0
theorem Zeros.replicate (n m : Nat) : Zeros (List.replicate n 0) m := by
  intro j _
  rw [List.getElem?_replicate]
  split <;> rfl
theorem Zeros.set {o : List Nat} {m j d : Nat} (h : Zeros o m) (hj : j < m) : Zeros (o.set j d) m := by
  intro i hi
  rw [getD_set_ne (by omega)]
  exact h i hi
theorem Zeros.mono {o : List Nat} {m n : Nat} (h : Zeros o m) (hm : m ≤ n) : Zeros o n := fun j hj => h j (by omega)

theorem val_take_next (d : List Nat) (k x : Nat) (hx : d[k]?.getD 0 = x) : val (d.take (k + 1)) = val (d.take k) + 4294967296 ^ k * x := by
  subst hx
  by_cases h : k < d.length
  · rw [List.take_succ_eq_append_getElem h, val_append]
    have : d[k]?.getD 0 = d[k] := by rw [List.getElem?_eq_getElem h]; rfl
    rw [this]
    simp only [List.length_take, Nat.min_eq_left (Nat.le_of_lt h), val_cons, val_nil]
    simp
  · rw [List.take_of_length_le (by omega), List.take_of_length_le (by omega), List.getElem?_eq_none (by omega)]
    simp

/-- The invariant of a product: i digits of a are done, and of the next one, x, k digits of b; c is carried. -/
def MulInv (a b o : List Nat) (i k x c : Nat) : Prop :=
  Dig o ∧ c < 4294967296 ∧ val o + 4294967296 ^ (i + k) * c = val (a.take i) * val b + x * (4294967296 ^ i * val (b.take k))

theorem MulInv.step {a b o : List Nat} {i k x c y q m : Nat} (h : MulInv a b o i k x c) (hj : i + k < o.length) (hx : x < 4294967296) (hy : b[k]?.getD 0 = y) (hyd : y < 4294967296) (hq : o[i + k]?.getD 0 = q) (hqd : q < 4294967296) (hm : x * y = m) :
    MulInv a b (o.set (i + k) ((c + (q + m)) % 4294967296)) i (k + 1) x ((c + (q + m)) / 4294967296) := by
  obtain ⟨h1, h2, h3⟩ := h
  have hb : m ≤ 4294967295 * 4294967295 := by rw [← hm]; exact Nat.mul_le_mul (by omega) (by omega)
  refine ⟨h1.set _ _ (Nat.mod_lt _ (by decide)), by omega, ?_⟩
  have hv := val_set o (i + k) ((c + (q + m)) % 4294967296) q hj hq
  have hd := Nat.mod_add_div (c + (q + m)) 4294967296
  rw [val_take_next b k y hy]
  generalize (c + (q + m)) % 4294967296 = d at *
  generalize (c + (q + m)) / 4294967296 = e at *
  have hp : (4294967296 : Nat) ^ (i + (k + 1)) = 4294967296 ^ (i + k) * 4294967296 := by rw [← Nat.add_assoc, Nat.pow_succ]
  have hp2 : x * (4294967296 ^ i * (val (b.take k) + 4294967296 ^ k * y)) = x * (4294967296 ^ i * val (b.take k)) + 4294967296 ^ (i + k) * m := by
    rw [Nat.mul_add, Nat.mul_add, ← hm, Nat.pow_add]
    congr 1
    generalize 4294967296 ^ i = u
    generalize 4294967296 ^ k = v
    rw [Nat.mul_left_comm x u, Nat.mul_assoc u v, Nat.mul_left_comm x v]
  rw [hp, hp2]
  generalize val (o.set (i + k) d) = v' at *
  generalize 4294967296 ^ (i + k) = p at *
  generalize x * (4294967296 ^ i * val (b.take k)) = r at *
  generalize val (a.take i) * val b = s at *
  have h4 : p * d + p * 4294967296 * e = p * c + (p * q + p * m) := by
    rw [Nat.mul_assoc, ← Nat.mul_add, hd, Nat.mul_add, Nat.mul_add]
  generalize p * 4294967296 * e = w1 at *
  generalize p * d = w2 at *
  generalize p * c = w3 at *
  generalize p * q = w4 at *
  generalize p * m = w5 at *
  omega
theorem MulInv.start {a b o : List Nat} {i x : Nat} (hd : Dig o) (h : val o = val (a.take i) * val b) : MulInv a b o i 0 x 0 :=
  ⟨hd, by decide, by simp [val, h]⟩
/-- The row of one digit is at its end: what is carried goes into a new place. -/
theorem MulInv.finish {a b o : List Nat} {i k x c : Nat} (h : MulInv a b o i k x c) (hk : b.length ≤ k) (hx : a[i]?.getD 0 = x) (hz : o[i + k]?.getD 0 = 0) (hj : i + k < o.length) :
    Dig (o.set (i + k) c) ∧ val (o.set (i + k) c) = val (a.take (i + 1)) * val b := by
  obtain ⟨h1, h2, h3⟩ := h
  refine ⟨h1.set _ _ h2, ?_⟩
  have hv := val_set o (i + k) c 0 hj hz
  rw [List.take_of_length_le hk] at h3
  rw [val_take_next a i x hx, Nat.add_mul, Nat.mul_comm (4294967296 ^ i) x, Nat.mul_assoc]
  omega
theorem MulInv.done {a b o : List Nat} {i k x : Nat} (h : MulInv a b o i k x 0) (hk : b.length ≤ k) (hx : a[i]?.getD 0 = x) : val o = val (a.take (i + 1)) * val b := by
  obtain ⟨h1, h2, h3⟩ := h
  rw [List.take_of_length_le hk] at h3
  rw [val_take_next a i x hx, Nat.add_mul, Nat.mul_comm (4294967296 ^ i) x, Nat.mul_assoc]
  omega
end Go.Proofs.YtdaaknfmodbjcaaDoor
