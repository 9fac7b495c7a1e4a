/- Contract: root.Of. | Plain: division bit by bit. -/
import Derived.Test.YtighahcllmoajaaGreatJ27
import Derived.Test.YtighahcllmoajaaGreatJ28
import Derived.Test.YtighahcllmoajaaGreatJ23
import Derived.Test.YtighahcllmoajaaGreatJ17
import Derived.Deep.DeepCutAuto
set_option linter.unusedVariables false
set_option linter.unusedSimpArgs false

namespace Go.Proofs.YtighahcllmoajaaGreat
open Go.RowKit
attribute [local go_sem] Gives givesU

/-- A root and a bool are returned. -/
def RetRt (w : World) (r : Rt × Bool) (e : Ending) (w' : World) : Prop :=
  ∃ n p l c m q k d, e = .returned (.tuple #[.agg #[.int .i64 r.1.add, .int .i64 r.1.s, .bool n, .slice p l c, .bool m, .slice q k d], .bool r.2]) ∧ NR w' n p l c r.1.n ∧ NR w' m q k d r.1.d ∧ Ext w w'
theorem run_maxD {P : Program} {w : World} (ts : Array TypeId) (t : TypeId) (x y : Int) : (Builtin.max_ ts t #[.int .i64 x, .int .i64 y]).run P w = .ok (.int .i64 (max x y)) w := by
  have h : (Builtin.max_ ts t #[.int .i64 x, .int .i64 y]).run P w = .ok (.int .i64 (if x < y then y else x)) w := by
    simp [Builtin.max_, Builtin.max2]
  rw [h]
  congr 2
  split <;> omega
theorem num_rightB (a : Nm) (b : Bool) (hb : a.right = b) (n : Bool) (p : Option Addr) (l c : Nat) (w : World) (h : NR w n p l c a) :
    Calls Tryz.prog 71 #[.agg #[.bool n, .slice p l c]] w fun e w' => e = .returned (.bool b) ∧ Ext w w' := by
  subst hb
  exact num_Right a n p l c w h
theorem root_signB (a : Nm) (s : Int) (hs : sgn a.z = s) (n : Bool) (p : Option Addr) (l c : Nat) (w : World) (h : NR w n p l c a) (ra : a.right = true) :
    Calls Tryz.prog 72 #[.agg #[.bool n, .slice p l c]] w fun e w' => e = .returned (.int .i64 s) ∧ Ext w w' := by
  subst hs
  exact root_sign a n p l c w h ra
/-- The variables of Of: two numbers, and the result. -/
def OB (w W : World) (n1 : Bool) (p1 : Option Addr) (l1 c1 : Nat) (n2 : Bool) (p2 : Option Addr) (l2 c2 : Nat) : Prop :=
  Ext w W ∧ w.heap.size + 3 ≤ W.heap.size ∧ (W.cell? ⟨w.heap.size, 0, none⟩ = some (.bool n1) ∧ W.cell? ⟨w.heap.size, 1, none⟩ = some (.slice p1 l1 c1)) ∧ (W.cell? ⟨w.heap.size + 1, 0, none⟩ = some (.bool n2) ∧ W.cell? ⟨w.heap.size + 1, 1, none⟩ = some (.slice p2 l2 c2)) ∧
  (∀ o, W.frozen? ⟨w.heap.size, o, none⟩ = false) ∧ (∀ o, W.frozen? ⟨w.heap.size + 1, o, none⟩ = false) ∧ W.heap[w.heap.size + 1 + 1]? = some (.cells #[.int .i64 0, .int .i64 0, .bool false, .slice none 0 0, .bool false, .slice none 0 0] 38)
theorem OB.ext {w W W' : World} {n1 n2 : Bool} {p1 p2 : Option Addr} {l1 c1 l2 c2 : Nat} (h : OB w W n1 p1 l1 c1 n2 p2 l2 c2) (hx : Ext W W') : OB w W' n1 p1 l1 c1 n2 p2 l2 c2 := by
  obtain ⟨h0, h1, ⟨h2, h3⟩, ⟨h4, h5⟩, h6, h7, h8⟩ := h
  have hs := hx.size
  have hc : ∀ b o, b < w.heap.size + 3 → W'.cell? ⟨b, o, none⟩ = W.cell? ⟨b, o, none⟩ := fun b o hb => hx.cell (p := ⟨b, o, none⟩) (show b < W.heap.size by omega)
  have hf : ∀ b o, b < w.heap.size + 3 → W'.frozen? ⟨b, o, none⟩ = W.frozen? ⟨b, o, none⟩ := fun b o hb => hx.frozen (p := ⟨b, o, none⟩) (show b < W.heap.size by omega)
  refine ⟨Ext.step h0 hx, by omega, ⟨?_, ?_⟩, ⟨?_, ?_⟩, fun o => ?_, fun o => ?_, ?_⟩
  · rw [hc _ _ (by omega)]; exact h2
  · rw [hc _ _ (by omega)]; exact h3
  · rw [hc _ _ (by omega)]; exact h4
  · rw [hc _ _ (by omega)]; exact h5
  · rw [hf _ _ (by omega)]; exact h6 o
  · rw [hf _ _ (by omega)]; exact h7 o
  · rw [hx.block _ (by omega)]; exact h8
set_option maxRecDepth 100000 in
set_option maxHeartbeats 4000000 in
theorem root_Of (add s : Int) (n d : Nm) (nn nd : Bool) (pn pd : Option Addr) (ln kn ld cd : Nat) (w : World) (hn : NR w nn pn ln kn n) (hd : NR w nd pd ld cd d) :
    Calls Tryz.prog 28 #[.int .i64 add, .int .i64 s, .agg #[.bool nn, .slice pn ln kn], .agg #[.bool nd, .slice pd ld cd]] w (RetRt w (ofP add s n d)) := by
  have NO : ofBad s n d = true → ∀ W', Ext w W' → RetRt w (ofP add s n d) (.returned (.tuple #[.agg #[.int .i64 0, .int .i64 0, .bool false, .slice none 0 0, .bool false, .slice none 0 0], .bool false])) W' := by
    intro h W' hx
    have : ofP add s n d = (Rt.no, false) := by unfold ofP; rw [h, if_pos rfl]
    rw [this]
    exact ⟨false, none, 0, 0, false, none, 0, 0, rfl, NR.zero _, NR.zero _, hx⟩
  replace NO := Lib.hid NO
  have HN := Lib.hid hn
  have HD := Lib.hid hd
  have HNN := Lib.hid hn.1
  clear hn hd
  by_cases s1 : s < -1
  · have d1 : decide (s < -1) = true := by simpa using s1
    have B : Hid (ofBad s n d = true) := Lib.hid (by simp [ofBad, s1])
    go_enter Tryz.func28, Tryz.ntmps28
    go_upto_region 1 with (fail)
    refine wp_know (fun W => OB w W nn pn ln kn nd pd ld cd) ?_ ?_
    · unfold OB
      refine ⟨?_, ?_, ?_, ?_, ?_, ?_, ?_⟩
      · exact bxx
      · simp
      · go_simp
      · go_simp
      · intro o; go_simp
      · intro o; go_simp
      · repeat (first | exact heap_new (by first | rfl | (simp; done)) | refine heap_old ?_)
    rintro W0 ob
    obtain ⟨ex, hs, ⟨a0, a1⟩, ⟨b0, b1⟩, f0, f1, rb⟩ := id ob
    refine wp_FSc (fun W => cn W w.heap.size 0 nn pn ln kn ∧ cn W (w.heap.size + 1) 0 nd pd ld cd) ?_
    repeat (first | refine F_s ?_ | refine F_r ?_)
    rintro W1 ⟨hx, _⟩
    replace ob := ob.ext hx
    clear ex hs a0 a1 b0 b1 f0 f1 rb
    clear hx
    obtain ⟨ex, hs, ⟨a0, a1⟩, ⟨b0, b1⟩, f0, f1, rb⟩ := id ob
    have hl0 : w.heap.size < W1.heap.size := by omega
    have hl1 : w.heap.size + 1 < W1.heap.size := by omega
    have hl2 : w.heap.size + 2 < W1.heap.size := by omega
    go_upto_region 2 with (fail)
    refine wp_GR (w.heap.size + 1 + 1) (.cells #[.int .i64 0, .int .i64 0, .bool false, .slice none 0 0, .bool false, .slice none 0 0] 38) (fun W => Ext w W ∧ W1.heap.size ≤ W.heap.size ∧ W.cell? ⟨w.heap.size, 0, none⟩ = some (.bool nn) ∧ W.cell? ⟨w.heap.size, 1, none⟩ = some (.slice pn ln kn)) ?_
    intro hSM hRKS
    repeat (first | refine F_s ?_ | refine F_r ?_)
    refine F_w (fun W => _) (fun W hW => hW) ?_
    repeat (first | refine F_s ?_ | refine F_r ?_)
    rintro W3 ⟨⟨⟨hx, hz, hc⟩, hb⟩, _⟩
    obtain ⟨⟨c0, c1, c2, c3, c4, c5⟩, _, hl⟩ := cells6 hb
    clear hc hb
    go_wp2
    refine bodyPost_ret (v := .tuple #[.agg #[.int .i64 0, .int .i64 0, .bool false, .slice none 0 0, .bool false, .slice none 0 0], .bool false]) (by simp only [results, Tryz.results28]; go_simp) rfl ?_
    exact NO.out B.out _ hx
  have d1 : decide (s < -1) = false := by simpa using s1
  by_cases s2 : 1 < s
  · have d2 : decide (1 < s) = true := by simpa using s2
    have B : Hid (ofBad s n d = true) := Lib.hid (by simp [ofBad, s2])
    go_enter Tryz.func28, Tryz.ntmps28
    go_upto_region 1 with (fail)
    refine wp_know (fun W => OB w W nn pn ln kn nd pd ld cd) ?_ ?_
    · unfold OB
      refine ⟨?_, ?_, ?_, ?_, ?_, ?_, ?_⟩
      · exact bxx
      · simp
      · go_simp
      · go_simp
      · intro o; go_simp
      · intro o; go_simp
      · repeat (first | exact heap_new (by first | rfl | (simp; done)) | refine heap_old ?_)
    rintro W0 ob
    obtain ⟨ex, hs, ⟨a0, a1⟩, ⟨b0, b1⟩, f0, f1, rb⟩ := id ob
    refine wp_FSc (fun W => cn W w.heap.size 0 nn pn ln kn ∧ cn W (w.heap.size + 1) 0 nd pd ld cd) ?_
    repeat (first | refine F_s ?_ | refine F_r ?_)
    rintro W1 ⟨hx, _⟩
    replace ob := ob.ext hx
    clear ex hs a0 a1 b0 b1 f0 f1 rb
    clear hx
    obtain ⟨ex, hs, ⟨a0, a1⟩, ⟨b0, b1⟩, f0, f1, rb⟩ := id ob
    have hl0 : w.heap.size < W1.heap.size := by omega
    have hl1 : w.heap.size + 1 < W1.heap.size := by omega
    have hl2 : w.heap.size + 2 < W1.heap.size := by omega
    go_upto_region 2 with (fail)
    refine wp_GR (w.heap.size + 1 + 1) (.cells #[.int .i64 0, .int .i64 0, .bool false, .slice none 0 0, .bool false, .slice none 0 0] 38) (fun W => Ext w W ∧ W1.heap.size ≤ W.heap.size ∧ W.cell? ⟨w.heap.size, 0, none⟩ = some (.bool nn) ∧ W.cell? ⟨w.heap.size, 1, none⟩ = some (.slice pn ln kn)) ?_
    intro hSM hRKS
    repeat (first | refine F_s ?_ | refine F_r ?_)
    refine F_w (fun W => _) (fun W hW => hW) ?_
    repeat (first | refine F_s ?_ | refine F_r ?_)
    rintro W3 ⟨⟨⟨hx, hz, hc⟩, hb⟩, _⟩
    obtain ⟨⟨c0, c1, c2, c3, c4, c5⟩, _, hl⟩ := cells6 hb
    clear hc hb
    go_wp2
    refine bodyPost_ret (v := .tuple #[.agg #[.int .i64 0, .int .i64 0, .bool false, .slice none 0 0, .bool false, .slice none 0 0], .bool false]) (by simp only [results, Tryz.results28]; go_simp) rfl ?_
    exact NO.out B.out _ hx
  have d2 : decide (1 < s) = false := by simpa using s2
  cases rn : n.right with
  | false =>
    have B : Hid (ofBad s n d = true) := Lib.hid (by simp [ofBad, rn])
    go_enter Tryz.func28, Tryz.ntmps28
    go_upto_region 1 with (fail)
    refine wp_know (fun W => OB w W nn pn ln kn nd pd ld cd) ?_ ?_
    · unfold OB
      refine ⟨?_, ?_, ?_, ?_, ?_, ?_, ?_⟩
      · exact bxx
      · simp
      · go_simp
      · go_simp
      · intro o; go_simp
      · intro o; go_simp
      · repeat (first | exact heap_new (by first | rfl | (simp; done)) | refine heap_old ?_)
    rintro W0 ob
    obtain ⟨ex, hs, ⟨a0, a1⟩, ⟨b0, b1⟩, f0, f1, rb⟩ := id ob
    refine wp_FSc (fun W => cn W w.heap.size 0 nn pn ln kn ∧ cn W (w.heap.size + 1) 0 nd pd ld cd) ?_
    repeat (first | refine F_s ?_ | refine F_r ?_)
    refine F_c (.bool false) (fun W hW => num_rightB n _ rn _ _ _ _ W ((HN.out.ext ex).ext hW.1)) ?_
    repeat (first | refine F_s ?_ | refine F_r ?_)
    rintro W1 ⟨hx, _⟩
    replace ob := ob.ext hx
    clear ex hs a0 a1 b0 b1 f0 f1 rb
    clear hx
    obtain ⟨ex, hs, ⟨a0, a1⟩, ⟨b0, b1⟩, f0, f1, rb⟩ := id ob
    have hl0 : w.heap.size < W1.heap.size := by omega
    have hl1 : w.heap.size + 1 < W1.heap.size := by omega
    have hl2 : w.heap.size + 2 < W1.heap.size := by omega
    go_upto_region 2 with (fail)
    refine wp_GR (w.heap.size + 1 + 1) (.cells #[.int .i64 0, .int .i64 0, .bool false, .slice none 0 0, .bool false, .slice none 0 0] 38) (fun W => Ext w W ∧ W1.heap.size ≤ W.heap.size ∧ W.cell? ⟨w.heap.size, 0, none⟩ = some (.bool nn) ∧ W.cell? ⟨w.heap.size, 1, none⟩ = some (.slice pn ln kn)) ?_
    intro hSM hRKS
    repeat (first | refine F_s ?_ | refine F_r ?_)
    refine F_w (fun W => _) (fun W hW => hW) ?_
    repeat (first | refine F_s ?_ | refine F_r ?_)
    rintro W3 ⟨⟨⟨hx, hz, hc⟩, hb⟩, _⟩
    obtain ⟨⟨c0, c1, c2, c3, c4, c5⟩, _, hl⟩ := cells6 hb
    clear hc hb
    go_wp2
    refine bodyPost_ret (v := .tuple #[.agg #[.int .i64 0, .int .i64 0, .bool false, .slice none 0 0, .bool false, .slice none 0 0], .bool false]) (by simp only [results, Tryz.results28]; go_simp) rfl ?_
    exact NO.out B.out _ hx
  | true =>
  cases rd : d.right with
  | false =>
    have B : Hid (ofBad s n d = true) := Lib.hid (by simp [ofBad, rd])
    go_enter Tryz.func28, Tryz.ntmps28
    go_upto_region 1 with (fail)
    refine wp_know (fun W => OB w W nn pn ln kn nd pd ld cd) ?_ ?_
    · unfold OB
      refine ⟨?_, ?_, ?_, ?_, ?_, ?_, ?_⟩
      · exact bxx
      · simp
      · go_simp
      · go_simp
      · intro o; go_simp
      · intro o; go_simp
      · repeat (first | exact heap_new (by first | rfl | (simp; done)) | refine heap_old ?_)
    rintro W0 ob
    obtain ⟨ex, hs, ⟨a0, a1⟩, ⟨b0, b1⟩, f0, f1, rb⟩ := id ob
    refine wp_FSc (fun W => cn W w.heap.size 0 nn pn ln kn ∧ cn W (w.heap.size + 1) 0 nd pd ld cd) ?_
    repeat (first | refine F_s ?_ | refine F_r ?_)
    refine F_c (.bool true) (fun W hW => num_rightB n _ rn _ _ _ _ W ((HN.out.ext ex).ext hW.1)) ?_
    repeat (first | refine F_s ?_ | refine F_r ?_)
    refine F_c (.bool false) (fun W hW => num_rightB d _ rd _ _ _ _ W ((HD.out.ext ex).ext hW.1)) ?_
    repeat (first | refine F_s ?_ | refine F_r ?_)
    rintro W1 ⟨hx, _⟩
    replace ob := ob.ext hx
    clear ex hs a0 a1 b0 b1 f0 f1 rb
    clear hx
    obtain ⟨ex, hs, ⟨a0, a1⟩, ⟨b0, b1⟩, f0, f1, rb⟩ := id ob
    have hl0 : w.heap.size < W1.heap.size := by omega
    have hl1 : w.heap.size + 1 < W1.heap.size := by omega
    have hl2 : w.heap.size + 2 < W1.heap.size := by omega
    go_upto_region 2 with (fail)
    refine wp_GR (w.heap.size + 1 + 1) (.cells #[.int .i64 0, .int .i64 0, .bool false, .slice none 0 0, .bool false, .slice none 0 0] 38) (fun W => Ext w W ∧ W1.heap.size ≤ W.heap.size ∧ W.cell? ⟨w.heap.size, 0, none⟩ = some (.bool nn) ∧ W.cell? ⟨w.heap.size, 1, none⟩ = some (.slice pn ln kn)) ?_
    intro hSM hRKS
    repeat (first | refine F_s ?_ | refine F_r ?_)
    refine F_w (fun W => _) (fun W hW => hW) ?_
    repeat (first | refine F_s ?_ | refine F_r ?_)
    rintro W3 ⟨⟨⟨hx, hz, hc⟩, hb⟩, _⟩
    obtain ⟨⟨c0, c1, c2, c3, c4, c5⟩, _, hl⟩ := cells6 hb
    clear hc hb
    go_wp2
    refine bodyPost_ret (v := .tuple #[.agg #[.int .i64 0, .int .i64 0, .bool false, .slice none 0 0, .bool false, .slice none 0 0], .bool false]) (by simp only [results, Tryz.results28]; go_simp) rfl ?_
    exact NO.out B.out _ hx
  | true =>
  cases nn with
  | true =>
    have B : Hid (ofBad s n d = true) := Lib.hid (by simp [ofBad, ← HNN.out])
    go_enter Tryz.func28, Tryz.ntmps28
    go_upto_region 1 with (fail)
    refine wp_know (fun W => OB w W true pn ln kn nd pd ld cd) ?_ ?_
    · unfold OB
      refine ⟨?_, ?_, ?_, ?_, ?_, ?_, ?_⟩
      · exact bxx
      · simp
      · go_simp
      · go_simp
      · intro o; go_simp
      · intro o; go_simp
      · repeat (first | exact heap_new (by first | rfl | (simp; done)) | refine heap_old ?_)
    rintro W0 ob
    obtain ⟨ex, hs, ⟨a0, a1⟩, ⟨b0, b1⟩, f0, f1, rb⟩ := id ob
    refine wp_FSc (fun W => cn W w.heap.size 0 true pn ln kn ∧ cn W (w.heap.size + 1) 0 nd pd ld cd) ?_
    repeat (first | refine F_s ?_ | refine F_r ?_)
    refine F_c (.bool true) (fun W hW => num_rightB n _ rn _ _ _ _ W ((HN.out.ext ex).ext hW.1)) ?_
    repeat (first | refine F_s ?_ | refine F_r ?_)
    refine F_c (.bool true) (fun W hW => num_rightB d _ rd _ _ _ _ W ((HD.out.ext ex).ext hW.1)) ?_
    repeat (first | refine F_s ?_ | refine F_r ?_)
    rintro W1 ⟨hx, _⟩
    replace ob := ob.ext hx
    clear ex hs a0 a1 b0 b1 f0 f1 rb
    clear hx
    obtain ⟨ex, hs, ⟨a0, a1⟩, ⟨b0, b1⟩, f0, f1, rb⟩ := id ob
    have hl0 : w.heap.size < W1.heap.size := by omega
    have hl1 : w.heap.size + 1 < W1.heap.size := by omega
    have hl2 : w.heap.size + 2 < W1.heap.size := by omega
    go_upto_region 2 with (fail)
    refine wp_GR (w.heap.size + 1 + 1) (.cells #[.int .i64 0, .int .i64 0, .bool false, .slice none 0 0, .bool false, .slice none 0 0] 38) (fun W => Ext w W ∧ W1.heap.size ≤ W.heap.size ∧ W.cell? ⟨w.heap.size, 0, none⟩ = some (.bool true) ∧ W.cell? ⟨w.heap.size, 1, none⟩ = some (.slice pn ln kn)) ?_
    intro hSM hRKS
    repeat (first | refine F_s ?_ | refine F_r ?_)
    refine F_w (fun W => _) (fun W hW => hW) ?_
    repeat (first | refine F_s ?_ | refine F_r ?_)
    rintro W3 ⟨⟨⟨hx, hz, hc⟩, hb⟩, _⟩
    obtain ⟨⟨c0, c1, c2, c3, c4, c5⟩, _, hl⟩ := cells6 hb
    clear hc hb
    go_wp2
    refine bodyPost_ret (v := .tuple #[.agg #[.int .i64 0, .int .i64 0, .bool false, .slice none 0 0, .bool false, .slice none 0 0], .bool false]) (by simp only [results, Tryz.results28]; go_simp) rfl ?_
    exact NO.out B.out _ hx
  | false =>
  obtain ⟨sg, SG⟩ : ∃ x, Hid (sgn d.z = x) := ⟨_, rfl⟩
  have bsg := sgn_bd d.z
  rw [SG.out] at bsg
  have hsg : sg ≤ 0 ↔ d.z ≤ 0 := by
    rw [← SG.out]
    unfold sgn cmpZ
    split
    · omega
    · split <;> omega
  by_cases dz : sg ≤ 0
  · have d3 : decide (sg ≤ 0) = true := by simpa using dz
    have B : Hid (ofBad s n d = true) := Lib.hid (by simp [ofBad, hsg.1 dz])
    clear hsg
    go_enter Tryz.func28, Tryz.ntmps28
    go_upto_region 1 with (fail)
    refine wp_know (fun W => OB w W false pn ln kn nd pd ld cd) ?_ ?_
    · unfold OB
      refine ⟨?_, ?_, ?_, ?_, ?_, ?_, ?_⟩
      · exact bxx
      · simp
      · go_simp
      · go_simp
      · intro o; go_simp
      · intro o; go_simp
      · repeat (first | exact heap_new (by first | rfl | (simp; done)) | refine heap_old ?_)
    rintro W0 ob
    obtain ⟨ex, hs, ⟨a0, a1⟩, ⟨b0, b1⟩, f0, f1, rb⟩ := id ob
    refine wp_FSc (fun W => cn W w.heap.size 0 false pn ln kn ∧ cn W (w.heap.size + 1) 0 nd pd ld cd) ?_
    repeat (first | refine F_s ?_ | refine F_r ?_)
    refine F_c (.bool true) (fun W hW => num_rightB n _ rn _ _ _ _ W ((HN.out.ext ex).ext hW.1)) ?_
    repeat (first | refine F_s ?_ | refine F_r ?_)
    refine F_c (.bool true) (fun W hW => num_rightB d _ rd _ _ _ _ W ((HD.out.ext ex).ext hW.1)) ?_
    repeat (first | refine F_s ?_ | refine F_r ?_)
    refine F_c (.int .i64 sg) (fun W hW => root_signB d _ SG.out _ _ _ _ W ((HD.out.ext ex).ext hW.1) rd) ?_
    repeat (first | refine F_s ?_ | refine F_r ?_)
    rintro W1 ⟨hx, _⟩
    replace ob := ob.ext hx
    clear ex hs a0 a1 b0 b1 f0 f1 rb
    clear hx
    obtain ⟨ex, hs, ⟨a0, a1⟩, ⟨b0, b1⟩, f0, f1, rb⟩ := id ob
    have hl0 : w.heap.size < W1.heap.size := by omega
    have hl1 : w.heap.size + 1 < W1.heap.size := by omega
    have hl2 : w.heap.size + 2 < W1.heap.size := by omega
    go_upto_region 2 with (fail)
    refine wp_GR (w.heap.size + 1 + 1) (.cells #[.int .i64 0, .int .i64 0, .bool false, .slice none 0 0, .bool false, .slice none 0 0] 38) (fun W => Ext w W ∧ W1.heap.size ≤ W.heap.size ∧ W.cell? ⟨w.heap.size, 0, none⟩ = some (.bool false) ∧ W.cell? ⟨w.heap.size, 1, none⟩ = some (.slice pn ln kn)) ?_
    intro hSM hRKS
    repeat (first | refine F_s ?_ | refine F_r ?_)
    refine F_w (fun W => _) (fun W hW => hW) ?_
    repeat (first | refine F_s ?_ | refine F_r ?_)
    rintro W3 ⟨⟨⟨hx, hz, hc⟩, hb⟩, _⟩
    obtain ⟨⟨c0, c1, c2, c3, c4, c5⟩, _, hl⟩ := cells6 hb
    clear hc hb
    go_wp2
    refine bodyPost_ret (v := .tuple #[.agg #[.int .i64 0, .int .i64 0, .bool false, .slice none 0 0, .bool false, .slice none 0 0], .bool false]) (by simp only [results, Tryz.results28]; go_simp) rfl ?_
    exact NO.out B.out _ hx
  have d3 : decide (sg ≤ 0) = false := by simpa using dz
  have dp : 0 < d.z := by omega
  have hb : ofBad s n d = false := ofBad_of (by omega) (by omega) rn rd HNN.out.symm dp
  have HB := Lib.hid hb
  have DP := Lib.hid dp
  clear hsg dz hb dp
  by_cases s0 : s = 0
  · have P : Hid (ofP add s n d = (⟨add, 0, zero, ofZ 1⟩, true)) := Lib.hid (by unfold ofP; rw [HB.out, if_neg (by simp), if_pos (.inl s0)])
    have d4 : (s == 0) = true := by simpa using s0
    clear s0
    go_enter Tryz.func28, Tryz.ntmps28
    go_upto_region 1 with (fail)
    refine wp_know (fun W => OB w W false pn ln kn nd pd ld cd) ?_ ?_
    · unfold OB
      refine ⟨?_, ?_, ?_, ?_, ?_, ?_, ?_⟩
      · exact bxx
      · simp
      · go_simp
      · go_simp
      · intro o; go_simp
      · intro o; go_simp
      · repeat (first | exact heap_new (by first | rfl | (simp; done)) | refine heap_old ?_)
    rintro W0 ob
    obtain ⟨ex, hs, ⟨a0, a1⟩, ⟨b0, b1⟩, f0, f1, rb⟩ := id ob
    refine wp_FSc (fun W => cn W w.heap.size 0 false pn ln kn ∧ cn W (w.heap.size + 1) 0 nd pd ld cd) ?_
    repeat (first | refine F_s ?_ | refine F_r ?_)
    refine F_c (.bool true) (fun W hW => num_rightB n _ rn _ _ _ _ W ((HN.out.ext ex).ext hW.1)) ?_
    repeat (first | refine F_s ?_ | refine F_r ?_)
    refine F_c (.bool true) (fun W hW => num_rightB d _ rd _ _ _ _ W ((HD.out.ext ex).ext hW.1)) ?_
    repeat (first | refine F_s ?_ | refine F_r ?_)
    refine F_c (.int .i64 sg) (fun W hW => root_signB d _ SG.out _ _ _ _ W ((HD.out.ext ex).ext hW.1) rd) ?_
    repeat (first | refine F_s ?_ | refine F_r ?_)
    rintro W1 ⟨hx, _⟩
    replace ob := ob.ext hx
    clear ex hs a0 a1 b0 b1 f0 f1 rb
    clear hx
    obtain ⟨ex, hs, ⟨a0, a1⟩, ⟨b0, b1⟩, f0, f1, rb⟩ := id ob
    have hl0 : w.heap.size < W1.heap.size := by omega
    have hl1 : w.heap.size + 1 < W1.heap.size := by omega
    have hl2 : w.heap.size + 2 < W1.heap.size := by omega
    go_upto_region 4 with (fail)
    refine wp_GR (w.heap.size + 1 + 1) (.cells #[.int .i64 0, .int .i64 0, .bool false, .slice none 0 0, .bool false, .slice none 0 0] 38) (fun W => Ext w W ∧ W1.heap.size ≤ W.heap.size ∧ W.cell? ⟨w.heap.size, 0, none⟩ = some (.bool false) ∧ W.cell? ⟨w.heap.size, 1, none⟩ = some (.slice pn ln kn)) ?_
    intro hSM hRKS
    repeat (first | refine F_s ?_ | refine F_r ?_)
    refine F_num w (ofZ 1) (by rfl) (by rfl) (by intro W hW; (try dsimp only at hW); have hwW := (show w.heap.size ≤ W.heap.size by have hzz := hW; (repeat (first | exact hzz.size | exact hzz.1.size | replace hzz := hzz.1))); go_simp; exact (num_Of 1 _ (by decide) (by decide)).mono fun _ _ h => RetN.isN hwW h) ?_; intro n1 p1 l1 c1 hn1; refine F_put ?_
    repeat (first | refine F_s ?_ | refine F_r ?_)
    refine F_w (fun W => _ ∧ NR W n1 p1 l1 c1 (ofZ 1)) (fun W hW => ⟨⟨hW.1.1, hW.2⟩, hW.1.2⟩) ?_
    repeat (first | refine F_s ?_ | refine F_r ?_)
    rintro W5 ⟨⟨⟨⟨hx, hz, hc⟩, nr1⟩, hb⟩, _⟩
    obtain ⟨⟨c0, c1', c2, c3, c4, c5⟩, _, hl⟩ := cells6 hb
    clear hc hb
    go_wp2
    refine bodyPost_ret (v := .tuple #[.agg #[.int .i64 add, .int .i64 0, .bool false, .slice none 0 0, .bool n1, .slice p1 l1 c1], .bool true]) (by simp only [results, Tryz.results28]; go_simp) rfl ?_
    rw [P.out]
    exact ⟨false, none, 0, 0, n1, p1, l1, c1, rfl, NR.zero _, nr1, hx⟩
  have d4 : (s == 0) = false := by simpa using s0
  obtain ⟨sn, SN⟩ : ∃ x, Hid (sgn n.z = x) := ⟨_, rfl⟩
  have bsn := sgn_bd n.z
  rw [SN.out] at bsn
  have hsn : sn = 0 ↔ n.z = 0 := by
    rw [← SN.out]
    unfold sgn cmpZ
    split
    · omega
    · split <;> omega
  by_cases n0 : sn = 0
  · have P : Hid (ofP add s n d = (⟨add, 0, zero, ofZ 1⟩, true)) := Lib.hid (by unfold ofP; rw [HB.out, if_neg (by simp), if_pos (.inr (hsn.1 n0))])
    have d5 : (sn == 0) = true := by simpa using n0
    clear hsn n0
    go_enter Tryz.func28, Tryz.ntmps28
    go_upto_region 1 with (fail)
    refine wp_know (fun W => OB w W false pn ln kn nd pd ld cd) ?_ ?_
    · unfold OB
      refine ⟨?_, ?_, ?_, ?_, ?_, ?_, ?_⟩
      · exact bxx
      · simp
      · go_simp
      · go_simp
      · intro o; go_simp
      · intro o; go_simp
      · repeat (first | exact heap_new (by first | rfl | (simp; done)) | refine heap_old ?_)
    rintro W0 ob
    obtain ⟨ex, hs, ⟨a0, a1⟩, ⟨b0, b1⟩, f0, f1, rb⟩ := id ob
    refine wp_FSc (fun W => cn W w.heap.size 0 false pn ln kn ∧ cn W (w.heap.size + 1) 0 nd pd ld cd) ?_
    repeat (first | refine F_s ?_ | refine F_r ?_)
    refine F_c (.bool true) (fun W hW => num_rightB n _ rn _ _ _ _ W ((HN.out.ext ex).ext hW.1)) ?_
    repeat (first | refine F_s ?_ | refine F_r ?_)
    refine F_c (.bool true) (fun W hW => num_rightB d _ rd _ _ _ _ W ((HD.out.ext ex).ext hW.1)) ?_
    repeat (first | refine F_s ?_ | refine F_r ?_)
    refine F_c (.int .i64 sg) (fun W hW => root_signB d _ SG.out _ _ _ _ W ((HD.out.ext ex).ext hW.1) rd) ?_
    repeat (first | refine F_s ?_ | refine F_r ?_)
    rintro W1 ⟨hx, _⟩
    replace ob := ob.ext hx
    clear ex hs a0 a1 b0 b1 f0 f1 rb
    clear hx
    obtain ⟨ex, hs, ⟨a0, a1⟩, ⟨b0, b1⟩, f0, f1, rb⟩ := id ob
    have hl0 : w.heap.size < W1.heap.size := by omega
    have hl1 : w.heap.size + 1 < W1.heap.size := by omega
    have hl2 : w.heap.size + 2 < W1.heap.size := by omega
    go_upto_region 3 with (fail)
    refine wp_FSc (fun W => cn W w.heap.size 0 false pn ln kn ∧ cn W (w.heap.size + 1) 0 nd pd ld cd) ?_
    repeat (first | refine F_s ?_ | refine F_r ?_)
    refine F_c (.int .i64 sn) (fun W hW => root_signB n _ SN.out _ _ _ _ W ((HN.out.ext ex).ext hW.1) rn) ?_
    repeat (first | refine F_s ?_ | refine F_r ?_)
    rintro W2 ⟨hx, _⟩
    replace ob := ob.ext hx
    clear ex hs a0 a1 b0 b1 f0 f1 rb
    clear hx hl0 hl1 hl2
    obtain ⟨ex, hs, ⟨a0, a1⟩, ⟨b0, b1⟩, f0, f1, rb⟩ := id ob
    have hl0 : w.heap.size < W2.heap.size := by omega
    have hl1 : w.heap.size + 1 < W2.heap.size := by omega
    have hl2 : w.heap.size + 2 < W2.heap.size := by omega
    go_upto_region 4 with (fail)
    refine wp_GR (w.heap.size + 1 + 1) (.cells #[.int .i64 0, .int .i64 0, .bool false, .slice none 0 0, .bool false, .slice none 0 0] 38) (fun W => Ext w W ∧ W2.heap.size ≤ W.heap.size ∧ W.cell? ⟨w.heap.size, 0, none⟩ = some (.bool false) ∧ W.cell? ⟨w.heap.size, 1, none⟩ = some (.slice pn ln kn)) ?_
    intro hSM hRKS
    repeat (first | refine F_s ?_ | refine F_r ?_)
    refine F_num w (ofZ 1) (by rfl) (by rfl) (by intro W hW; (try dsimp only at hW); have hwW := (show w.heap.size ≤ W.heap.size by have hzz := hW; (repeat (first | exact hzz.size | exact hzz.1.size | replace hzz := hzz.1))); go_simp; exact (num_Of 1 _ (by decide) (by decide)).mono fun _ _ h => RetN.isN hwW h) ?_; intro n1 p1 l1 c1 hn1; refine F_put ?_
    repeat (first | refine F_s ?_ | refine F_r ?_)
    refine F_w (fun W => _ ∧ NR W n1 p1 l1 c1 (ofZ 1)) (fun W hW => ⟨⟨hW.1.1, hW.2⟩, hW.1.2⟩) ?_
    repeat (first | refine F_s ?_ | refine F_r ?_)
    rintro W5 ⟨⟨⟨⟨hx, hz, hc⟩, nr1⟩, hb⟩, _⟩
    obtain ⟨⟨c0, c1', c2, c3, c4, c5⟩, _, hl⟩ := cells6 hb
    clear hc hb
    go_wp2
    refine bodyPost_ret (v := .tuple #[.agg #[.int .i64 add, .int .i64 0, .bool false, .slice none 0 0, .bool n1, .slice p1 l1 c1], .bool true]) (by simp only [results, Tryz.results28]; go_simp) rfl ?_
    rw [P.out]
    exact ⟨false, none, 0, 0, n1, p1, l1, c1, rfl, NR.zero _, nr1, hx⟩
  have d5 : (sn == 0) = false := by simpa using n0
  have hmain := ofP_main (add := add) HNN.out.symm DP.out HB.out (by rw [← hsn]; omega)
  have hg := gcdP_right rn rd
  have vd := d_pos DP.out
  have vn := z_pos HNN.out.symm
  obtain ⟨g, G⟩ : ∃ g, Hid (Nat.gcd (val n.d) (val d.d) = g) := ⟨_, rfl⟩
  rw [G.out] at hmain hg
  have gp : 0 < g := by rw [← G.out]; exact Nat.gcd_pos_of_pos_right _ vd.2
  have sg1 : small (g : Int) = true := by
    refine small_of_le HD.out.2.2.dig rd ?_
    rw [Int.natAbs_natCast, ← G.out]
    exact Nat.gcd_le_right _ vd.2
  have HG := Lib.hid hg
  have DVN := Lib.hid (divP_nm rn sg1 gp)
  have DVD := Lib.hid (divP_nm rd sg1 gp)
  rw [vn] at DVN
  rw [vd.1] at DVD
  obtain ⟨qn, QN⟩ : ∃ q, Hid (ofZ ((val n.d / g : Nat) : Int) = q) := ⟨_, rfl⟩
  obtain ⟨qd, QD⟩ : ∃ q, Hid (ofZ ((val d.d / g : Nat) : Int) = q) := ⟨_, rfl⟩
  rw [← Int.natCast_ediv, QN.out] at DVN
  rw [← Int.natCast_ediv, QD.out] at DVD
  rw [QN.out, QD.out] at hmain
  obtain ⟨rr, RR⟩ : ∃ x : Nm, Hid (ofZ ((val n.d : Int) % (g : Int)) = x) := ⟨_, rfl⟩
  obtain ⟨ss, SS⟩ : ∃ x : Nm, Hid (ofZ ((val d.d : Int) % (g : Int)) = x) := ⟨_, rfl⟩
  rw [RR.out] at DVN
  rw [SS.out] at DVD
  have MAIN := Lib.hid hmain
  have hmax := @run_maxD Tryz.prog
  clear hsn n0 hmain hg vd vn gp sg1
  go_enter Tryz.func28, Tryz.ntmps28
  go_upto_region 1 with (fail)
  refine wp_know (fun W => OB w W false pn ln kn nd pd ld cd) ?_ ?_
  · unfold OB
    refine ⟨?_, ?_, ?_, ?_, ?_, ?_, ?_⟩
    · exact bxx
    · simp
    · go_simp
    · go_simp
    · intro o; go_simp
    · intro o; go_simp
    · repeat (first | exact heap_new (by first | rfl | (simp; done)) | refine heap_old ?_)
  rintro W0 ob
  obtain ⟨ex, hs, ⟨a0, a1⟩, ⟨b0, b1⟩, f0, f1, rb⟩ := id ob
  refine wp_FSc (fun W => cn W w.heap.size 0 false pn ln kn ∧ cn W (w.heap.size + 1) 0 nd pd ld cd) ?_
  repeat (first | refine F_s ?_ | refine F_r ?_)
  refine F_c (.bool true) (fun W hW => num_rightB n _ rn _ _ _ _ W ((HN.out.ext ex).ext hW.1)) ?_
  repeat (first | refine F_s ?_ | refine F_r ?_)
  refine F_c (.bool true) (fun W hW => num_rightB d _ rd _ _ _ _ W ((HD.out.ext ex).ext hW.1)) ?_
  repeat (first | refine F_s ?_ | refine F_r ?_)
  refine F_c (.int .i64 sg) (fun W hW => root_signB d _ SG.out _ _ _ _ W ((HD.out.ext ex).ext hW.1) rd) ?_
  repeat (first | refine F_s ?_ | refine F_r ?_)
  rintro W1 ⟨hx, _⟩
  replace ob := ob.ext hx
  clear ex hs a0 a1 b0 b1 f0 f1 rb
  clear hx
  obtain ⟨ex, hs, ⟨a0, a1⟩, ⟨b0, b1⟩, f0, f1, rb⟩ := id ob
  have hl0 : w.heap.size < W1.heap.size := by omega
  have hl1 : w.heap.size + 1 < W1.heap.size := by omega
  have hl2 : w.heap.size + 2 < W1.heap.size := by omega
  go_upto_region 3 with (fail)
  refine wp_FSc (fun W => cn W w.heap.size 0 false pn ln kn ∧ cn W (w.heap.size + 1) 0 nd pd ld cd) ?_
  repeat (first | refine F_s ?_ | refine F_r ?_)
  refine F_c (.int .i64 sn) (fun W hW => root_signB n _ SN.out _ _ _ _ W ((HN.out.ext ex).ext hW.1) rn) ?_
  repeat (first | refine F_s ?_ | refine F_r ?_)
  rintro W2 ⟨hx, _⟩
  replace ob := ob.ext hx
  clear ex hs a0 a1 b0 b1 f0 f1 rb
  clear hx hl0 hl1 hl2
  obtain ⟨ex, hs, ⟨a0, a1⟩, ⟨b0, b1⟩, f0, f1, rb⟩ := id ob
  have hl0 : w.heap.size < W2.heap.size := by omega
  have hl1 : w.heap.size + 1 < W2.heap.size := by omega
  have hl2 : w.heap.size + 2 < W2.heap.size := by omega
  go_wp2_with fail
  refine (gcd_all n d _ _ _ _ _ _ _ _ _ _ (HN.out.ext bxx) (HD.out.ext bxx) rd HG.out).mono ?_
  rintro e W5 ⟨n5, p5, l5, c5, rfl, nr5, new5, hx⟩
  have hz2 : w.heap.size + 3 ≤ W2.heap.size := hs
  replace ob := ob.ext (Ext.step bxx hx)
  clear hx
  clear ex hs a0 a1 b0 b1 f0 f1 rb hl0 hl1 hl2
  obtain ⟨ex, hs, ⟨a0, a1⟩, ⟨b0, b1⟩, f0, f1, rb⟩ := id ob
  have hl0 : w.heap.size < W5.heap.size := by omega
  have hl1 : w.heap.size + 1 < W5.heap.size := by omega
  have hl2 : w.heap.size + 2 < W5.heap.size := by omega
  go_upto_region 6 with (fail)
  refine wp_know (fun W => OB w W false pn ln kn nd pd ld cd ∧ VB2 W W5.heap.size n5 p5 l5 c5 (ofZ (g : Int))) ?_ ?_
  · refine ⟨ob.ext bxx, VB2.heap (heap_new rfl) (nr5.alloc _)⟩
  obtain ⟨g5, G5⟩ : ∃ x, Hid (W5.heap.size = x) := ⟨_, rfl⟩
  have hg5 : w.heap.size + 3 ≤ g5 := by rw [← G5.out]; exact hs
  rw [G5.out]
  clear ob
  clear ex hs a0 a1 b0 b1 f0 f1 rb hl0 hl1 hl2
  rintro W6 ⟨ob, vg⟩
  clear nr5
  obtain ⟨ex, hs, ⟨a0, a1⟩, ⟨b0, b1⟩, f0, f1, rb⟩ := id ob
  have hl0 : w.heap.size < W6.heap.size := by omega
  have hl1 : w.heap.size + 1 < W6.heap.size := by omega
  have hl2 : w.heap.size + 2 < W6.heap.size := by omega
  obtain ⟨q0, q1, q2, q3⟩ := id vg
  go_wp2_with fail
  refine (div_all n (ofZ (g : Int)) _ _ _ _ _ _ _ _ _ _ (HN.out.ext bxx) (q3.ext bxx) DVN.out).mono ?_
  rintro e W7 ⟨n6, p6, l6, c6, n7, p7, l7, c7, rfl, nr6, _, new6, _, hx⟩
  have hx7 : Ext W6 W7 := Ext.step bxx hx
  replace ob := ob.ext hx7
  replace vg := vg.ext hx7
  have hz6 : w.heap.size + 3 ≤ W6.heap.size := hs
  have new6' : New W6 p6 := new6.mono (by first | exact Nat.le_refl _ | simp)
  clear hx hx7 new6 q0 q1 q2 q3
  clear ex hs a0 a1 b0 b1 f0 f1 rb hl0 hl1 hl2
  obtain ⟨ex, hs, ⟨a0, a1⟩, ⟨b0, b1⟩, f0, f1, rb⟩ := id ob
  have hl0 : w.heap.size < W7.heap.size := by omega
  have hl1 : w.heap.size + 1 < W7.heap.size := by omega
  have hl2 : w.heap.size + 2 < W7.heap.size := by omega
  obtain ⟨q0, q1, q2, q3⟩ := id vg
  have NR6 := Lib.hid nr6
  have VG3 := Lib.hid q3
  clear nr6
  go_upto_region 7 with (fail)
  refine wp_know (fun W => OB w W n6 p6 l6 c6 nd pd ld cd ∧ VB2 W g5 n5 p5 l5 c5 (ofZ (g : Int)) ∧ NR W n6 p6 l6 c6 qn) ?_ ?_
  · refine ⟨⟨?_, ?_, ?_, ?_, ?_, ?_, ?_⟩, ⟨?_, ?_, ?_, ?_⟩, ?_⟩
    · exact bxx
    · simp; omega
    · go_simp
    · go_simp
    · intro o; go_simp
    · intro o; go_simp
    · rw [Below.heap_setCell _ _ _ _ (by dsimp only; omega), Below.heap_setCell _ _ _ _ (by dsimp only; omega)]; exact rb
    · simpa using q0
    · have hne : ¬ w.heap.size = g5 := by omega
      have hne2 : ¬ g5 = w.heap.size := by omega
      go_simp
    · have hne : ¬ w.heap.size = g5 := by omega
      have hne2 : ¬ g5 = w.heap.size := by omega
      go_simp
    · refine NR.set' (NR.set' VG3.out _ ?_ _) _ ?_ _ <;> (intro y hy; have := new5 y hy; simp; omega)
    · refine NR.set' (NR.set' NR6.out _ ?_ _) _ ?_ _ <;> (intro y hy; have := new6' y hy; simp; omega)
  rintro W8 ⟨ob, vg, nr6⟩
  clear q0 q1 q2 q3 NR6 VG3
  clear ex hs a0 a1 b0 b1 f0 f1 rb hl0 hl1 hl2
  obtain ⟨ex, hs, ⟨a0, a1⟩, ⟨b0, b1⟩, f0, f1, rb⟩ := id ob
  have hl0 : w.heap.size < W8.heap.size := by omega
  have hl1 : w.heap.size + 1 < W8.heap.size := by omega
  have hl2 : w.heap.size + 2 < W8.heap.size := by omega
  obtain ⟨q0, q1, q2, q3⟩ := id vg
  go_wp2_with fail
  refine (div_all d (ofZ (g : Int)) _ _ _ _ _ _ _ _ _ _ (HD.out.ext bxx) (q3.ext bxx) DVD.out).mono ?_
  rintro e W9 ⟨n8, p8, l8, c8, n9, p9, l9, c9, rfl, nr8, _, new8, _, hx⟩
  have hx9 : Ext W8 W9 := Ext.step bxx hx
  replace ob := ob.ext hx9
  have hz8 : w.heap.size + 3 ≤ W8.heap.size := hs
  have new8' : New W8 p8 := new8.mono (by first | exact Nat.le_refl _ | simp)
  have NR6 := Lib.hid (nr6.ext hx9)
  clear hx hx9 new8 q0 q1 q2 q3 nr6 vg
  clear ex hs a0 a1 b0 b1 f0 f1 rb hl0 hl1 hl2
  obtain ⟨ex, hs, ⟨a0, a1⟩, ⟨b0, b1⟩, f0, f1, rb⟩ := id ob
  have hl0 : w.heap.size < W9.heap.size := by omega
  have hl1 : w.heap.size + 1 < W9.heap.size := by omega
  have hl2 : w.heap.size + 2 < W9.heap.size := by omega
  have NR8 := Lib.hid nr8
  clear nr8
  go_upto_region 8 with (fail)
  refine wp_know (fun W => OB w W n6 p6 l6 c6 n8 p8 l8 c8 ∧ NR W n6 p6 l6 c6 qn ∧ NR W n8 p8 l8 c8 qd) ?_ ?_
  · refine ⟨⟨?_, ?_, ?_, ?_, ?_, ?_, ?_⟩, ?_, ?_⟩
    · exact bxx
    · simp; omega
    · go_simp
    · go_simp
    · intro o; go_simp
    · intro o; go_simp
    · rw [Below.heap_setCell _ _ _ _ (by dsimp only; omega), Below.heap_setCell _ _ _ _ (by dsimp only; omega)]; exact rb
    · refine NR.set' (NR.set' NR6.out _ ?_ _) _ ?_ _ <;> (intro y hy; have := new6' y hy; simp; omega)
    · refine NR.set' (NR.set' NR8.out _ ?_ _) _ ?_ _ <;> (intro y hy; have := new8' y hy; simp; omega)
  rintro Wa ⟨ob, nr6, nr8⟩
  clear NR6 NR8
  clear ex hs a0 a1 b0 b1 f0 f1 rb hl0 hl1 hl2
  obtain ⟨ex, hs, ⟨a0, a1⟩, ⟨b0, b1⟩, f0, f1, rb⟩ := id ob
  have hl0 : w.heap.size < Wa.heap.size := by omega
  have hl1 : w.heap.size + 1 < Wa.heap.size := by omega
  have hl2 : w.heap.size + 2 < Wa.heap.size := by omega
  have e6 := nr6.2.1
  have e8 := nr8.2.1
  have m6 := nr6.2.2.le
  have m8 := nr8.2.2.le
  have x6 := nr6.2.2.max
  have x8 := nr8.2.2.max
  have NR6 := Lib.hid nr6
  have NR8 := Lib.hid nr8
  have HM := MAIN.out
  rw [← e6, ← e8] at HM
  rw [← e6] at m6
  rw [← e8] at m8
  have MA := Lib.hid HM
  obtain ⟨mx, MX⟩ : ∃ m, Hid (max (l6 : Int) (l8 : Int) = m) := ⟨_, rfl⟩
  have hmx := MX.out
  clear nr6 nr8 e6 e8 HM
  by_cases h8 : 8 < mx
  · have d8 : decide (8 < mx) = true := by simpa using h8
    have P : Hid (ofP add s n d = (Rt.no, false)) := Lib.hid (by rw [MA.out, if_pos (by omega)])
    clear h8
    go_upto_region 9 with (fail)
    refine wp_GR (w.heap.size + 1 + 1) (.cells #[.int .i64 0, .int .i64 0, .bool false, .slice none 0 0, .bool false, .slice none 0 0] 38) (fun W => Ext w W ∧ Wa.heap.size ≤ W.heap.size ∧ W.cell? ⟨w.heap.size, 0, none⟩ = some (.bool n6) ∧ W.cell? ⟨w.heap.size, 1, none⟩ = some (.slice p6 l6 c6)) ?_
    intro hSM hRKS
    repeat (first | refine F_s ?_ | refine F_r ?_)
    refine F_w (fun W => _) (fun W hW => hW) ?_
    repeat (first | refine F_s ?_ | refine F_r ?_)
    rintro Wb ⟨⟨⟨hx, hz, hc⟩, hb⟩, _⟩
    obtain ⟨⟨c0, c1, c2, c3, c4, c5⟩, _, hl⟩ := cells6 hb
    clear hc hb
    go_wp2
    refine bodyPost_ret (v := .tuple #[.agg #[.int .i64 0, .int .i64 0, .bool false, .slice none 0 0, .bool false, .slice none 0 0], .bool false]) (by simp only [results, Tryz.results28]; go_simp) rfl ?_
    rw [P.out]
    exact ⟨false, none, 0, 0, false, none, 0, 0, rfl, NR.zero _, NR.zero _, hx⟩
  · have d8 : decide (8 < mx) = false := by simpa using h8
    have P : Hid (ofP add s n d = (⟨add, s, qn, qd⟩, true)) := Lib.hid (by rw [MA.out, if_neg (by omega)])
    clear h8
    go_upto_region 10 with (fail)
    have nr6 := NR6.out
    have nr8 := NR8.out
    refine wp_GN (w.heap.size + 1 + 1) (.cells #[.int .i64 0, .int .i64 0, .bool false, .slice none 0 0, .bool false, .slice none 0 0] 38) (fun W => Ext w W ∧ Wa.heap.size ≤ W.heap.size ∧ W.cell? ⟨w.heap.size, 0, none⟩ = some (.bool n6) ∧ W.cell? ⟨w.heap.size, 1, none⟩ = some (.slice p6 l6 c6) ∧ W.cell? ⟨w.heap.size + 1, 0, none⟩ = some (.bool n8) ∧ W.cell? ⟨w.heap.size + 1, 1, none⟩ = some (.slice p8 l8 c8)) (fun W => NR W n6 p6 l6 c6 qn ∧ NR W n8 p8 l8 c8 qd) ?_
    intro hSM hRKS
    repeat (first | refine F_s ?_ | refine F_r ?_)
    refine F_w (fun W => _) (fun W hW => hW) ?_
    repeat (first | refine F_s ?_ | refine F_r ?_)
    rintro Wb ⟨⟨⟨⟨hx, hz, hc⟩, k6, k8⟩, hb⟩, _⟩
    obtain ⟨⟨c0, c1, c2, c3, c4, c5⟩, _, hl⟩ := cells6 hb
    clear hc hb nr6 nr8
    go_wp2
    refine bodyPost_ret (v := .tuple #[.agg #[.int .i64 add, .int .i64 s, .bool n6, .slice p6 l6 c6, .bool n8, .slice p8 l8 c8], .bool true]) (by simp only [results, Tryz.results28]; go_simp) rfl ?_
    rw [P.out]
    exact ⟨n6, p6, l6, c6, n8, p8, l8, c8, rfl, k6, k8, hx⟩
end Go.Proofs.YtighahcllmoajaaGreat

namespace Go.Proofs.YtighahcllmoajaaGreat

theorem digit_at {d : List Nat} (hd : Dig d) (j : Nat) : d[j]?.getD 0 = val d / 4294967296 ^ j % 4294967296 := by
  have hp : 0 < 4294967296 ^ j := Nat.pow_pos (by omega)
  by_cases h : j < d.length
  · have h1 := val_take_drop d j (by omega)
    have h2 := val_lt (hd.take j)
    rw [List.length_take, Nat.min_eq_left (by omega)] at h2
    rw [h1, Nat.add_comm, Nat.mul_add_div hp, Nat.div_eq_of_lt h2, Nat.add_zero, List.drop_eq_getElem_cons h, val_cons, Nat.add_mul_mod_self_left, List.getElem?_eq_getElem h, Option.getD_some, Nat.mod_eq_of_lt (hd.get j h)]
  · have h1 := val_lt hd
    have h2 : 4294967296 ^ d.length ≤ 4294967296 ^ j := Nat.pow_le_pow_right (by omega) (by omega)
    rw [List.getElem?_eq_none (by omega), Nat.div_eq_of_lt (by omega)]
    rfl
/-- A bit of a number, out of its digit. -/
theorem bit_at {d : List Nat} (hd : Dig d) (k : Nat) : d[k / 32]?.getD 0 / 2 ^ (k % 32) % 2 = val d / 2 ^ k % 2 := by
  rw [digit_at hd]
  have e : (4294967296 : Nat) ^ (k / 32) = 2 ^ (32 * (k / 32)) := by rw [show (4294967296 : Nat) = 2 ^ 32 from rfl, ← Nat.pow_mul]
  have hi : k % 32 < 32 := Nat.mod_lt _ (by omega)
  have hB : (4294967296 : Nat) = 2 ^ (k % 32) * 2 ^ (32 - k % 32) := by rw [← Nat.pow_add, show k % 32 + (32 - k % 32) = 32 by omega]
  have h2 : (2 : Nat) ^ (32 - k % 32) = 2 * 2 ^ (32 - k % 32 - 1) := by
    rw [← Nat.pow_succ', show (32 - k % 32 - 1).succ = 32 - k % 32 by omega]
  have hk : (2 : Nat) ^ k = 2 ^ (32 * (k / 32)) * 2 ^ (k % 32) := by rw [← Nat.pow_add, show 32 * (k / 32) + k % 32 = k by omega]
  rw [e, hk, ← Nat.div_div_eq_div_mul]
  generalize val d / 2 ^ (32 * (k / 32)) = t
  conv => lhs; rw [hB]
  rw [Nat.mod_mul_right_div_self, h2, Nat.mod_mul_right_mod]

/-- What division bit by bit keeps: k bits are still to come. -/
structure BitInv (A V k m : Nat) (q : List Nat) (r : Nat) : Prop where
  dig : Dig q
  len : q.length = m
  ex : ∃ Q, val q = Q * 2 ^ k ∧ Q * V + r = A / 2 ^ k
  lt : r < V
theorem bit_half (A k : Nat) : A / 2 ^ k = 2 * (A / 2 ^ (k + 1)) + A / 2 ^ k % 2 := by
  rw [Nat.pow_succ, ← Nat.div_div_eq_div_mul]
  omega
theorem bit_zero {A V k m b : Nat} {q : List Nat} {r : Nat} (h : BitInv A V (k + 1) m q r) (hb : A / 2 ^ k % 2 = b) (hlt : 2 * r + b < V) : BitInv A V k m q (2 * r + b) := by
  obtain ⟨Q, h1, h2⟩ := h.ex
  refine ⟨h.dig, h.len, ⟨2 * Q, by rw [h1, Nat.pow_succ]; grind, ?_⟩, hlt⟩
  rw [bit_half A k, hb, ← h2]
  grind
theorem bit_low {A V k m : Nat} {q : List Nat} {r : Nat} (h : BitInv A V (k + 1) m q r) : ∃ t, q[k / 32]?.getD 0 = 2 ^ (k % 32) * (2 * t) ∧ 2 ^ (k % 32) * (2 * t) + 2 ^ (k % 32) < 4294967296 ∧ 2 ^ (k % 32) * (2 * t) ||| 2 ^ (k % 32) = 2 ^ (k % 32) * (2 * t) + 2 ^ (k % 32) := by
  obtain ⟨Q, h1, h2⟩ := h.ex
  have hi : k % 32 < 32 := Nat.mod_lt _ (by omega)
  have e : (4294967296 : Nat) ^ (k / 32) = 2 ^ (32 * (k / 32)) := by rw [show (4294967296 : Nat) = 2 ^ 32 from rfl, ← Nat.pow_mul]
  have hk : (2 : Nat) ^ (k + 1) = 2 ^ (32 * (k / 32)) * (2 ^ (k % 32) * 2) := by rw [← Nat.pow_succ, ← Nat.pow_add, show 32 * (k / 32) + (k % 32).succ = k + 1 by omega]
  have hd := digit_at h.dig (k / 32)
  have hp : 0 < 2 ^ (32 * (k / 32)) := Nat.pow_pos (by omega)
  have hs : 0 < 2 ^ (k % 32) := Nat.pow_pos (by omega)
  rw [h1, e, hk, show Q * (2 ^ (32 * (k / 32)) * (2 ^ (k % 32) * 2)) = 2 ^ (32 * (k / 32)) * (Q * (2 ^ (k % 32) * 2)) by grind, Nat.mul_div_cancel_left _ hp] at hd
  have hB : (4294967296 : Nat) = 2 ^ (k % 32) * 2 * 2 ^ (31 - k % 32) := by rw [← Nat.pow_succ, ← Nat.pow_add, show (k % 32).succ + (31 - k % 32) = 32 by omega]
  rw [hB, Nat.mul_comm Q, Nat.mul_mod_mul_left] at hd
  have hlt : Q % 2 ^ (31 - k % 32) < 2 ^ (31 - k % 32) := Nat.mod_lt _ (Nat.pow_pos (by omega))
  refine ⟨Q % 2 ^ (31 - k % 32), by rw [hd]; grind, ?_, ?_⟩
  · have h3 : 2 ^ (k % 32) * 2 * (Q % 2 ^ (31 - k % 32) + 1) ≤ 2 ^ (k % 32) * 2 * 2 ^ (31 - k % 32) := Nat.mul_le_mul_left _ hlt
    rw [← hB] at h3
    have e3 : 2 ^ (k % 32) * 2 * (Q % 2 ^ (31 - k % 32) + 1) = 2 ^ (k % 32) * (2 * (Q % 2 ^ (31 - k % 32))) + 2 * 2 ^ (k % 32) := by grind
    omega
  · have := Nat.two_pow_add_eq_or_of_lt (i := k % 32 + 1) (b := 2 ^ (k % 32)) (by rw [Nat.pow_succ]; omega) (Q % 2 ^ (31 - k % 32))
    have e4 : 2 ^ (k % 32 + 1) * (Q % 2 ^ (31 - k % 32)) = 2 ^ (k % 32) * (2 * (Q % 2 ^ (31 - k % 32))) := by rw [Nat.pow_succ]; grind
    rw [e4] at this
    exact this.symm
theorem bit_one {A V k m b x : Nat} {q : List Nat} {r : Nat} (h : BitInv A V (k + 1) m q r) (hb : A / 2 ^ k % 2 = b) (hge : V ≤ 2 * r + b) (hj : k / 32 < m) (hx : q[k / 32]?.getD 0 = x) (hxb : x + 2 ^ (k % 32) < 4294967296) : BitInv A V k m (q.set (k / 32) (x + 2 ^ (k % 32))) (2 * r + b - V) := by
  obtain ⟨Q, h1, h2⟩ := h.ex
  have hb2 : b ≤ 1 := by have := Nat.mod_lt (A / 2 ^ k) (show 0 < 2 by omega); omega
  have hr := h.lt
  have e : (4294967296 : Nat) ^ (k / 32) = 2 ^ (32 * (k / 32)) := by rw [show (4294967296 : Nat) = 2 ^ 32 from rfl, ← Nat.pow_mul]
  have hk : 2 ^ (32 * (k / 32)) * 2 ^ (k % 32) = 2 ^ k := by rw [← Nat.pow_add, show 32 * (k / 32) + k % 32 = k by omega]
  have hs := val_set q (k / 32) (x + 2 ^ (k % 32)) x (by rw [h.len]; exact hj) hx
  refine ⟨h.dig.set _ _ hxb, by rw [List.length_set]; exact h.len, ⟨2 * Q + 1, ?_, ?_⟩, by omega⟩
  · rw [Nat.mul_add, e, hk, h1, Nat.pow_succ] at hs
    have e5 : (2 * Q + 1) * 2 ^ k = Q * (2 ^ k * 2) + 2 ^ k := by grind
    omega
  · rw [bit_half A k, hb, ← h2]
    have e6 : (2 * Q + 1) * V = 2 * (Q * V) + V := by grind
    rw [e6]
    omega
theorem bit_end {A V m : Nat} {q : List Nat} {r : Nat} (hV : 0 < V) (h : BitInv A V 0 m q r) : val q = A / V ∧ r = A % V := by
  obtain ⟨Q, h1, h2⟩ := h.ex
  rw [Nat.pow_zero, Nat.mul_one] at h1
  rw [Nat.pow_zero, Nat.div_one] at h2
  have hlt := h.lt
  rw [h1, ← h2]
  constructor
  · rw [Nat.mul_comm, Nat.mul_add_div hV, Nat.div_eq_of_lt hlt, Nat.add_zero]
  · rw [Nat.mul_comm, Nat.mul_add_mod, Nat.mod_eq_of_lt hlt]
theorem bit_start {A V m n : Nat} (hV : 0 < V) (hA : A < 2 ^ n) : BitInv A V n m (List.replicate m 0) 0 :=
  ⟨fun x hx => by rw [(List.mem_replicate.1 hx).2]; omega, List.length_replicate, ⟨0, by rw [val_replicate, Nat.zero_mul], by rw [Nat.div_eq_of_lt hA, Nat.zero_mul]⟩, hV⟩
end Go.Proofs.YtighahcllmoajaaGreat
