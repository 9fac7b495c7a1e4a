/- Contracts: num.plus, num.minus, num.sum, num.Add, num.Sub. -/
import Derived.Test.YtmmhiiiaccldmaaJ03
set_option linter.unusedVariables false
set_option linter.unusedSimpArgs false

namespace Go.Proofs.Ytmmhiiiaccldmaa
open Go.RowKit

set_option maxRecDepth 100000 in
set_option maxHeartbeats 1000000 in
theorem num_plus (a b : List Nat) (pa pb : Option Addr) (la ca lb kb : Nat) (w : World) (ha : Row w pa ca a) (hb : Row w pb kb b) (hla : la = a.length) (hlb : lb = b.length) (hal : a.length ≤ 1000) (hbl : b.length ≤ 1000) :
    Calls Try.prog 73 #[.slice pa la ca, .slice pb lb kb] w fun e w' =>
      ∃ o p c, e = .returned (.slice p o.length c) ∧ Row w' p c o ∧ New w p ∧ Ext w w' ∧ val o = val a + val b := by
  subst hla hlb
  have ha1 := Lib.hid (ha.alloc (.cells #[.int .u64 0] 100))
  have hb1 := Lib.hid (hb.alloc (.cells #[.int .u64 0] 100))
  have hna : 0 < a.length → ∀ x, pa = some x → x.block ≠ w.heap.size := by
    intro h0 x hx
    obtain ⟨b', o, hp, hlt, _⟩ := ha.at h0
    rw [hp] at hx
    cases hx
    exact Nat.ne_of_lt hlt
  have hnb : 0 < b.length → ∀ x, pb = some x → x.block ≠ w.heap.size := by
    intro h0 x hx
    obtain ⟨b', o, hp, hlt, _⟩ := hb.at h0
    rw [hp] at hx
    cases hx
    exact Nat.ne_of_lt hlt
  have HNA := Lib.hid hna
  have HNB := Lib.hid hnb
  have da := ha.dig
  have db := hb.dig
  clear hna hnb ha hb
  have hmf : ∀ (fn : Fn) (first cap : Array Value) (w : World), (Instr.makeFunc fn first cap).run Try.prog w = .ok (.func fn first cap) w := fun _ _ _ _ => rfl
  go_enter Try.func73, Try.ntmps73
  go_wp2_with fail
  refine (each_plus a b _ _ _ _ _ _ w.heap.size _ ha1.out hb1.out rfl rfl HNA.out HNB.out hal hbl (by simp) (by go_simp) (by go_simp)).mono ?_
  rintro e w1 ⟨o, c, hlen, rfl, hrow, ⟨s, hinv⟩, hg⟩
  have hv := sumInv_end da db hinv (by omega)
  have V := Lib.hid hv
  have HR := Lib.hid hrow
  have HG := Lib.hid hg
  clear hlen hv hrow hg hinv
  go_wp2
  go_ret
  refine ⟨o, some ⟨w.heap.size + 1, 0, none⟩, c, rfl, by simpa using HR.out, fun x hx => ?_, ?_, V.out⟩
  · cases hx
    simp
  · refine ⟨HG.out.os, HG.out.tape, HG.out.output, ?_, fun k hk => ?_⟩
    · have := HG.out.size
      simp at this
      omega
    · rw [HG.out.block k (by simp; omega) (by simp; omega)]
      exact Below.heap_alloc _ _ _ hk

set_option maxRecDepth 100000 in
set_option maxHeartbeats 1000000 in
theorem num_minus (a b : List Nat) (pa pb : Option Addr) (la ca lb kb : Nat) (w : World) (ha : Row w pa ca a) (hb : Row w pb kb b) (hla : la = a.length) (hlb : lb = b.length) (hal : a.length ≤ 1000) (hbl : b.length ≤ 1000) (hle : val b ≤ val a) :
    Calls Try.prog 75 #[.slice pa la ca, .slice pb lb kb] w fun e w' =>
      ∃ o p c, e = .returned (.slice p o.length c) ∧ Row w' p c o ∧ New w p ∧ Ext w w' ∧ val o = val a - val b := by
  subst hla hlb
  have ha1 := Lib.hid (ha.alloc (.cells #[.int .u64 0] 100))
  have hb1 := Lib.hid (hb.alloc (.cells #[.int .u64 0] 100))
  have hna : 0 < a.length → ∀ x, pa = some x → x.block ≠ w.heap.size := by
    intro h0 x hx
    obtain ⟨b', o, hp, hlt, _⟩ := ha.at h0
    rw [hp] at hx
    cases hx
    exact Nat.ne_of_lt hlt
  have hnb : 0 < b.length → ∀ x, pb = some x → x.block ≠ w.heap.size := by
    intro h0 x hx
    obtain ⟨b', o, hp, hlt, _⟩ := hb.at h0
    rw [hp] at hx
    cases hx
    exact Nat.ne_of_lt hlt
  have HNA := Lib.hid hna
  have HNB := Lib.hid hnb
  clear hna hnb ha hb
  have hmf : ∀ (fn : Fn) (first cap : Array Value) (w : World), (Instr.makeFunc fn first cap).run Try.prog w = .ok (.func fn first cap) w := fun _ _ _ _ => rfl
  go_enter Try.func75, Try.ntmps75
  go_wp2_with fail
  refine (each_minus a b _ _ _ _ _ _ w.heap.size _ ha1.out hb1.out rfl rfl HNA.out HNB.out hal hbl (by simp) (by go_simp) (by go_simp)).mono ?_
  rintro e w1 ⟨o, c, hlen, rfl, hrow, ⟨s, hinv⟩, hg⟩
  have hv := diffInv_end hinv (by omega) (by omega) hle
  have V := Lib.hid hv
  have HR := Lib.hid hrow
  have HG := Lib.hid hg
  clear hlen hv hrow hg hinv
  go_wp2
  go_ret
  refine ⟨o, some ⟨w.heap.size + 1, 0, none⟩, c, rfl, by simpa using HR.out, fun x hx => ?_, ?_, V.out⟩
  · cases hx
    simp
  · refine ⟨HG.out.os, HG.out.tape, HG.out.output, ?_, fun k hk => ?_⟩
    · have := HG.out.size
      simp at this
      omega
    · rw [HG.out.block k (by simp; omega) (by simp; omega)]
      exact Below.heap_alloc _ _ _ hk
end Go.Proofs.Ytmmhiiiaccldmaa
