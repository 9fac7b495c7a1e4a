/- The law MeetRaw holds of every input: Count and Edges return what the reference implementation returns, for any edges, and for right ones together with any. (The frame follows the kit's proof-skeleton.) -/
import Derived.Test.YtmmhiiiaccldmaaGreatJ28
import Derived.Test.YtmmhiiiaccldmaaGreatJ29
set_option linter.unusedVariables false
set_option linter.unusedSimpArgs false

namespace Go.Proofs.YtmmhiiiaccldmaaGreat.meetRaw
open Go.ChangeShapes Go.WideShapes Go.ChangeAt Go.RowKit Go.Joins
open Go.Proofs.YtmmhiiiaccldmaaGreat.fin
set_option linter.unusedVariables false

theorem walk (k ax ay bx by' cx cy k' dx dy ex ey fx fy : Int) (a0 : Option Addr) (len0 cap0 : Nat) (z0 : List Int) (w : World) (w0 : IsRow .i64 w a0 len0 cap0 z0) :
    Calls Tryz.prog 4 #[.agg #[.int .i64 k, .int .i64 ax, .int .i64 ay, .int .i64 bx, .int .i64 by', .int .i64 cx, .int .i64 cy], .agg #[.int .i64 k', .int .i64 dx, .int .i64 dy, .int .i64 ex, .int .i64 ey, .int .i64 fx, .int .i64 fy], .slice a0 len0 cap0] w fun e w' => e = .returned (.bool true) ∧ Below w.heap.size w w' := by
  obtain ⟨i0, b0⟩ := IsRow.ints w0
  have g0 := fun W (hx : Ext w W) => r07_Made (z0.take len0) a0 len0 cap0 1 W (i0.ext hx) b0 (by omega)
  generalize madeE (z0.take len0) 1 = C at *
  exact Raw_core k ax ay bx by' cx cy k' dx dy ex ey fx fy C.k C.ax C.ay C.bx C.by' C.cx C.cy _ _ _ _ _ _ a0 len0 cap0 w g0
    (fun W => meet_Count k ax ay bx by' cx cy k' dx dy ex ey fx fy W)
    (fun W => r07_Count k ax ay bx by' cx cy k' dx dy ex ey fx fy W)
    (fun W => meet_Edges k ax ay bx by' cx cy k' dx dy ex ey fx fy W)
    (fun W => r07_Edges k ax ay bx by' cx cy k' dx dy ex ey fx fy W)
    (fun W => meet_Count k ax ay bx by' cx cy C.k C.ax C.ay C.bx C.by' C.cx C.cy W)
    (fun W => r07_Count k ax ay bx by' cx cy C.k C.ax C.ay C.bx C.by' C.cx C.cy W)
    (fun W => meet_Edges k ax ay bx by' cx cy C.k C.ax C.ay C.bx C.by' C.cx C.cy W)
    (fun W => r07_Edges k ax ay bx by' cx cy C.k C.ax C.ay C.bx C.by' C.cx C.cy W)
    (fun W => meet_Count C.k C.ax C.ay C.bx C.by' C.cx C.cy k' dx dy ex ey fx fy W)
    (fun W => r07_Count C.k C.ax C.ay C.bx C.by' C.cx C.cy k' dx dy ex ey fx fy W)
    (fun W => meet_Edges C.k C.ax C.ay C.bx C.by' C.cx C.cy k' dx dy ex ey fx fy W)
    (fun W => r07_Edges C.k C.ax C.ay C.bx C.by' C.cx C.cy k' dx dy ex ey fx fy W)
set_option maxRecDepth 100000 in
theorem lifted (os : Os) (started : os.Started) (H : Type) (enc : TypeId × Value → H) :
    ReturnsInHanded {} Tryz.checked os 4 .any (Rows.meetRawSpec.pre6 enc Tryz.prog Tryz.f4 Rows.meetRawRow.domain false) (Rows.meetRawSpec.post enc Tryz.prog Tryz.f4 false true false false) := by
  refine returnsInHanded_of_change (C := Tryz.checked) own started (by kernel_rfl) Tryz.func4
    (ChangeSpec.witness6 (enc := enc) (C := Tryz.checked) false ⟨#[], #[.agg #[.int .i64 0, .int .i64 0, .int .i64 0, .int .i64 0, .int .i64 0, .int .i64 0, .int .i64 0], .agg #[.int .i64 0, .int .i64 0, .int .i64 0, .int .i64 0, .int .i64 0, .int .i64 0, .int .i64 0], .slice none 0 0], []⟩ 8 (by kernel_rfl) (by kernel_rfl) (by kernel_rfl) (by kernel_rfl)) ?_
  intro W base args ds gs before hval0 hW hcnd _
  have hval : ∀ (j : Nat) t v, Tryz.f4.params[j]? = some t → args[j]? = some v → Value.okWide Tryz.prog W .any base t v := hval0
  have hW' := hW
  obtain ⟨p, q, hA0, hV, rfl, hfz, hnd⟩ := hW
  have hA : DataW.TrodAll enc Tryz.prog W 0 (fun _ => true) true Tryz.f4.params.toList args.toList ds p := hA0
  rw [Tryz.params4] at hA hval
  obtain ⟨v0, vs0, d0, ds0, p0, q0, hargs, rfl, rfl, h0, r0⟩ := trodAll_cons hA
  obtain ⟨v1, vs1, d1, ds1, p1, q1, rfl, rfl, rfl, h1, r1⟩ := trodAll_cons r0
  obtain ⟨v2, vs2, d2, ds2, p2, q2, rfl, rfl, rfl, h2, r2⟩ := trodAll_cons r1
  obtain ⟨rfl, rfl, rfl⟩ := trodAll_nil r2
  obtain rfl : args = #[v0, v1, v2] := by cases args; simp_all
  obtain ⟨rfl, rfl⟩ := trodVars_none hV
  have k0 := h0
  have lt0 : ∀ x ∈ p0, x.block < W.heap.size := by obtain ⟨m, hm⟩ := k0; exact DataW.trod_lt m _ _ _ hm
  obtain ⟨L0, hl0, rfl, i0⟩ := ints_st (n := 7) Tryz.underlying27 (by kernel_rfl) (by kernel_rfl) (hval 0 27 v0 rfl rfl)
  obtain ⟨x0_0, M0_0, rfl, m0_0⟩ := list_cons hl0
  obtain ⟨x0_1, M0_1, rfl, m0_1⟩ := list_cons m0_0
  obtain ⟨x0_2, M0_2, rfl, m0_2⟩ := list_cons m0_1
  obtain ⟨x0_3, M0_3, rfl, m0_3⟩ := list_cons m0_2
  obtain ⟨x0_4, M0_4, rfl, m0_4⟩ := list_cons m0_3
  obtain ⟨x0_5, M0_5, rfl, m0_5⟩ := list_cons m0_4
  obtain ⟨x0_6, M0_6, rfl, m0_6⟩ := list_cons m0_5
  obtain rfl := List.eq_nil_of_length_eq_zero m0_6
  have k1 := h1
  have lt1 : ∀ x ∈ p1, x.block < W.heap.size := by obtain ⟨m, hm⟩ := k1; exact DataW.trod_lt m _ _ _ hm
  obtain ⟨L1, hl1, rfl, i1⟩ := ints_st (n := 7) Tryz.underlying27 (by kernel_rfl) (by kernel_rfl) (hval 1 27 v1 rfl rfl)
  obtain ⟨x1_0, M1_0, rfl, m1_0⟩ := list_cons hl1
  obtain ⟨x1_1, M1_1, rfl, m1_1⟩ := list_cons m1_0
  obtain ⟨x1_2, M1_2, rfl, m1_2⟩ := list_cons m1_1
  obtain ⟨x1_3, M1_3, rfl, m1_3⟩ := list_cons m1_2
  obtain ⟨x1_4, M1_4, rfl, m1_4⟩ := list_cons m1_3
  obtain ⟨x1_5, M1_5, rfl, m1_5⟩ := list_cons m1_4
  obtain ⟨x1_6, M1_6, rfl, m1_6⟩ := list_cons m1_5
  obtain rfl := List.eq_nil_of_length_eq_zero m1_6
  have k2 := h2
  have lt2 : ∀ x ∈ p2, x.block < W.heap.size := by obtain ⟨m, hm⟩ := k2; exact DataW.trod_lt m _ _ _ hm
  obtain ⟨a2, len2, cap2, rfl⟩ := okWide_slice Tryz.underlying22 (hval 2 22 v2 rfl rfl)
  obtain ⟨z2, w2⟩ : ∃ zs, IsRow .i64 W a2 len2 cap2 zs := by
    obtain ⟨fuel, hf⟩ := h2
    rcases open_ints Tryz.underlying22 Tryz.underlying3 (by kernel_rfl) hf with ⟨hcs, _⟩ | ⟨x, l, c, zs, hcs, _, hl, hm, hz, _, hcell, hwz⟩
    · simp [Value.cells] at hcs
      obtain ⟨rfl, rfl, rfl⟩ := hcs
      exact ⟨[], .inl ⟨rfl, rfl, rfl, rfl⟩⟩
    · simp [Value.cells] at hcs
      obtain ⟨rfl, rfl, rfl⟩ := hcs
      exact ⟨zs, .inr ⟨_, rfl, hl, hm, by simpa using hz, hcell, hwz⟩⟩
  clear hA0 hval0
  refine (walk x0_0 x0_1 x0_2 x0_3 x0_4 x0_5 x0_6 x1_0 x1_1 x1_2 x1_3 x1_4 x1_5 x1_6 a2 len2 cap2 z2 W w2).mono fun e W' ⟨he, bel⟩ => ?_
  subst he
  exact ⟨_, rfl, _, _, _, [], _, [], hW', trodAll_mk1 (shut_bool Tryz.underlying4 _), (trodAll_cons_mk (Below.trod laidOut (by kernel_rfl) (of_decide_eq_true (by kernel_rfl)) k0 bel lt0) (trodAll_cons_mk (Below.trod laidOut (by kernel_rfl) (of_decide_eq_true (by kernel_rfl)) k1 bel lt1) (trodAll_cons_mk (Below.trod laidOut (by kernel_rfl) (of_decide_eq_true (by kernel_rfl)) k2 bel lt2) trodAll_mk0))), rfl, bel.frame _, fun h => by cases h⟩

theorem over : Rows.meetRawRow.holds Tryz.pinned (OpenSpec.ofChange Rows.meetRawSpec) :=
  OpenClaim.holds_of_wide 4 Tryz.f4 rfl rfl rfl rfl rfl rfl rfl ⟨rfl, rfl, rfl, rfl, rfl⟩ rfl rfl rfl rfl rfl (by kernel_rfl) Tryz.func4 (by kernel_rfl)
    (of_decide_eq_true (by kernel_rfl)) (by unfold Func.isWrapper; first | (rw [if_pos (by decide +kernel)]; kernel_rfl) | (rw [if_neg (by decide +kernel)]; exact ⟨rfl, rfl⟩))
    (fun os started H enc _ => lifted os started H enc)

/-- The statement. -/
theorem proved : Rows.MeetRawSaid := over
#print axioms proved
end Go.Proofs.YtmmhiiiaccldmaaGreat.meetRaw
