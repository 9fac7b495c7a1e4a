/- Contract: meet.bothArcs, about the same centre (printed by gen_same.py). | Contract: meet.bothLines. -/
import Derived.Test.YtmmhiiiaccldmaaGreatJ15
import Derived.Test.YtmmhiiiaccldmaaGreatJ14
import Derived.Test.YtmmhiiiaccldmaaGreatJ09
set_option linter.unusedVariables false
set_option linter.unusedSimpArgs false

namespace Go.Proofs.YtmmhiiiaccldmaaGreat
open Go.RowKit
attribute [local go_sem] Gives givesU

def one (a b : Bool) : Int := if a && b then 1 else 0
theorem one_bd (a b : Bool) : 0 ≤ one a b ∧ one a b ≤ 1 := by cases a <;> cases b <;> decide
/-- How many ends two arcs about the same centre have in common; -1 for arcs that are the same. -/
def sameZ (rq a b c d : Bool) : Int := if one a rq + one b rq + one c rq + one d rq = 2 then -1 else one a rq + one b rq + one c rq + one d rq

set_option maxRecDepth 100000 in
set_option maxHeartbeats 16000000 in
theorem meet_arcsSame (cx cy r ux uy vx vy q sx sy tx ty : Int) (w : World) :
    Calls Tryz.prog 22 #[.agg #[.int .i64 cx, .int .i64 cy, .int .i64 r, .int .i64 ux, .int .i64 uy, .int .i64 vx, .int .i64 vy], .agg #[.int .i64 cx, .int .i64 cy, .int .i64 q, .int .i64 sx, .int .i64 sy, .int .i64 tx, .int .i64 ty]] w fun e w' => e = .returned (.int .i64 (sameZ (r == q) (ux == sx && uy == sy) (ux == tx && uy == ty) (vx == sx && vy == sy) (vx == tx && vy == ty))) ∧ Ext w w' := by
  have heq0 : ∀ w : World, (binOp .eql 25 (.agg #[.int .i64 cx, .int .i64 cy]) (.agg #[.int .i64 cx, .int .i64 cy])).run Tryz.prog w = .ok (.bool true) w := fun w => by rw [eql_pt]; simp
  obtain ⟨rq, hrq⟩ : ∃ b, (r == q) = b := ⟨_, rfl⟩
  obtain ⟨b1, hb1⟩ : ∃ b, (ux == sx && uy == sy) = b := ⟨_, rfl⟩
  have heq1 : ∀ w : World, (binOp .eql 25 (.agg #[.int .i64 ux, .int .i64 uy]) (.agg #[.int .i64 sx, .int .i64 sy])).run Tryz.prog w = .ok (.bool b1) w := fun w => by rw [eql_pt, hb1]
  obtain ⟨b2, hb2⟩ : ∃ b, (ux == tx && uy == ty) = b := ⟨_, rfl⟩
  have heq2 : ∀ w : World, (binOp .eql 25 (.agg #[.int .i64 ux, .int .i64 uy]) (.agg #[.int .i64 tx, .int .i64 ty])).run Tryz.prog w = .ok (.bool b2) w := fun w => by rw [eql_pt, hb2]
  obtain ⟨b3, hb3⟩ : ∃ b, (vx == sx && vy == sy) = b := ⟨_, rfl⟩
  have heq3 : ∀ w : World, (binOp .eql 25 (.agg #[.int .i64 vx, .int .i64 vy]) (.agg #[.int .i64 sx, .int .i64 sy])).run Tryz.prog w = .ok (.bool b3) w := fun w => by rw [eql_pt, hb3]
  obtain ⟨b4, hb4⟩ : ∃ b, (vx == tx && vy == ty) = b := ⟨_, rfl⟩
  have heq4 : ∀ w : World, (binOp .eql 25 (.agg #[.int .i64 vx, .int .i64 vy]) (.agg #[.int .i64 tx, .int .i64 ty])).run Tryz.prog w = .ok (.bool b4) w := fun w => by rw [eql_pt, hb4]
  rw [hrq, hb1, hb2, hb3, hb4]
  clear hb1 hb2 hb3 hb4
  have S0 : Hid ((0 : Int) = 0) := rfl
  obtain ⟨s1, S1⟩ : ∃ z, Hid (0 + one b1 rq = z) := ⟨_, rfl⟩
  obtain ⟨s2, S2⟩ : ∃ z, Hid (s1 + one b2 rq = z) := ⟨_, rfl⟩
  obtain ⟨s3, S3⟩ : ∃ z, Hid (s2 + one b3 rq = z) := ⟨_, rfl⟩
  obtain ⟨s4, S4⟩ : ∃ z, Hid (s3 + one b4 rq = z) := ⟨_, rfl⟩
  have T1 : Hid (b1 = true → rq = true → 0 + 1 = s1) := fun h1 h2 => by
    have g1 := S1.out; have e1 := one_bd b1 rq; (have hz : one b1 rq = 1 := by rw [h1, h2]; rfl); omega
  have W1 : IntKind.i64.wrap (0 + 1) = 0 + 1 := by
    have g1 := S1.out; have e1 := one_bd b1 rq; (rw [wrap_in]); unfold I64; omega
  have F1 : Hid ((b1 && rq) = false → 0 = s1) := fun h1 => by
    have g := S1.out; (have hz : one b1 rq = 0 := by simp [one, h1]); omega
  have T2 : Hid (b2 = true → rq = true → s1 + 1 = s2) := fun h1 h2 => by
    have g1 := S1.out; have e1 := one_bd b1 rq; have g2 := S2.out; have e2 := one_bd b2 rq; (have hz : one b2 rq = 1 := by rw [h1, h2]; rfl); omega
  have W2 : IntKind.i64.wrap (s1 + 1) = s1 + 1 := by
    have g1 := S1.out; have e1 := one_bd b1 rq; have g2 := S2.out; have e2 := one_bd b2 rq; (rw [wrap_in]); unfold I64; omega
  have F2 : Hid ((b2 && rq) = false → s1 = s2) := fun h1 => by
    have g := S2.out; (have hz : one b2 rq = 0 := by simp [one, h1]); omega
  have T3 : Hid (b3 = true → rq = true → s2 + 1 = s3) := fun h1 h2 => by
    have g1 := S1.out; have e1 := one_bd b1 rq; have g2 := S2.out; have e2 := one_bd b2 rq; have g3 := S3.out; have e3 := one_bd b3 rq; (have hz : one b3 rq = 1 := by rw [h1, h2]; rfl); omega
  have W3 : IntKind.i64.wrap (s2 + 1) = s2 + 1 := by
    have g1 := S1.out; have e1 := one_bd b1 rq; have g2 := S2.out; have e2 := one_bd b2 rq; have g3 := S3.out; have e3 := one_bd b3 rq; (rw [wrap_in]); unfold I64; omega
  have F3 : Hid ((b3 && rq) = false → s2 = s3) := fun h1 => by
    have g := S3.out; (have hz : one b3 rq = 0 := by simp [one, h1]); omega
  have T4 : Hid (b4 = true → rq = true → s3 + 1 = s4) := fun h1 h2 => by
    have g1 := S1.out; have e1 := one_bd b1 rq; have g2 := S2.out; have e2 := one_bd b2 rq; have g3 := S3.out; have e3 := one_bd b3 rq; have g4 := S4.out; have e4 := one_bd b4 rq; (have hz : one b4 rq = 1 := by rw [h1, h2]; rfl); omega
  have W4 : IntKind.i64.wrap (s3 + 1) = s3 + 1 := by
    have g1 := S1.out; have e1 := one_bd b1 rq; have g2 := S2.out; have e2 := one_bd b2 rq; have g3 := S3.out; have e3 := one_bd b3 rq; have g4 := S4.out; have e4 := one_bd b4 rq; (rw [wrap_in]); unfold I64; omega
  have F4 : Hid ((b4 && rq) = false → s3 = s4) := fun h1 => by
    have g := S4.out; (have hz : one b4 rq = 0 := by simp [one, h1]); omega
  have RES : Hid (sameZ rq b1 b2 b3 b4 = if s4 = 2 then -1 else s4) := by
    have g1 := S1.out; have g2 := S2.out; have g3 := S3.out; have g4 := S4.out
    show sameZ rq b1 b2 b3 b4 = _
    unfold sameZ
    rw [show one b1 rq + one b2 rq + one b3 rq + one b4 rq = s4 by omega]
  have hix0 := fun (ux uy vx vy : Int) => ix0 ux uy vx vy
  have hix1 := fun (ux uy vx vy : Int) => ix1 ux uy vx vy
  go_enter Tryz.func22, Tryz.ntmps22
  go_wp2
  go_loopw [5, 29] (fun sl i wr => (Ext w wr ∧ w.heap.size + 2 ≤ wr.heap.size) ∧ ((fun W => (W.cell? ⟨w.heap.size, 0, none⟩ = some (.int .i64 cx) ∧ W.cell? ⟨w.heap.size, 1, none⟩ = some (.int .i64 cy) ∧ W.cell? ⟨w.heap.size, 2, none⟩ = some (.int .i64 r) ∧ W.cell? ⟨w.heap.size, 3, none⟩ = some (.int .i64 ux) ∧ W.cell? ⟨w.heap.size, 4, none⟩ = some (.int .i64 uy) ∧ W.cell? ⟨w.heap.size, 5, none⟩ = some (.int .i64 vx) ∧ W.cell? ⟨w.heap.size, 6, none⟩ = some (.int .i64 vy) ∧ W.cell? ⟨w.heap.size + 1, 0, none⟩ = some (.int .i64 cx) ∧ W.cell? ⟨w.heap.size + 1, 1, none⟩ = some (.int .i64 cy) ∧ W.cell? ⟨w.heap.size + 1, 2, none⟩ = some (.int .i64 q) ∧ W.cell? ⟨w.heap.size + 1, 3, none⟩ = some (.int .i64 sx) ∧ W.cell? ⟨w.heap.size + 1, 4, none⟩ = some (.int .i64 sy) ∧ W.cell? ⟨w.heap.size + 1, 5, none⟩ = some (.int .i64 tx) ∧ W.cell? ⟨w.heap.size + 1, 6, none⟩ = some (.int .i64 ty) )) wr) ∧ ((i = .int .i64 0 ∧ sl = .int .i64 0) ∨ (i = .int .i64 1 ∧ sl = .int .i64 s2) ∨ (i = .int .i64 2 ∧ sl = .int .i64 s4))) (fun _ i _ => 2 - (intOf i).toNat)
  case atStart =>
    refine ⟨⟨bxx, by simp⟩, ?_, .inl ⟨rfl, rfl⟩⟩
    (try dsimp only)
    go_simp
  case round =>
    obtain ⟨⟨hxr, hzr⟩, hcr, hrel⟩ := hrel
    (try dsimp only at hcr)
    rcases hrel with ⟨rfl, rfl⟩ | ⟨rfl, rfl⟩ | ⟨rfl, rfl⟩
    · obtain ⟨wo, hwo⟩ : ∃ wo, wo = wr := ⟨_, rfl⟩
      subst hwo
      have z0 : w.heap.size < wo.heap.size := by omega
      have z1 : w.heap.size + 1 < wo.heap.size := by omega
      go_wp2
      go_loopw [5, 34] (fun sl i wq => (Ext w wq ∧ wo.heap.size + 1 ≤ wq.heap.size) ∧ ((fun W => (W.cell? ⟨w.heap.size, 0, none⟩ = some (.int .i64 cx) ∧ W.cell? ⟨w.heap.size, 1, none⟩ = some (.int .i64 cy) ∧ W.cell? ⟨w.heap.size, 2, none⟩ = some (.int .i64 r) ∧ W.cell? ⟨w.heap.size, 3, none⟩ = some (.int .i64 ux) ∧ W.cell? ⟨w.heap.size, 4, none⟩ = some (.int .i64 uy) ∧ W.cell? ⟨w.heap.size, 5, none⟩ = some (.int .i64 vx) ∧ W.cell? ⟨w.heap.size, 6, none⟩ = some (.int .i64 vy) ∧ W.cell? ⟨w.heap.size + 1, 0, none⟩ = some (.int .i64 cx) ∧ W.cell? ⟨w.heap.size + 1, 1, none⟩ = some (.int .i64 cy) ∧ W.cell? ⟨w.heap.size + 1, 2, none⟩ = some (.int .i64 q) ∧ W.cell? ⟨w.heap.size + 1, 3, none⟩ = some (.int .i64 sx) ∧ W.cell? ⟨w.heap.size + 1, 4, none⟩ = some (.int .i64 sy) ∧ W.cell? ⟨w.heap.size + 1, 5, none⟩ = some (.int .i64 tx) ∧ W.cell? ⟨w.heap.size + 1, 6, none⟩ = some (.int .i64 ty) ∧ W.cell? ⟨wo.heap.size, 0, none⟩ = some (.int .i64 ux) ∧ W.cell? ⟨wo.heap.size, 1, none⟩ = some (.int .i64 uy) )) wq) ∧ ((i = .int .i64 0 ∧ sl = .int .i64 0) ∨ (i = .int .i64 1 ∧ sl = .int .i64 s1) ∨ (i = .int .i64 2 ∧ sl = .int .i64 s2))) (fun _ i _ => 2 - (intOf i).toNat)
      case atStart =>
        refine ⟨⟨bxx, by simp⟩, ?_, .inl ⟨rfl, rfl⟩⟩
        (try dsimp only)
        go_simp
      case round =>
        obtain ⟨⟨hxq, hzq⟩, hcq, hrel⟩ := hrel
        (try dsimp only at hcq)
        have y0 : w.heap.size < wr.heap.size := by omega
        have y1 : w.heap.size + 1 < wr.heap.size := by omega
        have y2 : wo.heap.size < wr.heap.size := by omega
        clear hcr hxr
        rcases hrel with ⟨rfl, rfl⟩ | ⟨rfl, rfl⟩ | ⟨rfl, rfl⟩
        · cases hb : b1 with
          | false =>
            rw [hb] at heq1 F1
            clear hb
            go_wp2
            refine ⟨⟨⟨bxx, by first | omega | (simp; omega)⟩, ?_, .inr (.inl ⟨rfl, ?_⟩)⟩, by simp [intOf]⟩
            · (try dsimp only)
              go_simp
            · exact congrArg (Value.int IntKind.i64) (F1.out rfl)
          | true =>
            rw [hb] at heq1 F1 T1
            clear hb
            cases hr2 : rq with
            | false =>
              rw [hr2] at hrq F1
              clear hr2
              go_wp2
              refine ⟨⟨⟨bxx, by first | omega | (simp; omega)⟩, ?_, .inr (.inl ⟨rfl, ?_⟩)⟩, by simp [intOf]⟩
              · (try dsimp only)
                go_simp
              · exact congrArg (Value.int IntKind.i64) (F1.out rfl)
            | true =>
              rw [hr2] at hrq T1
              clear hr2
              go_wp2
              refine ⟨⟨⟨bxx, by first | omega | (simp; omega)⟩, ?_, .inr (.inl ⟨rfl, ?_⟩)⟩, by simp [intOf]⟩
              · (try dsimp only)
                go_simp
              · exact congrArg (Value.int IntKind.i64) (T1.out rfl rfl)
        · cases hb : b2 with
          | false =>
            rw [hb] at heq2 F2
            clear hb
            go_wp2
            refine ⟨⟨⟨bxx, by first | omega | (simp; omega)⟩, ?_, .inr (.inr ⟨rfl, ?_⟩)⟩, by simp [intOf]⟩
            · (try dsimp only)
              go_simp
            · exact congrArg (Value.int IntKind.i64) (F2.out rfl)
          | true =>
            rw [hb] at heq2 F2 T2
            clear hb
            cases hr2 : rq with
            | false =>
              rw [hr2] at hrq F2
              clear hr2
              go_wp2
              refine ⟨⟨⟨bxx, by first | omega | (simp; omega)⟩, ?_, .inr (.inr ⟨rfl, ?_⟩)⟩, by simp [intOf]⟩
              · (try dsimp only)
                go_simp
              · exact congrArg (Value.int IntKind.i64) (F2.out rfl)
            | true =>
              rw [hr2] at hrq T2
              clear hr2
              go_wp2
              refine ⟨⟨⟨bxx, by first | omega | (simp; omega)⟩, ?_, .inr (.inr ⟨rfl, ?_⟩)⟩, by simp [intOf]⟩
              · (try dsimp only)
                go_simp
              · exact congrArg (Value.int IntKind.i64) (T2.out rfl rfl)
        · go_wp2
          refine ⟨⟨⟨bxx, by first | omega | (simp; omega)⟩, ?_, .inr (.inl ⟨rfl, rfl⟩)⟩, by simp [intOf]⟩
          (try dsimp only)
          go_simp
    · obtain ⟨wo, hwo⟩ : ∃ wo, wo = wr := ⟨_, rfl⟩
      subst hwo
      have z0 : w.heap.size < wo.heap.size := by omega
      have z1 : w.heap.size + 1 < wo.heap.size := by omega
      go_wp2
      go_loopw [5, 34] (fun sl i wq => (Ext w wq ∧ wo.heap.size + 1 ≤ wq.heap.size) ∧ ((fun W => (W.cell? ⟨w.heap.size, 0, none⟩ = some (.int .i64 cx) ∧ W.cell? ⟨w.heap.size, 1, none⟩ = some (.int .i64 cy) ∧ W.cell? ⟨w.heap.size, 2, none⟩ = some (.int .i64 r) ∧ W.cell? ⟨w.heap.size, 3, none⟩ = some (.int .i64 ux) ∧ W.cell? ⟨w.heap.size, 4, none⟩ = some (.int .i64 uy) ∧ W.cell? ⟨w.heap.size, 5, none⟩ = some (.int .i64 vx) ∧ W.cell? ⟨w.heap.size, 6, none⟩ = some (.int .i64 vy) ∧ W.cell? ⟨w.heap.size + 1, 0, none⟩ = some (.int .i64 cx) ∧ W.cell? ⟨w.heap.size + 1, 1, none⟩ = some (.int .i64 cy) ∧ W.cell? ⟨w.heap.size + 1, 2, none⟩ = some (.int .i64 q) ∧ W.cell? ⟨w.heap.size + 1, 3, none⟩ = some (.int .i64 sx) ∧ W.cell? ⟨w.heap.size + 1, 4, none⟩ = some (.int .i64 sy) ∧ W.cell? ⟨w.heap.size + 1, 5, none⟩ = some (.int .i64 tx) ∧ W.cell? ⟨w.heap.size + 1, 6, none⟩ = some (.int .i64 ty) ∧ W.cell? ⟨wo.heap.size, 0, none⟩ = some (.int .i64 vx) ∧ W.cell? ⟨wo.heap.size, 1, none⟩ = some (.int .i64 vy) )) wq) ∧ ((i = .int .i64 0 ∧ sl = .int .i64 s2) ∨ (i = .int .i64 1 ∧ sl = .int .i64 s3) ∨ (i = .int .i64 2 ∧ sl = .int .i64 s4))) (fun _ i _ => 2 - (intOf i).toNat)
      case atStart =>
        refine ⟨⟨bxx, by simp⟩, ?_, .inl ⟨rfl, rfl⟩⟩
        (try dsimp only)
        go_simp
      case round =>
        obtain ⟨⟨hxq, hzq⟩, hcq, hrel⟩ := hrel
        (try dsimp only at hcq)
        have y0 : w.heap.size < wr.heap.size := by omega
        have y1 : w.heap.size + 1 < wr.heap.size := by omega
        have y2 : wo.heap.size < wr.heap.size := by omega
        clear hcr hxr
        rcases hrel with ⟨rfl, rfl⟩ | ⟨rfl, rfl⟩ | ⟨rfl, rfl⟩
        · cases hb : b3 with
          | false =>
            rw [hb] at heq3 F3
            clear hb
            go_wp2
            refine ⟨⟨⟨bxx, by first | omega | (simp; omega)⟩, ?_, .inr (.inl ⟨rfl, ?_⟩)⟩, by simp [intOf]⟩
            · (try dsimp only)
              go_simp
            · exact congrArg (Value.int IntKind.i64) (F3.out rfl)
          | true =>
            rw [hb] at heq3 F3 T3
            clear hb
            cases hr2 : rq with
            | false =>
              rw [hr2] at hrq F3
              clear hr2
              go_wp2
              refine ⟨⟨⟨bxx, by first | omega | (simp; omega)⟩, ?_, .inr (.inl ⟨rfl, ?_⟩)⟩, by simp [intOf]⟩
              · (try dsimp only)
                go_simp
              · exact congrArg (Value.int IntKind.i64) (F3.out rfl)
            | true =>
              rw [hr2] at hrq T3
              clear hr2
              go_wp2
              refine ⟨⟨⟨bxx, by first | omega | (simp; omega)⟩, ?_, .inr (.inl ⟨rfl, ?_⟩)⟩, by simp [intOf]⟩
              · (try dsimp only)
                go_simp
              · exact congrArg (Value.int IntKind.i64) (T3.out rfl rfl)
        · cases hb : b4 with
          | false =>
            rw [hb] at heq4 F4
            clear hb
            go_wp2
            refine ⟨⟨⟨bxx, by first | omega | (simp; omega)⟩, ?_, .inr (.inr ⟨rfl, ?_⟩)⟩, by simp [intOf]⟩
            · (try dsimp only)
              go_simp
            · exact congrArg (Value.int IntKind.i64) (F4.out rfl)
          | true =>
            rw [hb] at heq4 F4 T4
            clear hb
            cases hr2 : rq with
            | false =>
              rw [hr2] at hrq F4
              clear hr2
              go_wp2
              refine ⟨⟨⟨bxx, by first | omega | (simp; omega)⟩, ?_, .inr (.inr ⟨rfl, ?_⟩)⟩, by simp [intOf]⟩
              · (try dsimp only)
                go_simp
              · exact congrArg (Value.int IntKind.i64) (F4.out rfl)
            | true =>
              rw [hr2] at hrq T4
              clear hr2
              go_wp2
              refine ⟨⟨⟨bxx, by first | omega | (simp; omega)⟩, ?_, .inr (.inr ⟨rfl, ?_⟩)⟩, by simp [intOf]⟩
              · (try dsimp only)
                go_simp
              · exact congrArg (Value.int IntKind.i64) (T4.out rfl rfl)
        · go_wp2
          refine ⟨⟨⟨bxx, by first | omega | (simp; omega)⟩, ?_, .inr (.inr ⟨rfl, rfl⟩)⟩, by simp [intOf]⟩
          (try dsimp only)
          go_simp
    · by_cases h2 : s4 = 2
      · have h2b : (s4 == 2) = true := by simp [h2]
        have Q := Lib.hid h2
        clear h2
        go_wp2
        go_ret
        exact ⟨ret_int (by rw [RES.out, if_pos Q.out]), hxr⟩
      · have h2b : (s4 == 2) = false := by simp [h2]
        have Q := Lib.hid h2
        clear h2
        go_wp2
        go_ret
        exact ⟨ret_int (by rw [RES.out, if_neg Q.out]), hxr⟩
end Go.Proofs.YtmmhiiiaccldmaaGreat

namespace Go.Proofs.YtmmhiiiaccldmaaGreat
open Go.RowKit
attribute [local go_sem] Gives givesU

/-- The cross product of q - p and r - p. -/
def crI (px py qx qy rx ry : Int) : Int := (qx - px) * (ry - py) - (qy - py) * (rx - px)
/-- How many points two lines have in common: p to q, and r to s. -/
def linesZ (px py qx qy rx ry sx sy : Int) : Int :=
  if (qx - px) * (sy - ry) - (qy - py) * (sx - rx) ≠ 0 then
    if 0 < sideI (crI px py qx qy rx ry) * sideI (crI px py qx qy sx sy) then 0
    else if 0 < sideI (crI rx ry sx sy px py) * sideI (crI rx ry sx sy qx qy) then 0 else 1
  else if sideI (crI px py qx qy rx ry) ≠ 0 then 0
  else if max 0 (min ((rx - px) * (qx - px) + (ry - py) * (qy - py)) ((sx - px) * (qx - px) + (sy - py) * (qy - py))) < min ((qx - px) * (qx - px) + (qy - py) * (qy - py)) (max ((rx - px) * (qx - px) + (ry - py) * (qy - py)) ((sx - px) * (qx - px) + (sy - py) * (qy - py))) then -1
  else if max 0 (min ((rx - px) * (qx - px) + (ry - py) * (qy - py)) ((sx - px) * (qx - px) + (sy - py) * (qy - py))) = min ((qx - px) * (qx - px) + (qy - py) * (qy - py)) (max ((rx - px) * (qx - px) + (ry - py) * (qy - py)) ((sx - px) * (qx - px) + (sy - py) * (qy - py))) then 1 else 0

theorem sideI_bd (n : Int) : -1 ≤ sideI n ∧ sideI n ≤ 1 := by unfold sideI; (repeat' split) <;> omega
theorem side_any (px py qx qy rx ry : Int) (h1 : Co px) (h2 : Co py) (h3 : Co qx) (h4 : Co qy) (h5 : Co rx) (h6 : Co ry) (w : World) :
    Calls Tryz.prog 39 #[.agg #[.int .i64 px, .int .i64 py], .agg #[.int .i64 qx, .int .i64 qy], .agg #[.int .i64 rx, .int .i64 ry]] w fun e w' => e = .returned (.int .i64 (sideI (crI px py qx qy rx ry))) ∧ Ext w w' :=
  vec_Side px py qx qy rx ry w (h3.sub h1).i64 (h4.sub h2).i64 (h5.sub h1).i64 (h6.sub h2).i64 ((h3.sub h1).mul64 (h6.sub h2)) ((h4.sub h2).mul64 (h5.sub h1)) ((h3.sub h1).cross (h6.sub h2) (h4.sub h2) (h5.sub h1))

theorem run_max2 {P : Program} {w : World} (ts : Array TypeId) (t : TypeId) (x y : Int) : (Builtin.max_ ts t #[.int .i64 x, .int .i64 y]).run P w = .ok (.int .i64 (max x y)) w := by
  have h : (Builtin.max_ ts t #[.int .i64 x, .int .i64 y]).run P w = .ok (.int .i64 (if y > x then y else x)) w := by
    simp [Builtin.max_, Builtin.max2]
  rw [h]
  congr 2
  split <;> omega
theorem run_min2 {P : Program} {w : World} (ts : Array TypeId) (t : TypeId) (x y : Int) : (Builtin.min_ ts t #[.int .i64 x, .int .i64 y]).run P w = .ok (.int .i64 (min x y)) w := by
  have h : (Builtin.min_ ts t #[.int .i64 x, .int .i64 y]).run P w = .ok (.int .i64 (if y < x then y else x)) w := by
    simp [Builtin.min_, Builtin.min2]
  rw [h]
  congr 2
  split <;> omega

set_option maxRecDepth 100000 in
set_option maxHeartbeats 4000000 in
theorem meet_bothLines (px py qx qy rx ry sx sy : Int) (w : World) (h1 : Co px) (h2 : Co py) (h3 : Co qx) (h4 : Co qy) (h5 : Co rx) (h6 : Co ry) (h7 : Co sx) (h8 : Co sy) :
    Calls Tryz.prog 20 #[.agg #[.int .i64 px, .int .i64 py, .int .i64 qx, .int .i64 qy], .agg #[.int .i64 rx, .int .i64 ry, .int .i64 sx, .int .i64 sy]] w fun e w' => e = .returned (.int .i64 (linesZ px py qx qy rx ry sx sy)) ∧ Ext w w' := by
  have SD := Lib.hid (fun w => vec_Sub qx qy px py w (h3.sub h1).i64 (h4.sub h2).i64)
  have SE := Lib.hid (fun w => vec_Sub sx sy rx ry w (h7.sub h5).i64 (h8.sub h6).i64)
  have CR := fun w => vec_Cross (qx - px) (qy - py) (sx - rx) (sy - ry) w ((h3.sub h1).mul64 (h8.sub h6)) ((h4.sub h2).mul64 (h7.sub h5)) ((h3.sub h1).cross (h8.sub h6) (h4.sub h2) (h7.sub h5))
  have S1 := side_any px py qx qy rx ry h1 h2 h3 h4 h5 h6
  have S2 := side_any px py qx qy sx sy h1 h2 h3 h4 h7 h8
  have S3 := side_any rx ry sx sy px py h5 h6 h7 h8 h1 h2
  have S4 := side_any rx ry sx sy qx qy h5 h6 h7 h8 h3 h4
  have RP := Lib.hid (fun w => vec_Sub rx ry px py w (h5.sub h1).i64 (h6.sub h2).i64)
  have SP := Lib.hid (fun w => vec_Sub sx sy px py w (h7.sub h1).i64 (h8.sub h2).i64)
  have D1 := fun w => vec_Dot (rx - px) (ry - py) (qx - px) (qy - py) w ((h5.sub h1).mul64 (h3.sub h1)) ((h6.sub h2).mul64 (h4.sub h2)) ((h5.sub h1).dot (h3.sub h1) (h6.sub h2) (h4.sub h2))
  have D2 := fun w => vec_Dot (sx - px) (sy - py) (qx - px) (qy - py) w ((h7.sub h1).mul64 (h3.sub h1)) ((h8.sub h2).mul64 (h4.sub h2)) ((h7.sub h1).dot (h3.sub h1) (h8.sub h2) (h4.sub h2))
  have D3 := fun w => vec_Dot (qx - px) (qy - py) (qx - px) (qy - py) w ((h3.sub h1).mul64 (h3.sub h1)) ((h4.sub h2).mul64 (h4.sub h2)) ((h3.sub h1).dot (h3.sub h1) (h4.sub h2) (h4.sub h2))
  obtain ⟨R, RES⟩ : ∃ R, Hid (linesZ px py qx qy rx ry sx sy = R) := ⟨_, rfl⟩
  have RES' := RES.out
  unfold linesZ at RES'
  obtain ⟨s1, B1⟩ : ∃ s, Hid (sideI (crI px py qx qy rx ry) = s) := ⟨_, rfl⟩
  obtain ⟨s2, B2⟩ : ∃ s, Hid (sideI (crI px py qx qy sx sy) = s) := ⟨_, rfl⟩
  obtain ⟨s3, B3⟩ : ∃ s, Hid (sideI (crI rx ry sx sy px py) = s) := ⟨_, rfl⟩
  obtain ⟨s4, B4⟩ : ∃ s, Hid (sideI (crI rx ry sx sy qx qy) = s) := ⟨_, rfl⟩
  have b1 := sideI_bd (crI px py qx qy rx ry)
  have b2 := sideI_bd (crI px py qx qy sx sy)
  have b3 := sideI_bd (crI rx ry sx sy px py)
  have b4 := sideI_bd (crI rx ry sx sy qx qy)
  rw [B1.out] at b1 S1
  rw [B2.out] at b2 S2
  rw [B3.out] at b3 S3
  rw [B4.out] at b4 S4
  obtain ⟨c, C⟩ : ∃ c, Hid ((qx - px) * (sy - ry) - (qy - py) * (sx - rx) = c) := ⟨_, rfl⟩
  obtain ⟨d1, E1⟩ : ∃ c, Hid ((rx - px) * (qx - px) + (ry - py) * (qy - py) = c) := ⟨_, rfl⟩
  obtain ⟨d2, E2⟩ : ∃ c, Hid ((sx - px) * (qx - px) + (sy - py) * (qy - py) = c) := ⟨_, rfl⟩
  obtain ⟨d3, E3⟩ : ∃ c, Hid ((qx - px) * (qx - px) + (qy - py) * (qy - py) = c) := ⟨_, rfl⟩
  rw [C.out] at CR
  rw [E1.out] at D1
  rw [E2.out] at D2
  rw [E3.out] at D3
  rw [B1.out, B2.out, B3.out, B4.out, C.out, E1.out, E2.out, E3.out] at RES'
  have m1 := unit_mul b1 b2
  have m2 := unit_mul b3 b4
  obtain ⟨u, U⟩ : ∃ u, Hid (s1 * s2 = u) := ⟨_, rfl⟩
  obtain ⟨v, V⟩ : ∃ u, Hid (s3 * s4 = u) := ⟨_, rfl⟩
  rw [U.out] at m1 RES'
  rw [V.out] at m2 RES'
  have hu : IntKind.i64.wrap (s1 * s2) = u := by rw [U.out]; exact wrap_in (by unfold I64; omega)
  have hv : IntKind.i64.wrap (s3 * s4) = v := by rw [V.out]; exact wrap_in (by unfold I64; omega)
  have CR := Lib.hid CR
  have S1 := Lib.hid S1
  have S2 := Lib.hid S2
  have S3 := Lib.hid S3
  have S4 := Lib.hid S4
  have D1 := Lib.hid D1
  have D2 := Lib.hid D2
  have D3 := Lib.hid D3
  have RES' := Lib.hid RES'
  rw [RES.out]
  clear h1 h2 h3 h4 h5 h6 h7 h8 b1 b2 b3 b4
  have hmax := @run_max2 Tryz.prog
  have hmin := @run_min2 Tryz.prog
  go_enter Tryz.func20, Tryz.ntmps20
  go_wp2_with fail
  refine (SD.out _).mono ?_
  rintro e w1 ⟨rfl, hx⟩
  have hx0 : Ext w w1 := Ext.step bxx hx
  have hs0 := hx0.size
  have hz_w1 : w.heap.size + 2 ≤ w1.heap.size := Nat.le_trans omm hx.size
  obtain ⟨hl_w1_0, hk_w1_0, hf_w1_0⟩ := extK hx (w.heap.size)
  obtain ⟨hl_w1_1, hk_w1_1, hf_w1_1⟩ := extK hx (w.heap.size + 1)
  clear hx
  go_wp2_with fail
  refine wp_FS (fun W => W.cell? ⟨w.heap.size, 0, none⟩ = some (.int .i64 px) ∧ W.cell? ⟨w.heap.size, 1, none⟩ = some (.int .i64 py) ∧ W.cell? ⟨w.heap.size, 2, none⟩ = some (.int .i64 qx) ∧ W.cell? ⟨w.heap.size, 3, none⟩ = some (.int .i64 qy) ∧ W.cell? ⟨w.heap.size + 1, 0, none⟩ = some (.int .i64 rx) ∧ W.cell? ⟨w.heap.size + 1, 1, none⟩ = some (.int .i64 ry) ∧ W.cell? ⟨w.heap.size + 1, 2, none⟩ = some (.int .i64 sx) ∧ W.cell? ⟨w.heap.size + 1, 3, none⟩ = some (.int .i64 sy) ∧ W.cell? ⟨w1.heap.size, 0, none⟩ = some (.int .i64 (qx-px)) ∧ W.cell? ⟨w1.heap.size, 1, none⟩ = some (.int .i64 (qy-py))) ?_
  repeat (first | refine F_s ?_ | refine F_r ?_)
  (refine F_call (v := .agg #[.int .i64 (sx-rx), .int .i64 (sy-ry)]) (by rfl) (by rfl) ?_ ?_; (· (intro W hW; (try dsimp only at hW); go_simp; refine (SE.out _).mono ?_; rintro e w' ⟨rfl, hx⟩; exact ⟨_, rfl, rfl, hx⟩))); refine F_put ?_
  (refine F_call (v := .int .i64 c) (by rfl) (by rfl) ?_ ?_; (· (intro W hW; (try dsimp only at hW); go_simp; refine (CR.out _).mono ?_; rintro e w' ⟨rfl, hx⟩; exact ⟨_, rfl, rfl, hx⟩))); refine F_put ?_
  repeat (first | refine F_s ?_ | refine F_r ?_)
  rintro W ⟨hx, hc⟩
  have hx2 : Ext w W := Ext.step bxx hx
  have hsz := hx.size
  simp at hsz
  clear hx
  by_cases hc0 : c = 0
  · have cb : (c == 0) = true := by simp [hc0]
    have C0 := Lib.hid hc0
    clear hc0
    by_cases hs1 : s1 = 0
    · have sb : (s1 == 0) = true := by simp [hs1]
      have Z1 := Lib.hid hs1
      clear hs1
      go_upto_region 6 with (fail)
      refine wp_FS (fun W => W.cell? ⟨w.heap.size, 0, none⟩ = some (.int .i64 px) ∧ W.cell? ⟨w.heap.size, 1, none⟩ = some (.int .i64 py) ∧ W.cell? ⟨w.heap.size, 2, none⟩ = some (.int .i64 qx) ∧ W.cell? ⟨w.heap.size, 3, none⟩ = some (.int .i64 qy) ∧ W.cell? ⟨w.heap.size + 1, 0, none⟩ = some (.int .i64 rx) ∧ W.cell? ⟨w.heap.size + 1, 1, none⟩ = some (.int .i64 ry) ∧ W.cell? ⟨w.heap.size + 1, 2, none⟩ = some (.int .i64 sx) ∧ W.cell? ⟨w.heap.size + 1, 3, none⟩ = some (.int .i64 sy) ∧ W.cell? ⟨w1.heap.size, 0, none⟩ = some (.int .i64 (qx-px)) ∧ W.cell? ⟨w1.heap.size, 1, none⟩ = some (.int .i64 (qy-py))) ?_
      repeat (first | refine F_s ?_ | refine F_r ?_)
      (refine F_call (v := .int .i64 s1) (by rfl) (by rfl) ?_ ?_; (· (intro W hW; (try dsimp only at hW); go_simp; refine (S1.out _).mono ?_; rintro e w' ⟨rfl, hx⟩; exact ⟨_, rfl, rfl, hx⟩))); refine F_put ?_
      repeat (first | refine F_s ?_ | refine F_r ?_)
      rintro W2 ⟨hx, hc⟩
      have hx3 : Ext w W2 := Ext.step hx2 hx
      have hsz2 := hx.size
      clear hx
      go_wp2_with fail
      refine wp_FS (fun W => W.cell? ⟨w.heap.size, 0, none⟩ = some (.int .i64 px) ∧ W.cell? ⟨w.heap.size, 1, none⟩ = some (.int .i64 py) ∧ W.cell? ⟨w.heap.size, 2, none⟩ = some (.int .i64 qx) ∧ W.cell? ⟨w.heap.size, 3, none⟩ = some (.int .i64 qy) ∧ W.cell? ⟨w.heap.size + 1, 0, none⟩ = some (.int .i64 rx) ∧ W.cell? ⟨w.heap.size + 1, 1, none⟩ = some (.int .i64 ry) ∧ W.cell? ⟨w.heap.size + 1, 2, none⟩ = some (.int .i64 sx) ∧ W.cell? ⟨w.heap.size + 1, 3, none⟩ = some (.int .i64 sy) ∧ W.cell? ⟨w1.heap.size, 0, none⟩ = some (.int .i64 (qx-px)) ∧ W.cell? ⟨w1.heap.size, 1, none⟩ = some (.int .i64 (qy-py))) ?_
      repeat (first | refine F_s ?_ | refine F_r ?_)
      (refine F_call (v := .agg #[.int .i64 (rx-px), .int .i64 (ry-py)]) (by rfl) (by rfl) ?_ ?_; (· (intro W hW; (try dsimp only at hW); go_simp; refine (RP.out _).mono ?_; rintro e w' ⟨rfl, hx⟩; exact ⟨_, rfl, rfl, hx⟩))); refine F_put ?_
      repeat (first | refine F_s ?_ | refine F_r ?_)
      (refine F_call (v := .int .i64 d1) (by rfl) (by rfl) ?_ ?_; (· (intro W hW; (try dsimp only at hW); go_simp; refine (D1.out _).mono ?_; rintro e w' ⟨rfl, hx⟩; exact ⟨_, rfl, rfl, hx⟩))); refine F_put ?_
      repeat (first | refine F_s ?_ | refine F_r ?_)
      (refine F_call (v := .agg #[.int .i64 (sx-px), .int .i64 (sy-py)]) (by rfl) (by rfl) ?_ ?_; (· (intro W hW; (try dsimp only at hW); go_simp; refine (SP.out _).mono ?_; rintro e w' ⟨rfl, hx⟩; exact ⟨_, rfl, rfl, hx⟩))); refine F_put ?_
      repeat (first | refine F_s ?_ | refine F_r ?_)
      (refine F_call (v := .int .i64 d2) (by rfl) (by rfl) ?_ ?_; (· (intro W hW; (try dsimp only at hW); go_simp; refine (D2.out _).mono ?_; rintro e w' ⟨rfl, hx⟩; exact ⟨_, rfl, rfl, hx⟩))); refine F_put ?_
      repeat (first | refine F_s ?_ | refine F_r ?_)
      rintro W3 ⟨hx, hc⟩
      have hx4 : Ext w W3 := Ext.step hx3 hx
      have hsz3 := hx.size
      clear hx
      go_upto_region 9 with (fail)
      refine wp_FS (fun W => W.cell? ⟨w.heap.size, 0, none⟩ = some (.int .i64 px) ∧ W.cell? ⟨w.heap.size, 1, none⟩ = some (.int .i64 py) ∧ W.cell? ⟨w.heap.size, 2, none⟩ = some (.int .i64 qx) ∧ W.cell? ⟨w.heap.size, 3, none⟩ = some (.int .i64 qy) ∧ W.cell? ⟨w.heap.size + 1, 0, none⟩ = some (.int .i64 rx) ∧ W.cell? ⟨w.heap.size + 1, 1, none⟩ = some (.int .i64 ry) ∧ W.cell? ⟨w.heap.size + 1, 2, none⟩ = some (.int .i64 sx) ∧ W.cell? ⟨w.heap.size + 1, 3, none⟩ = some (.int .i64 sy) ∧ W.cell? ⟨w1.heap.size, 0, none⟩ = some (.int .i64 (qx-px)) ∧ W.cell? ⟨w1.heap.size, 1, none⟩ = some (.int .i64 (qy-py))) ?_
      repeat (first | refine F_s ?_ | refine F_r ?_)
      (refine F_call (v := .int .i64 d3) (by rfl) (by rfl) ?_ ?_; (· (intro W hW; (try dsimp only at hW); go_simp; refine (D3.out _).mono ?_; rintro e w' ⟨rfl, hx⟩; exact ⟨_, rfl, rfl, hx⟩))); refine F_put ?_
      repeat (first | refine F_s ?_ | refine F_r ?_)
      rintro W4 ⟨hx, hc⟩
      have hx5 : Ext w W4 := Ext.step hx4 hx
      clear hx hc
      have RR := RES'.out
      rw [if_neg (fun h => h C0.out), if_neg (fun h => h Z1.out)] at RR
      obtain ⟨f, FF⟩ : ∃ f, Hid (max 0 (min d1 d2) = f) := ⟨_, rfl⟩
      obtain ⟨g, GG⟩ : ∃ f, Hid (min d3 (max d1 d2) = f) := ⟨_, rfl⟩
      rw [FF.out, GG.out] at RR
      have hf := FF.out
      have hg := GG.out
      have RR := Lib.hid RR
      by_cases q1 : f < g
      · have Q1 := Lib.hid q1
        go_wp2
        go_ret
        exact ⟨ret_int (by rw [← RR.out, if_pos Q1.out]), hx5⟩
      · by_cases q2 : f = g
        · have Q1 := Lib.hid q1
          have Q2 := Lib.hid q2
          have q1b : decide (f < g) = false := by simp; omega
          have q2b : (f == g) = true := by simp [q2]
          clear q2
          go_wp2
          go_ret
          exact ⟨ret_int (by rw [← RR.out, if_neg (Int.not_lt.2 Q1.out), if_pos Q2.out]), hx5⟩
        · have Q1 := Lib.hid q1
          have Q2 := Lib.hid q2
          have q1b : decide (f < g) = false := by simp; omega
          have q2b : (f == g) = false := by simp [q2]
          clear q2
          go_wp2
          go_ret
          exact ⟨ret_int (by rw [← RR.out, if_neg (Int.not_lt.2 Q1.out), if_neg Q2.out]), hx5⟩
    · have sb : (s1 == 0) = false := by simp [hs1]
      have Q : Hid (R = 0) := by
        show R = 0
        rw [← RES'.out, if_neg (fun h => h C0.out), if_pos hs1]
      clear hs1
      go_upto_region 6 with (fail)
      refine wp_FS (fun W => W.cell? ⟨w.heap.size, 0, none⟩ = some (.int .i64 px) ∧ W.cell? ⟨w.heap.size, 1, none⟩ = some (.int .i64 py) ∧ W.cell? ⟨w.heap.size, 2, none⟩ = some (.int .i64 qx) ∧ W.cell? ⟨w.heap.size, 3, none⟩ = some (.int .i64 qy) ∧ W.cell? ⟨w.heap.size + 1, 0, none⟩ = some (.int .i64 rx) ∧ W.cell? ⟨w.heap.size + 1, 1, none⟩ = some (.int .i64 ry) ∧ W.cell? ⟨w.heap.size + 1, 2, none⟩ = some (.int .i64 sx) ∧ W.cell? ⟨w.heap.size + 1, 3, none⟩ = some (.int .i64 sy) ∧ W.cell? ⟨w1.heap.size, 0, none⟩ = some (.int .i64 (qx-px)) ∧ W.cell? ⟨w1.heap.size, 1, none⟩ = some (.int .i64 (qy-py))) ?_
      repeat (first | refine F_s ?_ | refine F_r ?_)
      (refine F_call (v := .int .i64 s1) (by rfl) (by rfl) ?_ ?_; (· (intro W hW; (try dsimp only at hW); go_simp; refine (S1.out _).mono ?_; rintro e w' ⟨rfl, hx⟩; exact ⟨_, rfl, rfl, hx⟩))); refine F_put ?_
      repeat (first | refine F_s ?_ | refine F_r ?_)
      rintro W2 ⟨hx, hc⟩
      have hx3 : Ext w W2 := Ext.step hx2 hx
      clear hx hc
      go_wp2
      go_ret
      exact ⟨by rw [Q.out]; rfl, hx3⟩
  · have cb : (c == 0) = false := by simp [hc0]
    have C0 := Lib.hid hc0
    clear hc0
    by_cases u0 : 0 < u
    · have ub : decide (0 < u) = true := decide_eq_true u0
      have Q : Hid (R = 0) := by
        show R = 0
        rw [← RES'.out, if_pos C0.out, if_pos u0]
      go_wp2_with fail
      refine wp_FS (fun W => W.cell? ⟨w.heap.size, 0, none⟩ = some (.int .i64 px) ∧ W.cell? ⟨w.heap.size, 1, none⟩ = some (.int .i64 py) ∧ W.cell? ⟨w.heap.size, 2, none⟩ = some (.int .i64 qx) ∧ W.cell? ⟨w.heap.size, 3, none⟩ = some (.int .i64 qy) ∧ W.cell? ⟨w.heap.size + 1, 0, none⟩ = some (.int .i64 rx) ∧ W.cell? ⟨w.heap.size + 1, 1, none⟩ = some (.int .i64 ry) ∧ W.cell? ⟨w.heap.size + 1, 2, none⟩ = some (.int .i64 sx) ∧ W.cell? ⟨w.heap.size + 1, 3, none⟩ = some (.int .i64 sy) ∧ W.cell? ⟨w1.heap.size, 0, none⟩ = some (.int .i64 (qx-px)) ∧ W.cell? ⟨w1.heap.size, 1, none⟩ = some (.int .i64 (qy-py))) ?_
      repeat (first | refine F_s ?_ | refine F_r ?_)
      (refine F_call (v := .int .i64 s1) (by rfl) (by rfl) ?_ ?_; (· (intro W hW; (try dsimp only at hW); go_simp; refine (S1.out _).mono ?_; rintro e w' ⟨rfl, hx⟩; exact ⟨_, rfl, rfl, hx⟩))); refine F_put ?_
      repeat (first | refine F_s ?_ | refine F_r ?_)
      (refine F_call (v := .int .i64 s2) (by rfl) (by rfl) ?_ ?_; (· (intro W hW; (try dsimp only at hW); go_simp; refine (S2.out _).mono ?_; rintro e w' ⟨rfl, hx⟩; exact ⟨_, rfl, rfl, hx⟩))); refine F_put ?_
      repeat (first | refine F_s ?_ | refine F_r ?_)
      rintro W2 ⟨hx, hc⟩
      have hx3 : Ext w W2 := Ext.step hx2 hx
      clear hx hc
      go_wp2
      go_ret
      exact ⟨by rw [Q.out]; rfl, hx3⟩
    · have ub : decide (0 < u) = false := decide_eq_false u0
      by_cases v0 : 0 < v
      · have vb : decide (0 < v) = true := decide_eq_true v0
        have Q : Hid (R = 0) := by
          show R = 0
          rw [← RES'.out, if_pos C0.out, if_neg u0, if_pos v0]
        go_wp2_with fail
        refine wp_FS (fun W => W.cell? ⟨w.heap.size, 0, none⟩ = some (.int .i64 px) ∧ W.cell? ⟨w.heap.size, 1, none⟩ = some (.int .i64 py) ∧ W.cell? ⟨w.heap.size, 2, none⟩ = some (.int .i64 qx) ∧ W.cell? ⟨w.heap.size, 3, none⟩ = some (.int .i64 qy) ∧ W.cell? ⟨w.heap.size + 1, 0, none⟩ = some (.int .i64 rx) ∧ W.cell? ⟨w.heap.size + 1, 1, none⟩ = some (.int .i64 ry) ∧ W.cell? ⟨w.heap.size + 1, 2, none⟩ = some (.int .i64 sx) ∧ W.cell? ⟨w.heap.size + 1, 3, none⟩ = some (.int .i64 sy) ∧ W.cell? ⟨w1.heap.size, 0, none⟩ = some (.int .i64 (qx-px)) ∧ W.cell? ⟨w1.heap.size, 1, none⟩ = some (.int .i64 (qy-py))) ?_
        repeat (first | refine F_s ?_ | refine F_r ?_)
        (refine F_call (v := .int .i64 s1) (by rfl) (by rfl) ?_ ?_; (· (intro W hW; (try dsimp only at hW); go_simp; refine (S1.out _).mono ?_; rintro e w' ⟨rfl, hx⟩; exact ⟨_, rfl, rfl, hx⟩))); refine F_put ?_
        repeat (first | refine F_s ?_ | refine F_r ?_)
        (refine F_call (v := .int .i64 s2) (by rfl) (by rfl) ?_ ?_; (· (intro W hW; (try dsimp only at hW); go_simp; refine (S2.out _).mono ?_; rintro e w' ⟨rfl, hx⟩; exact ⟨_, rfl, rfl, hx⟩))); refine F_put ?_
        repeat (first | refine F_s ?_ | refine F_r ?_)
        (refine F_call (v := .int .i64 s3) (by rfl) (by rfl) ?_ ?_; (· (intro W hW; (try dsimp only at hW); go_simp; refine (S3.out _).mono ?_; rintro e w' ⟨rfl, hx⟩; exact ⟨_, rfl, rfl, hx⟩))); refine F_put ?_
        repeat (first | refine F_s ?_ | refine F_r ?_)
        (refine F_call (v := .int .i64 s4) (by rfl) (by rfl) ?_ ?_; (· (intro W hW; (try dsimp only at hW); go_simp; refine (S4.out _).mono ?_; rintro e w' ⟨rfl, hx⟩; exact ⟨_, rfl, rfl, hx⟩))); refine F_put ?_
        repeat (first | refine F_s ?_ | refine F_r ?_)
        rintro W2 ⟨hx, hc⟩
        have hx3 : Ext w W2 := Ext.step hx2 hx
        clear hx hc
        go_wp2
        go_ret
        exact ⟨by rw [Q.out]; rfl, hx3⟩
      · have vb : decide (0 < v) = false := decide_eq_false v0
        have Q : Hid (R = 1) := by
          show R = 1
          rw [← RES'.out, if_pos C0.out, if_neg u0, if_neg v0]
        go_wp2_with fail
        refine wp_FS (fun W => W.cell? ⟨w.heap.size, 0, none⟩ = some (.int .i64 px) ∧ W.cell? ⟨w.heap.size, 1, none⟩ = some (.int .i64 py) ∧ W.cell? ⟨w.heap.size, 2, none⟩ = some (.int .i64 qx) ∧ W.cell? ⟨w.heap.size, 3, none⟩ = some (.int .i64 qy) ∧ W.cell? ⟨w.heap.size + 1, 0, none⟩ = some (.int .i64 rx) ∧ W.cell? ⟨w.heap.size + 1, 1, none⟩ = some (.int .i64 ry) ∧ W.cell? ⟨w.heap.size + 1, 2, none⟩ = some (.int .i64 sx) ∧ W.cell? ⟨w.heap.size + 1, 3, none⟩ = some (.int .i64 sy) ∧ W.cell? ⟨w1.heap.size, 0, none⟩ = some (.int .i64 (qx-px)) ∧ W.cell? ⟨w1.heap.size, 1, none⟩ = some (.int .i64 (qy-py))) ?_
        repeat (first | refine F_s ?_ | refine F_r ?_)
        (refine F_call (v := .int .i64 s1) (by rfl) (by rfl) ?_ ?_; (· (intro W hW; (try dsimp only at hW); go_simp; refine (S1.out _).mono ?_; rintro e w' ⟨rfl, hx⟩; exact ⟨_, rfl, rfl, hx⟩))); refine F_put ?_
        repeat (first | refine F_s ?_ | refine F_r ?_)
        (refine F_call (v := .int .i64 s2) (by rfl) (by rfl) ?_ ?_; (· (intro W hW; (try dsimp only at hW); go_simp; refine (S2.out _).mono ?_; rintro e w' ⟨rfl, hx⟩; exact ⟨_, rfl, rfl, hx⟩))); refine F_put ?_
        repeat (first | refine F_s ?_ | refine F_r ?_)
        (refine F_call (v := .int .i64 s3) (by rfl) (by rfl) ?_ ?_; (· (intro W hW; (try dsimp only at hW); go_simp; refine (S3.out _).mono ?_; rintro e w' ⟨rfl, hx⟩; exact ⟨_, rfl, rfl, hx⟩))); refine F_put ?_
        repeat (first | refine F_s ?_ | refine F_r ?_)
        (refine F_call (v := .int .i64 s4) (by rfl) (by rfl) ?_ ?_; (· (intro W hW; (try dsimp only at hW); go_simp; refine (S4.out _).mono ?_; rintro e w' ⟨rfl, hx⟩; exact ⟨_, rfl, rfl, hx⟩))); refine F_put ?_
        repeat (first | refine F_s ?_ | refine F_r ?_)
        rintro W2 ⟨hx, hc⟩
        have hx3 : Ext w W2 := Ext.step hx2 hx
        clear hx hc
        go_wp2
        go_ret
        exact ⟨by rw [Q.out]; rfl, hx3⟩
end Go.Proofs.YtmmhiiiaccldmaaGreat
