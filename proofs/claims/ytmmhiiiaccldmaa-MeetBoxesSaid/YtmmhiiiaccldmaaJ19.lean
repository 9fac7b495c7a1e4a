/- Contract: meet.bothArcs, about the same centre (printed by gen_same.py). -/
import Derived.Test.YtmmhiiiaccldmaaJ17
set_option linter.unusedVariables false
set_option linter.unusedSimpArgs false

namespace Go.Proofs.Ytmmhiiiaccldmaa
open Go.RowKit
attribute [local go_sem] Gives givesU

def one (a b : Bool) : Int := if a && b then 1 else 0
theorem one_bd (a b : Bool) : 0 ≤ one a b ∧ one a b ≤ 1 := by cases a <;> cases b <;> decide
/-- How many ends two arcs about the same centre have in common; -1 for arcs that are the same. -/
def sameZ (rq a b c d : Bool) : Int := if one a rq + one b rq + one c rq + one d rq = 2 then -1 else one a rq + one b rq + one c rq + one d rq

set_option maxRecDepth 100000 in
set_option maxHeartbeats 16000000 in
theorem meet_arcsSame (cx cy r ux uy vx vy q sx sy tx ty : Int) (w : World) :
    Calls Try.prog 30 #[.agg #[.int .i64 cx, .int .i64 cy, .int .i64 r, .int .i64 ux, .int .i64 uy, .int .i64 vx, .int .i64 vy], .agg #[.int .i64 cx, .int .i64 cy, .int .i64 q, .int .i64 sx, .int .i64 sy, .int .i64 tx, .int .i64 ty]] w fun e w' => e = .returned (.int .i64 (sameZ (r == q) (ux == sx && uy == sy) (ux == tx && uy == ty) (vx == sx && vy == sy) (vx == tx && vy == ty))) ∧ Ext w w' := by
  have heq0 : ∀ w : World, (binOp .eql 25 (.agg #[.int .i64 cx, .int .i64 cy]) (.agg #[.int .i64 cx, .int .i64 cy])).run Try.prog w = .ok (.bool true) w := fun w => by rw [eql_pt]; simp
  obtain ⟨rq, hrq⟩ : ∃ b, (r == q) = b := ⟨_, rfl⟩
  obtain ⟨b1, hb1⟩ : ∃ b, (ux == sx && uy == sy) = b := ⟨_, rfl⟩
  have heq1 : ∀ w : World, (binOp .eql 25 (.agg #[.int .i64 ux, .int .i64 uy]) (.agg #[.int .i64 sx, .int .i64 sy])).run Try.prog w = .ok (.bool b1) w := fun w => by rw [eql_pt, hb1]
  obtain ⟨b2, hb2⟩ : ∃ b, (ux == tx && uy == ty) = b := ⟨_, rfl⟩
  have heq2 : ∀ w : World, (binOp .eql 25 (.agg #[.int .i64 ux, .int .i64 uy]) (.agg #[.int .i64 tx, .int .i64 ty])).run Try.prog w = .ok (.bool b2) w := fun w => by rw [eql_pt, hb2]
  obtain ⟨b3, hb3⟩ : ∃ b, (vx == sx && vy == sy) = b := ⟨_, rfl⟩
  have heq3 : ∀ w : World, (binOp .eql 25 (.agg #[.int .i64 vx, .int .i64 vy]) (.agg #[.int .i64 sx, .int .i64 sy])).run Try.prog w = .ok (.bool b3) w := fun w => by rw [eql_pt, hb3]
  obtain ⟨b4, hb4⟩ : ∃ b, (vx == tx && vy == ty) = b := ⟨_, rfl⟩
  have heq4 : ∀ w : World, (binOp .eql 25 (.agg #[.int .i64 vx, .int .i64 vy]) (.agg #[.int .i64 tx, .int .i64 ty])).run Try.prog w = .ok (.bool b4) w := fun w => by rw [eql_pt, hb4]
  rw [hrq, hb1, hb2, hb3, hb4]
  clear hb1 hb2 hb3 hb4
  have S0 : Hid ((0 : Int) = 0) := rfl
  obtain ⟨s1, S1⟩ : ∃ z, Hid (0 + one b1 rq = z) := ⟨_, rfl⟩
  obtain ⟨s2, S2⟩ : ∃ z, Hid (s1 + one b2 rq = z) := ⟨_, rfl⟩
  obtain ⟨s3, S3⟩ : ∃ z, Hid (s2 + one b3 rq = z) := ⟨_, rfl⟩
  obtain ⟨s4, S4⟩ : ∃ z, Hid (s3 + one b4 rq = z) := ⟨_, rfl⟩
  have T1 : Hid (b1 = true → rq = true → 0 + 1 = s1) := fun h1 h2 => by
    have g1 := S1.out; have e1 := one_bd b1 rq; (have hz : one b1 rq = 1 := by rw [h1, h2]; rfl); omega
  have W1 : IntKind.i64.wrap (0 + 1) = 0 + 1 := by
    have g1 := S1.out; have e1 := one_bd b1 rq; (rw [wrap_in]); unfold I64; omega
  have F1 : Hid ((b1 && rq) = false → 0 = s1) := fun h1 => by
    have g := S1.out; (have hz : one b1 rq = 0 := by simp [one, h1]); omega
  have T2 : Hid (b2 = true → rq = true → s1 + 1 = s2) := fun h1 h2 => by
    have g1 := S1.out; have e1 := one_bd b1 rq; have g2 := S2.out; have e2 := one_bd b2 rq; (have hz : one b2 rq = 1 := by rw [h1, h2]; rfl); omega
  have W2 : IntKind.i64.wrap (s1 + 1) = s1 + 1 := by
    have g1 := S1.out; have e1 := one_bd b1 rq; have g2 := S2.out; have e2 := one_bd b2 rq; (rw [wrap_in]); unfold I64; omega
  have F2 : Hid ((b2 && rq) = false → s1 = s2) := fun h1 => by
    have g := S2.out; (have hz : one b2 rq = 0 := by simp [one, h1]); omega
  have T3 : Hid (b3 = true → rq = true → s2 + 1 = s3) := fun h1 h2 => by
    have g1 := S1.out; have e1 := one_bd b1 rq; have g2 := S2.out; have e2 := one_bd b2 rq; have g3 := S3.out; have e3 := one_bd b3 rq; (have hz : one b3 rq = 1 := by rw [h1, h2]; rfl); omega
  have W3 : IntKind.i64.wrap (s2 + 1) = s2 + 1 := by
    have g1 := S1.out; have e1 := one_bd b1 rq; have g2 := S2.out; have e2 := one_bd b2 rq; have g3 := S3.out; have e3 := one_bd b3 rq; (rw [wrap_in]); unfold I64; omega
  have F3 : Hid ((b3 && rq) = false → s2 = s3) := fun h1 => by
    have g := S3.out; (have hz : one b3 rq = 0 := by simp [one, h1]); omega
  have T4 : Hid (b4 = true → rq = true → s3 + 1 = s4) := fun h1 h2 => by
    have g1 := S1.out; have e1 := one_bd b1 rq; have g2 := S2.out; have e2 := one_bd b2 rq; have g3 := S3.out; have e3 := one_bd b3 rq; have g4 := S4.out; have e4 := one_bd b4 rq; (have hz : one b4 rq = 1 := by rw [h1, h2]; rfl); omega
  have W4 : IntKind.i64.wrap (s3 + 1) = s3 + 1 := by
    have g1 := S1.out; have e1 := one_bd b1 rq; have g2 := S2.out; have e2 := one_bd b2 rq; have g3 := S3.out; have e3 := one_bd b3 rq; have g4 := S4.out; have e4 := one_bd b4 rq; (rw [wrap_in]); unfold I64; omega
  have F4 : Hid ((b4 && rq) = false → s3 = s4) := fun h1 => by
    have g := S4.out; (have hz : one b4 rq = 0 := by simp [one, h1]); omega
  have RES : Hid (sameZ rq b1 b2 b3 b4 = if s4 = 2 then -1 else s4) := by
    have g1 := S1.out; have g2 := S2.out; have g3 := S3.out; have g4 := S4.out
    show sameZ rq b1 b2 b3 b4 = _
    unfold sameZ
    rw [show one b1 rq + one b2 rq + one b3 rq + one b4 rq = s4 by omega]
  have hix0 := fun (ux uy vx vy : Int) => ix0 ux uy vx vy
  have hix1 := fun (ux uy vx vy : Int) => ix1 ux uy vx vy
  go_enter Try.func30, Try.ntmps30
  go_wp2
  go_loopw [5, 29] (fun sl i wr => (Ext w wr ∧ w.heap.size + 2 ≤ wr.heap.size) ∧ ((fun W => (W.cell? ⟨w.heap.size, 0, none⟩ = some (.int .i64 cx) ∧ W.cell? ⟨w.heap.size, 1, none⟩ = some (.int .i64 cy) ∧ W.cell? ⟨w.heap.size, 2, none⟩ = some (.int .i64 r) ∧ W.cell? ⟨w.heap.size, 3, none⟩ = some (.int .i64 ux) ∧ W.cell? ⟨w.heap.size, 4, none⟩ = some (.int .i64 uy) ∧ W.cell? ⟨w.heap.size, 5, none⟩ = some (.int .i64 vx) ∧ W.cell? ⟨w.heap.size, 6, none⟩ = some (.int .i64 vy) ∧ W.cell? ⟨w.heap.size + 1, 0, none⟩ = some (.int .i64 cx) ∧ W.cell? ⟨w.heap.size + 1, 1, none⟩ = some (.int .i64 cy) ∧ W.cell? ⟨w.heap.size + 1, 2, none⟩ = some (.int .i64 q) ∧ W.cell? ⟨w.heap.size + 1, 3, none⟩ = some (.int .i64 sx) ∧ W.cell? ⟨w.heap.size + 1, 4, none⟩ = some (.int .i64 sy) ∧ W.cell? ⟨w.heap.size + 1, 5, none⟩ = some (.int .i64 tx) ∧ W.cell? ⟨w.heap.size + 1, 6, none⟩ = some (.int .i64 ty) )) wr) ∧ ((i = .int .i64 0 ∧ sl = .int .i64 0) ∨ (i = .int .i64 1 ∧ sl = .int .i64 s2) ∨ (i = .int .i64 2 ∧ sl = .int .i64 s4))) (fun _ i _ => 2 - (intOf i).toNat)
  case atStart =>
    refine ⟨⟨by (repeat (first | exact Below.refl _ _ | assumption | refine Below.drewN ?_ _ | refine Below.drew ?_ | refine Below.setCell ?_ (by first | exact Nat.le_refl _ | (simp; done) | (simp; omega) | omega) _ | refine Below.alloc ?_ (by first | exact Nat.le_refl _ | (simp; done) | (simp; omega) | omega) _)), by simp⟩, ?_, .inl ⟨rfl, rfl⟩⟩
    (try dsimp only)
    go_simp
  case round =>
    obtain ⟨⟨hxr, hzr⟩, hcr, hrel⟩ := hrel
    (try dsimp only at hcr)
    rcases hrel with ⟨rfl, rfl⟩ | ⟨rfl, rfl⟩ | ⟨rfl, rfl⟩
    · obtain ⟨wo, hwo⟩ : ∃ wo, wo = wr := ⟨_, rfl⟩
      subst hwo
      have z0 : w.heap.size < wo.heap.size := by omega
      have z1 : w.heap.size + 1 < wo.heap.size := by omega
      go_wp2
      go_loopw [5, 34] (fun sl i wq => (Ext w wq ∧ wo.heap.size + 1 ≤ wq.heap.size) ∧ ((fun W => (W.cell? ⟨w.heap.size, 0, none⟩ = some (.int .i64 cx) ∧ W.cell? ⟨w.heap.size, 1, none⟩ = some (.int .i64 cy) ∧ W.cell? ⟨w.heap.size, 2, none⟩ = some (.int .i64 r) ∧ W.cell? ⟨w.heap.size, 3, none⟩ = some (.int .i64 ux) ∧ W.cell? ⟨w.heap.size, 4, none⟩ = some (.int .i64 uy) ∧ W.cell? ⟨w.heap.size, 5, none⟩ = some (.int .i64 vx) ∧ W.cell? ⟨w.heap.size, 6, none⟩ = some (.int .i64 vy) ∧ W.cell? ⟨w.heap.size + 1, 0, none⟩ = some (.int .i64 cx) ∧ W.cell? ⟨w.heap.size + 1, 1, none⟩ = some (.int .i64 cy) ∧ W.cell? ⟨w.heap.size + 1, 2, none⟩ = some (.int .i64 q) ∧ W.cell? ⟨w.heap.size + 1, 3, none⟩ = some (.int .i64 sx) ∧ W.cell? ⟨w.heap.size + 1, 4, none⟩ = some (.int .i64 sy) ∧ W.cell? ⟨w.heap.size + 1, 5, none⟩ = some (.int .i64 tx) ∧ W.cell? ⟨w.heap.size + 1, 6, none⟩ = some (.int .i64 ty) ∧ W.cell? ⟨wo.heap.size, 0, none⟩ = some (.int .i64 ux) ∧ W.cell? ⟨wo.heap.size, 1, none⟩ = some (.int .i64 uy) )) wq) ∧ ((i = .int .i64 0 ∧ sl = .int .i64 0) ∨ (i = .int .i64 1 ∧ sl = .int .i64 s1) ∨ (i = .int .i64 2 ∧ sl = .int .i64 s2))) (fun _ i _ => 2 - (intOf i).toNat)
      case atStart =>
        refine ⟨⟨by (repeat (first | exact Below.refl _ _ | assumption | refine Below.drewN ?_ _ | refine Below.drew ?_ | refine Below.setCell ?_ (by first | exact Nat.le_refl _ | (simp; done) | (simp; omega) | omega) _ | refine Below.alloc ?_ (by first | exact Nat.le_refl _ | (simp; done) | (simp; omega) | omega) _)), by simp⟩, ?_, .inl ⟨rfl, rfl⟩⟩
        (try dsimp only)
        go_simp
      case round =>
        obtain ⟨⟨hxq, hzq⟩, hcq, hrel⟩ := hrel
        (try dsimp only at hcq)
        have y0 : w.heap.size < wr.heap.size := by omega
        have y1 : w.heap.size + 1 < wr.heap.size := by omega
        have y2 : wo.heap.size < wr.heap.size := by omega
        clear hcr hxr
        rcases hrel with ⟨rfl, rfl⟩ | ⟨rfl, rfl⟩ | ⟨rfl, rfl⟩
        · cases hb : b1 with
          | false =>
            rw [hb] at heq1 F1
            clear hb
            go_wp2
            refine ⟨⟨⟨by (repeat (first | exact Below.refl _ _ | assumption | refine Below.drewN ?_ _ | refine Below.drew ?_ | refine Below.setCell ?_ (by first | exact Nat.le_refl _ | (simp; done) | (simp; omega) | omega) _ | refine Below.alloc ?_ (by first | exact Nat.le_refl _ | (simp; done) | (simp; omega) | omega) _)), by first | omega | (simp; omega)⟩, ?_, .inr (.inl ⟨rfl, ?_⟩)⟩, by simp [intOf]⟩
            · (try dsimp only)
              go_simp
            · exact congrArg (Value.int IntKind.i64) (F1.out rfl)
          | true =>
            rw [hb] at heq1 F1 T1
            clear hb
            cases hr2 : rq with
            | false =>
              rw [hr2] at hrq F1
              clear hr2
              go_wp2
              refine ⟨⟨⟨by (repeat (first | exact Below.refl _ _ | assumption | refine Below.drewN ?_ _ | refine Below.drew ?_ | refine Below.setCell ?_ (by first | exact Nat.le_refl _ | (simp; done) | (simp; omega) | omega) _ | refine Below.alloc ?_ (by first | exact Nat.le_refl _ | (simp; done) | (simp; omega) | omega) _)), by first | omega | (simp; omega)⟩, ?_, .inr (.inl ⟨rfl, ?_⟩)⟩, by simp [intOf]⟩
              · (try dsimp only)
                go_simp
              · exact congrArg (Value.int IntKind.i64) (F1.out rfl)
            | true =>
              rw [hr2] at hrq T1
              clear hr2
              go_wp2
              refine ⟨⟨⟨by (repeat (first | exact Below.refl _ _ | assumption | refine Below.drewN ?_ _ | refine Below.drew ?_ | refine Below.setCell ?_ (by first | exact Nat.le_refl _ | (simp; done) | (simp; omega) | omega) _ | refine Below.alloc ?_ (by first | exact Nat.le_refl _ | (simp; done) | (simp; omega) | omega) _)), by first | omega | (simp; omega)⟩, ?_, .inr (.inl ⟨rfl, ?_⟩)⟩, by simp [intOf]⟩
              · (try dsimp only)
                go_simp
              · exact congrArg (Value.int IntKind.i64) (T1.out rfl rfl)
        · cases hb : b2 with
          | false =>
            rw [hb] at heq2 F2
            clear hb
            go_wp2
            refine ⟨⟨⟨by (repeat (first | exact Below.refl _ _ | assumption | refine Below.drewN ?_ _ | refine Below.drew ?_ | refine Below.setCell ?_ (by first | exact Nat.le_refl _ | (simp; done) | (simp; omega) | omega) _ | refine Below.alloc ?_ (by first | exact Nat.le_refl _ | (simp; done) | (simp; omega) | omega) _)), by first | omega | (simp; omega)⟩, ?_, .inr (.inr ⟨rfl, ?_⟩)⟩, by simp [intOf]⟩
            · (try dsimp only)
              go_simp
            · exact congrArg (Value.int IntKind.i64) (F2.out rfl)
          | true =>
            rw [hb] at heq2 F2 T2
            clear hb
            cases hr2 : rq with
            | false =>
              rw [hr2] at hrq F2
              clear hr2
              go_wp2
              refine ⟨⟨⟨by (repeat (first | exact Below.refl _ _ | assumption | refine Below.drewN ?_ _ | refine Below.drew ?_ | refine Below.setCell ?_ (by first | exact Nat.le_refl _ | (simp; done) | (simp; omega) | omega) _ | refine Below.alloc ?_ (by first | exact Nat.le_refl _ | (simp; done) | (simp; omega) | omega) _)), by first | omega | (simp; omega)⟩, ?_, .inr (.inr ⟨rfl, ?_⟩)⟩, by simp [intOf]⟩
              · (try dsimp only)
                go_simp
              · exact congrArg (Value.int IntKind.i64) (F2.out rfl)
            | true =>
              rw [hr2] at hrq T2
              clear hr2
              go_wp2
              refine ⟨⟨⟨by (repeat (first | exact Below.refl _ _ | assumption | refine Below.drewN ?_ _ | refine Below.drew ?_ | refine Below.setCell ?_ (by first | exact Nat.le_refl _ | (simp; done) | (simp; omega) | omega) _ | refine Below.alloc ?_ (by first | exact Nat.le_refl _ | (simp; done) | (simp; omega) | omega) _)), by first | omega | (simp; omega)⟩, ?_, .inr (.inr ⟨rfl, ?_⟩)⟩, by simp [intOf]⟩
              · (try dsimp only)
                go_simp
              · exact congrArg (Value.int IntKind.i64) (T2.out rfl rfl)
        · go_wp2
          refine ⟨⟨⟨by (repeat (first | exact Below.refl _ _ | assumption | refine Below.drewN ?_ _ | refine Below.drew ?_ | refine Below.setCell ?_ (by first | exact Nat.le_refl _ | (simp; done) | (simp; omega) | omega) _ | refine Below.alloc ?_ (by first | exact Nat.le_refl _ | (simp; done) | (simp; omega) | omega) _)), by first | omega | (simp; omega)⟩, ?_, .inr (.inl ⟨rfl, rfl⟩)⟩, by simp [intOf]⟩
          (try dsimp only)
          go_simp
    · obtain ⟨wo, hwo⟩ : ∃ wo, wo = wr := ⟨_, rfl⟩
      subst hwo
      have z0 : w.heap.size < wo.heap.size := by omega
      have z1 : w.heap.size + 1 < wo.heap.size := by omega
      go_wp2
      go_loopw [5, 34] (fun sl i wq => (Ext w wq ∧ wo.heap.size + 1 ≤ wq.heap.size) ∧ ((fun W => (W.cell? ⟨w.heap.size, 0, none⟩ = some (.int .i64 cx) ∧ W.cell? ⟨w.heap.size, 1, none⟩ = some (.int .i64 cy) ∧ W.cell? ⟨w.heap.size, 2, none⟩ = some (.int .i64 r) ∧ W.cell? ⟨w.heap.size, 3, none⟩ = some (.int .i64 ux) ∧ W.cell? ⟨w.heap.size, 4, none⟩ = some (.int .i64 uy) ∧ W.cell? ⟨w.heap.size, 5, none⟩ = some (.int .i64 vx) ∧ W.cell? ⟨w.heap.size, 6, none⟩ = some (.int .i64 vy) ∧ W.cell? ⟨w.heap.size + 1, 0, none⟩ = some (.int .i64 cx) ∧ W.cell? ⟨w.heap.size + 1, 1, none⟩ = some (.int .i64 cy) ∧ W.cell? ⟨w.heap.size + 1, 2, none⟩ = some (.int .i64 q) ∧ W.cell? ⟨w.heap.size + 1, 3, none⟩ = some (.int .i64 sx) ∧ W.cell? ⟨w.heap.size + 1, 4, none⟩ = some (.int .i64 sy) ∧ W.cell? ⟨w.heap.size + 1, 5, none⟩ = some (.int .i64 tx) ∧ W.cell? ⟨w.heap.size + 1, 6, none⟩ = some (.int .i64 ty) ∧ W.cell? ⟨wo.heap.size, 0, none⟩ = some (.int .i64 vx) ∧ W.cell? ⟨wo.heap.size, 1, none⟩ = some (.int .i64 vy) )) wq) ∧ ((i = .int .i64 0 ∧ sl = .int .i64 s2) ∨ (i = .int .i64 1 ∧ sl = .int .i64 s3) ∨ (i = .int .i64 2 ∧ sl = .int .i64 s4))) (fun _ i _ => 2 - (intOf i).toNat)
      case atStart =>
        refine ⟨⟨by (repeat (first | exact Below.refl _ _ | assumption | refine Below.drewN ?_ _ | refine Below.drew ?_ | refine Below.setCell ?_ (by first | exact Nat.le_refl _ | (simp; done) | (simp; omega) | omega) _ | refine Below.alloc ?_ (by first | exact Nat.le_refl _ | (simp; done) | (simp; omega) | omega) _)), by simp⟩, ?_, .inl ⟨rfl, rfl⟩⟩
        (try dsimp only)
        go_simp
      case round =>
        obtain ⟨⟨hxq, hzq⟩, hcq, hrel⟩ := hrel
        (try dsimp only at hcq)
        have y0 : w.heap.size < wr.heap.size := by omega
        have y1 : w.heap.size + 1 < wr.heap.size := by omega
        have y2 : wo.heap.size < wr.heap.size := by omega
        clear hcr hxr
        rcases hrel with ⟨rfl, rfl⟩ | ⟨rfl, rfl⟩ | ⟨rfl, rfl⟩
        · cases hb : b3 with
          | false =>
            rw [hb] at heq3 F3
            clear hb
            go_wp2
            refine ⟨⟨⟨by (repeat (first | exact Below.refl _ _ | assumption | refine Below.drewN ?_ _ | refine Below.drew ?_ | refine Below.setCell ?_ (by first | exact Nat.le_refl _ | (simp; done) | (simp; omega) | omega) _ | refine Below.alloc ?_ (by first | exact Nat.le_refl _ | (simp; done) | (simp; omega) | omega) _)), by first | omega | (simp; omega)⟩, ?_, .inr (.inl ⟨rfl, ?_⟩)⟩, by simp [intOf]⟩
            · (try dsimp only)
              go_simp
            · exact congrArg (Value.int IntKind.i64) (F3.out rfl)
          | true =>
            rw [hb] at heq3 F3 T3
            clear hb
            cases hr2 : rq with
            | false =>
              rw [hr2] at hrq F3
              clear hr2
              go_wp2
              refine ⟨⟨⟨by (repeat (first | exact Below.refl _ _ | assumption | refine Below.drewN ?_ _ | refine Below.drew ?_ | refine Below.setCell ?_ (by first | exact Nat.le_refl _ | (simp; done) | (simp; omega) | omega) _ | refine Below.alloc ?_ (by first | exact Nat.le_refl _ | (simp; done) | (simp; omega) | omega) _)), by first | omega | (simp; omega)⟩, ?_, .inr (.inl ⟨rfl, ?_⟩)⟩, by simp [intOf]⟩
              · (try dsimp only)
                go_simp
              · exact congrArg (Value.int IntKind.i64) (F3.out rfl)
            | true =>
              rw [hr2] at hrq T3
              clear hr2
              go_wp2
              refine ⟨⟨⟨by (repeat (first | exact Below.refl _ _ | assumption | refine Below.drewN ?_ _ | refine Below.drew ?_ | refine Below.setCell ?_ (by first | exact Nat.le_refl _ | (simp; done) | (simp; omega) | omega) _ | refine Below.alloc ?_ (by first | exact Nat.le_refl _ | (simp; done) | (simp; omega) | omega) _)), by first | omega | (simp; omega)⟩, ?_, .inr (.inl ⟨rfl, ?_⟩)⟩, by simp [intOf]⟩
              · (try dsimp only)
                go_simp
              · exact congrArg (Value.int IntKind.i64) (T3.out rfl rfl)
        · cases hb : b4 with
          | false =>
            rw [hb] at heq4 F4
            clear hb
            go_wp2
            refine ⟨⟨⟨by (repeat (first | exact Below.refl _ _ | assumption | refine Below.drewN ?_ _ | refine Below.drew ?_ | refine Below.setCell ?_ (by first | exact Nat.le_refl _ | (simp; done) | (simp; omega) | omega) _ | refine Below.alloc ?_ (by first | exact Nat.le_refl _ | (simp; done) | (simp; omega) | omega) _)), by first | omega | (simp; omega)⟩, ?_, .inr (.inr ⟨rfl, ?_⟩)⟩, by simp [intOf]⟩
            · (try dsimp only)
              go_simp
            · exact congrArg (Value.int IntKind.i64) (F4.out rfl)
          | true =>
            rw [hb] at heq4 F4 T4
            clear hb
            cases hr2 : rq with
            | false =>
              rw [hr2] at hrq F4
              clear hr2
              go_wp2
              refine ⟨⟨⟨by (repeat (first | exact Below.refl _ _ | assumption | refine Below.drewN ?_ _ | refine Below.drew ?_ | refine Below.setCell ?_ (by first | exact Nat.le_refl _ | (simp; done) | (simp; omega) | omega) _ | refine Below.alloc ?_ (by first | exact Nat.le_refl _ | (simp; done) | (simp; omega) | omega) _)), by first | omega | (simp; omega)⟩, ?_, .inr (.inr ⟨rfl, ?_⟩)⟩, by simp [intOf]⟩
              · (try dsimp only)
                go_simp
              · exact congrArg (Value.int IntKind.i64) (F4.out rfl)
            | true =>
              rw [hr2] at hrq T4
              clear hr2
              go_wp2
              refine ⟨⟨⟨by (repeat (first | exact Below.refl _ _ | assumption | refine Below.drewN ?_ _ | refine Below.drew ?_ | refine Below.setCell ?_ (by first | exact Nat.le_refl _ | (simp; done) | (simp; omega) | omega) _ | refine Below.alloc ?_ (by first | exact Nat.le_refl _ | (simp; done) | (simp; omega) | omega) _)), by first | omega | (simp; omega)⟩, ?_, .inr (.inr ⟨rfl, ?_⟩)⟩, by simp [intOf]⟩
              · (try dsimp only)
                go_simp
              · exact congrArg (Value.int IntKind.i64) (T4.out rfl rfl)
        · go_wp2
          refine ⟨⟨⟨by (repeat (first | exact Below.refl _ _ | assumption | refine Below.drewN ?_ _ | refine Below.drew ?_ | refine Below.setCell ?_ (by first | exact Nat.le_refl _ | (simp; done) | (simp; omega) | omega) _ | refine Below.alloc ?_ (by first | exact Nat.le_refl _ | (simp; done) | (simp; omega) | omega) _)), by first | omega | (simp; omega)⟩, ?_, .inr (.inr ⟨rfl, rfl⟩)⟩, by simp [intOf]⟩
          (try dsimp only)
          go_simp
    · by_cases h2 : s4 = 2
      · have h2b : (s4 == 2) = true := by simp [h2]
        have Q := Lib.hid h2
        clear h2
        go_wp2
        go_ret
        exact ⟨ret_int (by rw [RES.out, if_pos Q.out]), hxr⟩
      · have h2b : (s4 == 2) = false := by simp [h2]
        have Q := Lib.hid h2
        clear h2
        go_wp2
        go_ret
        exact ⟨ret_int (by rw [RES.out, if_neg Q.out]), hxr⟩
end Go.Proofs.Ytmmhiiiaccldmaa
