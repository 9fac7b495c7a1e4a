/- Contract: meet.bothArcs, apart (printed by gen_arcs.py). -/
import Derived.Test.YtmmhiiiaccldmaaGreatJ15
set_option linter.unusedVariables false
set_option linter.unusedSimpArgs false

-- --@deep
namespace Go.Proofs.YtmmhiiiaccldmaaGreat
open Go.RowKit
attribute [local go_sem] Gives givesU

/-- The numbers of bothArcs. -/
structure AA where
  (S r q : Int)
  (du dv ds dt pu pv ps pt : Int)
def AA.k (a : AA) : Int := a.S - (a.q * a.q - a.r * a.r)
def AA.delta (a : AA) : Int := 4 * a.S * (a.r * a.r) - a.k * a.k
def AA.list (a : AA) : List (Int × Int) := [(a.k * a.du, a.pu), (a.k * a.dv, a.pv), ((a.k - 2 * a.S) * a.ds, a.ps), ((a.k - 2 * a.S) * a.dt, a.pt)]
theorem NR.guardN {w : World} {n : Bool} {p : Option Addr} {l c : Nat} {x : Nm} (h : NR w n p l c x) : NRG w none n p l c x := ⟨h, fun _ _ _ h => by cases h⟩

set_option maxRecDepth 100000 in
set_option maxHeartbeats 16000000 in
theorem meet_arcsApart (cx cy r ux uy vx vy ex ey q sx sy tx ty dx dy ny : Int) (w : World) (hne : ¬ (cx = ex ∧ cy = ey)) (h1 : Co cx) (h2 : Co cy) (h3 : Co ex) (h4 : Co ey) (hr : Di r) (hq : Di q) (hux : Di ux) (huy : Di uy) (hvx : Di vx) (hvy : Di vy) (hsx : Di sx) (hsy : Di sy) (htx : Di tx) (hty : Di ty) (N : AA)
    (hdx : ex - cx = dx) (hdy : ey - cy = dy) (hny : - dy = ny) (hS : dx * dx + dy * dy = N.S) (hR : r = N.r) (hQ : q = N.q)
    (hdu : dx * ux + dy * uy = N.du) (hpu : ny * ux + dx * uy = N.pu) (hdv : dx * vx + dy * vy = N.dv) (hpv : ny * vx + dx * vy = N.pv) (hds : dx * sx + dy * sy = N.ds) (hps : ny * sx + dx * sy = N.ps) (hdt : dx * tx + dy * ty = N.dt) (hpt : ny * tx + dx * ty = N.pt) :
    Calls Tryz.prog 22 #[.agg #[.int .i64 cx, .int .i64 cy, .int .i64 r, .int .i64 ux, .int .i64 uy, .int .i64 vx, .int .i64 vy], .agg #[.int .i64 ex, .int .i64 ey, .int .i64 q, .int .i64 sx, .int .i64 sy, .int .i64 tx, .int .i64 ty]] w fun e w' => e = .returned (.int .i64 (countZ N.delta N.list)) ∧ Ext w w' := by
  have SD := fun w => vec_Sub ex ey cx cy w (h3.sub h1).i64 (h4.sub h2).i64
  have ddx := h3.sub h1
  have ddy := h4.sub h2
  rw [hdx] at ddx SD
  rw [hdy] at ddy SD
  have dny : Di ny := by unfold Di at *; omega
  have hneg : IntKind.i64.wrap (- dy) = ny := by rw [hny]; exact wrap_in dny.i64
  have SD := Lib.hid SD
  have CS := fun w => vec_Dot dx dy dx dy w (ddx.mul64 ddx) (ddy.mul64 ddy) (ddx.dot ddx ddy ddy)
  have iS := ddx.dot ddx ddy ddy
  have ir := hr.i64
  have iq := hq.i64
  have Cdu := fun w => vec_Dot dx dy ux uy w (ddx.mul64 hux) (ddy.mul64 huy) (ddx.dot hux ddy huy)
  have Cpu := fun w => vec_Dot ny dx ux uy w (dny.mul64 hux) (ddx.mul64 huy) (dny.dot hux ddx huy)
  have idu := ddx.dot hux ddy huy
  have ipu := dny.dot hux ddx huy
  have Cdv := fun w => vec_Dot dx dy vx vy w (ddx.mul64 hvx) (ddy.mul64 hvy) (ddx.dot hvx ddy hvy)
  have Cpv := fun w => vec_Dot ny dx vx vy w (dny.mul64 hvx) (ddx.mul64 hvy) (dny.dot hvx ddx hvy)
  have idv := ddx.dot hvx ddy hvy
  have ipv := dny.dot hvx ddx hvy
  have Cds := fun w => vec_Dot dx dy sx sy w (ddx.mul64 hsx) (ddy.mul64 hsy) (ddx.dot hsx ddy hsy)
  have Cps := fun w => vec_Dot ny dx sx sy w (dny.mul64 hsx) (ddx.mul64 hsy) (dny.dot hsx ddx hsy)
  have ids := ddx.dot hsx ddy hsy
  have ips := dny.dot hsx ddx hsy
  have Cdt := fun w => vec_Dot dx dy tx ty w (ddx.mul64 htx) (ddy.mul64 hty) (ddx.dot htx ddy hty)
  have Cpt := fun w => vec_Dot ny dx tx ty w (dny.mul64 htx) (ddx.mul64 hty) (dny.dot htx ddx hty)
  have idt := ddx.dot htx ddy hty
  have ipt := dny.dot htx ddx hty
  have hb : (cx == ex && cy == ey) = false := by
    rw [Bool.eq_false_iff]
    intro h2
    simp at h2
    exact hne h2
  have heq : ∀ w : World, (binOp .eql 25 (.agg #[.int .i64 cx, .int .i64 cy]) (.agg #[.int .i64 ex, .int .i64 ey])).run Tryz.prog w = .ok (.bool false) w := fun w => by rw [eql_pt, hb]
  subst hR hQ
  obtain ⟨S, r, q, du, dv, ds, dt, pu, pv, ps, pt⟩ := N
  simp only at hS hdu hpu hdv hpv hds hps hdt hpt ir iq ⊢
  rw [hS] at CS iS
  rw [hdu] at Cdu idu
  rw [hpu] at Cpu ipu
  rw [hdv] at Cdv idv
  rw [hpv] at Cpv ipv
  rw [hds] at Cds ids
  rw [hps] at Cps ips
  rw [hdt] at Cdt idt
  rw [hpt] at Cpt ipt
  clear hb hne hS h1 h2 h3 h4 hr hq ddx ddy dny hdx hdy hny hdu hpu hux huy hdv hpv hvx hvy hds hps hsx hsy hdt hpt htx hty
  have CS := Lib.hid CS
  have iS := Lib.hid iS
  have ir := Lib.hid ir
  have iq := Lib.hid iq
  have Cdu := Lib.hid Cdu
  have Cpu := Lib.hid Cpu
  have idu := Lib.hid idu
  have ipu := Lib.hid ipu
  have Cdv := Lib.hid Cdv
  have Cpv := Lib.hid Cpv
  have idv := Lib.hid idv
  have ipv := Lib.hid ipv
  have Cds := Lib.hid Cds
  have Cps := Lib.hid Cps
  have ids := Lib.hid ids
  have ips := Lib.hid ips
  have Cdt := Lib.hid Cdt
  have Cpt := Lib.hid Cpt
  have idt := Lib.hid idt
  have ipt := Lib.hid ipt
  have wS : Hid (Wd 2 S) := Wd.of64 iS.out
  have wr : Hid (Wd 2 r) := Wd.of64 ir.out
  have wq : Hid (Wd 2 q) := Wd.of64 iq.out
  have wdu : Hid (Wd 2 du) := Wd.of64 idu.out
  have wpu : Hid (Wd 2 pu) := Wd.of64 ipu.out
  have wdv : Hid (Wd 2 dv) := Wd.of64 idv.out
  have wpv : Hid (Wd 2 pv) := Wd.of64 ipv.out
  have wds : Hid (Wd 2 ds) := Wd.of64 ids.out
  have wps : Hid (Wd 2 ps) := Wd.of64 ips.out
  have wdt : Hid (Wd 2 dt) := Wd.of64 idt.out
  have wpt : Hid (Wd 2 pt) := Wd.of64 ipt.out
  obtain ⟨rr, Hrr⟩ : ∃ z, Hid (r * r = z) := ⟨_, rfl⟩
  have wrr : Hid (Wd 4 rr) := by show Wd 4 rr; rw [← Hrr.out]; exact wr.out.mul wr.out
  obtain ⟨qq, Hqq⟩ : ∃ z, Hid (q * q = z) := ⟨_, rfl⟩
  have wqq : Hid (Wd 4 qq) := by show Wd 4 qq; rw [← Hqq.out]; exact wq.out.mul wq.out
  obtain ⟨m, Hm⟩ : ∃ z, Hid (qq - rr = z) := ⟨_, rfl⟩
  have wm : Hid (Wd 5 m) := by show Wd 5 m; rw [← Hm.out]; exact wqq.out.sub wrr.out
  obtain ⟨k, Hk⟩ : ∃ z, Hid (S - m = z) := ⟨_, rfl⟩
  have wk : Hid (Wd 6 k) := by show Wd 6 k; rw [← Hk.out]; exact (wS.out.mono (by omega)).sub wm.out
  obtain ⟨s4, Hs4⟩ : ∃ z, Hid (4 * S = z) := ⟨_, rfl⟩
  have ws4 : Hid (Wd 3 s4) := by show Wd 3 s4; rw [← Hs4.out]; exact Wd.mul (a := 1) (b := 2) (by unfold Wd; decide) wS.out
  obtain ⟨sr, Hsr⟩ : ∃ z, Hid (s4 * rr = z) := ⟨_, rfl⟩
  have wsr : Hid (Wd 7 sr) := by show Wd 7 sr; rw [← Hsr.out]; exact ws4.out.mul wrr.out
  obtain ⟨kk, Hkk⟩ : ∃ z, Hid (k * k = z) := ⟨_, rfl⟩
  have wkk : Hid (Wd 12 kk) := by show Wd 12 kk; rw [← Hkk.out]; exact wk.out.mul wk.out
  obtain ⟨dl, Hdl⟩ : ∃ z, Hid (sr - kk = z) := ⟨_, rfl⟩
  have wdl : Hid (Wd 13 dl) := by show Wd 13 dl; rw [← Hdl.out]; exact (wsr.out.mono (by omega)).sub wkk.out
  obtain ⟨s2, Hs2⟩ : ∃ z, Hid (2 * S = z) := ⟨_, rfl⟩
  have ws2 : Hid (Wd 3 s2) := by show Wd 3 s2; rw [← Hs2.out]; exact Wd.mul (a := 1) (b := 2) (by unfold Wd; decide) wS.out
  obtain ⟨k2, Hk2⟩ : ∃ z, Hid (k - s2 = z) := ⟨_, rfl⟩
  have wk2 : Hid (Wd 7 k2) := by show Wd 7 k2; rw [← Hk2.out]; exact wk.out.sub (ws2.out.mono (by omega))
  obtain ⟨eu, Heu⟩ : ∃ z, Hid (k * du = z) := ⟨_, rfl⟩
  have weu : Hid (Wd 8 eu) := by show Wd 8 eu; rw [← Heu.out]; exact wk.out.mul wdu.out
  obtain ⟨ev, Hev⟩ : ∃ z, Hid (k * dv = z) := ⟨_, rfl⟩
  have wev : Hid (Wd 8 ev) := by show Wd 8 ev; rw [← Hev.out]; exact wk.out.mul wdv.out
  obtain ⟨es, Hes⟩ : ∃ z, Hid (k2 * ds = z) := ⟨_, rfl⟩
  have wes : Hid (Wd 9 es) := by show Wd 9 es; rw [← Hes.out]; exact wk2.out.mul wds.out
  obtain ⟨et, Het⟩ : ∃ z, Hid (k2 * dt = z) := ⟨_, rfl⟩
  have wet : Hid (Wd 9 et) := by show Wd 9 et; rw [← Het.out]; exact wk2.out.mul wdt.out
  have RES : Hid (countZ (AA.delta ⟨S, r, q, du, dv, ds, dt, pu, pv, ps, pt⟩) (AA.list ⟨S, r, q, du, dv, ds, dt, pu, pv, ps, pt⟩) = countZ dl [(eu, pu), (ev, pv), (es, ps), (et, pt)]) := by
    show countZ _ _ = _
    unfold AA.delta AA.list AA.k
    simp only
    rw [Hrr.out, Hqq.out, Hm.out, Hk.out, Hs4.out, Hsr.out, Hkk.out, Hdl.out, Hs2.out, Hk2.out, Heu.out, Hev.out, Hes.out, Het.out]
  go_enter Tryz.func22, Tryz.ntmps22
  go_wp2_with fail
  refine (SD.out _).mono ?_
  rintro e w1 ⟨rfl, hx⟩
  have hx0 : Ext w w1 := Ext.step bxx hx
  have hs0 := hx0.size
  have hz_w1 : w.heap.size + 2 ≤ w1.heap.size := Nat.le_trans omm hx.size
  obtain ⟨hl_w1_0, hk_w1_0, hf_w1_0⟩ := extK hx (w.heap.size)
  obtain ⟨hl_w1_1, hk_w1_1, hf_w1_1⟩ := extK hx (w.heap.size + 1)
  clear hx
  go_wp2_with fail
  refine wp_KB (w1.heap.size + 1 + 1) (fun W => Ext w W ∧ w1.heap.size + 1 + 1 ≤ W.heap.size ∧ W.cell? ⟨w.heap.size, 0, none⟩ = some (.int .i64 cx) ∧ W.cell? ⟨w.heap.size, 1, none⟩ = some (.int .i64 cy) ∧ W.cell? ⟨w.heap.size, 2, none⟩ = some (.int .i64 r) ∧ W.cell? ⟨w.heap.size, 3, none⟩ = some (.int .i64 ux) ∧ W.cell? ⟨w.heap.size, 4, none⟩ = some (.int .i64 uy) ∧ W.cell? ⟨w.heap.size, 5, none⟩ = some (.int .i64 vx) ∧ W.cell? ⟨w.heap.size, 6, none⟩ = some (.int .i64 vy) ∧ W.cell? ⟨w.heap.size + 1, 0, none⟩ = some (.int .i64 ex) ∧ W.cell? ⟨w.heap.size + 1, 1, none⟩ = some (.int .i64 ey) ∧ W.cell? ⟨w.heap.size + 1, 2, none⟩ = some (.int .i64 q) ∧ W.cell? ⟨w.heap.size + 1, 3, none⟩ = some (.int .i64 sx) ∧ W.cell? ⟨w.heap.size + 1, 4, none⟩ = some (.int .i64 sy) ∧ W.cell? ⟨w.heap.size + 1, 5, none⟩ = some (.int .i64 tx) ∧ W.cell? ⟨w.heap.size + 1, 6, none⟩ = some (.int .i64 ty) ∧ W.cell? ⟨w1.heap.size, 0, none⟩ = some (.int .i64 dx) ∧ W.cell? ⟨w1.heap.size, 1, none⟩ = some (.int .i64 dy) ∧ W.cell? ⟨w1.heap.size + 1, 0, none⟩ = some (.int .i64 ny) ∧ W.cell? ⟨w1.heap.size + 1, 1, none⟩ = some (.int .i64 dx)) ?_
  intro hKeep
  repeat (first | refine F_s ?_ | refine F_r ?_)
  (refine F_call (v := .int .i64 S) (by rfl) (by rfl) ?_ ?_; (· (intro W hW; (try dsimp only at hW); go_simp; refine (CS.out _).mono ?_; rintro e w' ⟨rfl, hx⟩; exact ⟨_, rfl, rfl, hx⟩))); refine F_put ?_
  repeat (first | refine F_s ?_ | refine F_r ?_)
  refine F_num w (ofZ S) (by rfl) (by rfl) (by intro W hW; (try dsimp only at hW); have hwW : w.heap.size ≤ W.heap.size := (by have hzz := hW; (repeat (first | exact hzz.size | exact hzz.1.size | replace hzz := hzz.1))); go_simp; exact (meet_of S _ iS.out).mono fun _ _ h => RetN.isN hwW h) ?_; intro n1 p1 l1 c1 hn1; refine F_put ?_
  repeat (first | refine F_s ?_ | refine F_r ?_)
  refine F_num w (ofZ r) (by rfl) (by rfl) (by intro W hW; (try dsimp only at hW); have hwW : w.heap.size ≤ W.heap.size := (by have hzz := hW; (repeat (first | exact hzz.size | exact hzz.1.size | replace hzz := hzz.1))); go_simp; exact (meet_of r _ ir.out).mono fun _ _ h => RetN.isN hwW h) ?_; intro n2 p2 l2 c2 hn2; refine F_put ?_
  repeat (first | refine F_s ?_ | refine F_r ?_)
  refine F_num w (ofZ r) (by rfl) (by rfl) (by intro W hW; (try dsimp only at hW); have hwW : w.heap.size ≤ W.heap.size := (by have hzz := hW; (repeat (first | exact hzz.size | exact hzz.1.size | replace hzz := hzz.1))); go_simp; exact (meet_of r _ ir.out).mono fun _ _ h => RetN.isN hwW h) ?_; intro n3 p3 l3 c3 hn3; refine F_put ?_
  repeat (first | refine F_s ?_ | refine F_r ?_)
  refine F_num w (ofZ rr) (by rfl) (by rfl) (by intro W hW; (try dsimp only at hW); have hwW : w.heap.size ≤ W.heap.size := (by have hzz := hW; (repeat (first | exact hzz.size | exact hzz.1.size | replace hzz := hzz.1))); go_simp; exact (meet_mul r r n2 n3 p2 p3 l2 c2 l3 c3 W (by have hzz := hW; (try dsimp only at hzz); (repeat (first | exact hzz.2 | exact hzz.1 | exact NR.ext (by assumption) hzz | exact NR.ext (by assumption) hzz.1 | replace hzz := hzz.1))) (by have hzz := hW; (try dsimp only at hzz); (repeat (first | exact hzz.2 | exact hzz.1 | exact NR.ext (by assumption) hzz | exact NR.ext (by assumption) hzz.1 | replace hzz := hzz.1))) (wr.out.small (by omega)) (wr.out.small (by omega)) rr Hrr.out (wrr.out.small (by omega))).mono fun _ _ h => RetN.isN hwW h) ?_; intro n4 p4 l4 c4 hn4; refine F_put ?_
  repeat (first | refine F_s ?_ | refine F_r ?_)
  refine F_num w (ofZ q) (by rfl) (by rfl) (by intro W hW; (try dsimp only at hW); have hwW : w.heap.size ≤ W.heap.size := (by have hzz := hW; (repeat (first | exact hzz.size | exact hzz.1.size | replace hzz := hzz.1))); go_simp; exact (meet_of q _ iq.out).mono fun _ _ h => RetN.isN hwW h) ?_; intro n5 p5 l5 c5 hn5; refine F_put ?_
  repeat (first | refine F_s ?_ | refine F_r ?_)
  refine F_num w (ofZ q) (by rfl) (by rfl) (by intro W hW; (try dsimp only at hW); have hwW : w.heap.size ≤ W.heap.size := (by have hzz := hW; (repeat (first | exact hzz.size | exact hzz.1.size | replace hzz := hzz.1))); go_simp; exact (meet_of q _ iq.out).mono fun _ _ h => RetN.isN hwW h) ?_; intro n6 p6 l6 c6 hn6; refine F_put ?_
  repeat (first | refine F_s ?_ | refine F_r ?_)
  refine F_num w (ofZ qq) (by rfl) (by rfl) (by intro W hW; (try dsimp only at hW); have hwW : w.heap.size ≤ W.heap.size := (by have hzz := hW; (repeat (first | exact hzz.size | exact hzz.1.size | replace hzz := hzz.1))); go_simp; exact (meet_mul q q n5 n6 p5 p6 l5 c5 l6 c6 W (by have hzz := hW; (try dsimp only at hzz); (repeat (first | exact hzz.2 | exact hzz.1 | exact NR.ext (by assumption) hzz | exact NR.ext (by assumption) hzz.1 | replace hzz := hzz.1))) (by have hzz := hW; (try dsimp only at hzz); (repeat (first | exact hzz.2 | exact hzz.1 | exact NR.ext (by assumption) hzz | exact NR.ext (by assumption) hzz.1 | replace hzz := hzz.1))) (wq.out.small (by omega)) (wq.out.small (by omega)) qq Hqq.out (wqq.out.small (by omega))).mono fun _ _ h => RetN.isN hwW h) ?_; intro n7 p7 l7 c7 hn7; refine F_put ?_
  repeat (first | refine F_s ?_ | refine F_r ?_)
  refine F_al ?_
  intro g12 hg12
  simp only [List.mem_cons, List.mem_range, not_or, Nat.not_lt] at hg12
  refine F_al ?_
  intro g13 hg13
  simp only [List.mem_cons, List.mem_range, not_or, Nat.not_lt] at hg13
  refine F_al ?_
  intro g14 hg14
  simp only [List.mem_cons, List.mem_range, not_or, Nat.not_lt] at hg14
  obtain ⟨hn1312, hg13⟩ := hg13
  obtain ⟨hn1413, hn1412, hg14⟩ := hg14
  have hn1213 := Ne.symm hn1312
  have hn1314 := Ne.symm hn1413
  have hn1214 := Ne.symm hn1412
  refine F_w (fun W => ((((_ ∧ NR W n1 p1 l1 c1 (ofZ S)) ∧ NR W n4 p4 l4 c4 (ofZ rr)) ∧ NR W n7 p7 l7 c7 (ofZ qq)) ∧ W.heap[g13]? = some (.cells #[.bool false, .slice none 0 0] 83)) ∧ W.heap[g14]? = some (.cells #[.bool false, .slice none 0 0] 83)) (fun W hW => ⟨⟨⟨⟨⟨⟨hW.1.1.1.1.1.1.1.1.1.1, hW.1.1.1.1.1.1.1.1.1.2⟩, hW.1.1.1.1.1.1.2⟩, hW.1.1.1.2⟩, hW.1.2⟩, hW.2⟩, hW.1.1.2⟩) ?_
  refine F_w (fun W => ((((_ ∧ NR W n1 p1 l1 c1 (ofZ S)) ∧ NR W n4 p4 l4 c4 (ofZ rr)) ∧ NR W n7 p7 l7 c7 (ofZ qq)) ∧ W.heap[g12]? = some (.cells #[.bool n1, .slice p1 l1 c1] 83)) ∧ W.heap[g14]? = some (.cells #[.bool false, .slice none 0 0] 83)) (fun W hW => ⟨⟨⟨hW.1.1.1.1, hW.1.2⟩, hW.1.1.2⟩, hW.1.1.1.2⟩) ?_
  refine F_w (fun W => ((((_ ∧ NR W n1 p1 l1 c1 (ofZ S)) ∧ NR W n4 p4 l4 c4 (ofZ rr)) ∧ NR W n7 p7 l7 c7 (ofZ qq)) ∧ W.heap[g12]? = some (.cells #[.bool n1, .slice p1 l1 c1] 83)) ∧ W.heap[g13]? = some (.cells #[.bool n4, .slice p4 l4 c4] 83)) (fun W hW => ⟨⟨⟨hW.1.1.1.1, hW.1.1.1.2⟩, hW.1.2⟩, hW.1.1.2⟩) ?_
  repeat (first | refine F_s ?_ | refine F_r ?_)
  rintro V1 ⟨⟨⟨⟨⟨⟨⟨⟨hx, hz, hc⟩, nS⟩, nr⟩, nq⟩, bk12⟩, bk13⟩, bk14⟩, _⟩
  obtain ⟨a0, a1, _, hl12⟩ := pt_block bk12
  obtain ⟨b0, b1, _, hl13⟩ := pt_block bk13
  obtain ⟨d0, d1, _, hl14⟩ := pt_block bk14
  clear bk12 bk13 bk14
  go_wp2_with fail
  refine wp_KB (V1.heap.size) (fun W => Ext V1 W ∧ V1.heap.size ≤ W.heap.size ∧ W.cell? ⟨w.heap.size, 0, none⟩ = some (.int .i64 cx) ∧ W.cell? ⟨w.heap.size, 1, none⟩ = some (.int .i64 cy) ∧ W.cell? ⟨w.heap.size, 2, none⟩ = some (.int .i64 r) ∧ W.cell? ⟨w.heap.size, 3, none⟩ = some (.int .i64 ux) ∧ W.cell? ⟨w.heap.size, 4, none⟩ = some (.int .i64 uy) ∧ W.cell? ⟨w.heap.size, 5, none⟩ = some (.int .i64 vx) ∧ W.cell? ⟨w.heap.size, 6, none⟩ = some (.int .i64 vy) ∧ W.cell? ⟨w.heap.size + 1, 0, none⟩ = some (.int .i64 ex) ∧ W.cell? ⟨w.heap.size + 1, 1, none⟩ = some (.int .i64 ey) ∧ W.cell? ⟨w.heap.size + 1, 2, none⟩ = some (.int .i64 q) ∧ W.cell? ⟨w.heap.size + 1, 3, none⟩ = some (.int .i64 sx) ∧ W.cell? ⟨w.heap.size + 1, 4, none⟩ = some (.int .i64 sy) ∧ W.cell? ⟨w.heap.size + 1, 5, none⟩ = some (.int .i64 tx) ∧ W.cell? ⟨w.heap.size + 1, 6, none⟩ = some (.int .i64 ty) ∧ W.cell? ⟨w1.heap.size, 0, none⟩ = some (.int .i64 dx) ∧ W.cell? ⟨w1.heap.size, 1, none⟩ = some (.int .i64 dy) ∧ W.cell? ⟨w1.heap.size + 1, 0, none⟩ = some (.int .i64 ny) ∧ W.cell? ⟨w1.heap.size + 1, 1, none⟩ = some (.int .i64 dx) ∧ W.cell? ⟨g12, 0, none⟩ = some (.bool n1) ∧ W.cell? ⟨g12, 1, none⟩ = some (.slice p1 l1 c1) ∧ W.cell? ⟨g13, 0, none⟩ = some (.bool n4) ∧ W.cell? ⟨g13, 1, none⟩ = some (.slice p4 l4 c4) ∧ W.cell? ⟨g14, 0, none⟩ = some (.bool n7) ∧ W.cell? ⟨g14, 1, none⟩ = some (.slice p7 l7 c7)) ?_
  intro hKeep
  repeat (first | refine F_s ?_ | refine F_r ?_)
  refine F_num V1 (ofZ m) (by rfl) (by rfl) (by intro W hW; (try dsimp only at hW); have hwW : V1.heap.size ≤ W.heap.size := (by have hzz := hW; (repeat (first | exact hzz.size | exact hzz.1.size | replace hzz := hzz.1))); go_simp; exact (meet_sub qq rr n7 n4 p7 p4 l7 c7 l4 c4 W (by have hzz := hW; (try dsimp only at hzz); (repeat (first | exact hzz.2 | exact hzz.1 | exact NR.ext (by assumption) hzz | exact NR.ext (by assumption) hzz.1 | replace hzz := hzz.1))) (by have hzz := hW; (try dsimp only at hzz); (repeat (first | exact hzz.2 | exact hzz.1 | exact NR.ext (by assumption) hzz | exact NR.ext (by assumption) hzz.1 | replace hzz := hzz.1))) (wqq.out.small (by omega)) (wrr.out.small (by omega)) m Hm.out (wm.out.small (by omega))).mono fun _ _ h => RetN.isN hwW h) ?_; intro n8 p8 l8 c8 hn8; refine F_put ?_
  repeat (first | refine F_s ?_ | refine F_r ?_)
  refine F_num V1 (ofZ k) (by rfl) (by rfl) (by intro W hW; (try dsimp only at hW); have hwW : V1.heap.size ≤ W.heap.size := (by have hzz := hW; (repeat (first | exact hzz.size | exact hzz.1.size | replace hzz := hzz.1))); go_simp; exact (meet_sub S m n1 n8 p1 p8 l1 c1 l8 c8 W (by have hzz := hW; (try dsimp only at hzz); (repeat (first | exact hzz.2 | exact hzz.1 | exact NR.ext (by assumption) hzz | exact NR.ext (by assumption) hzz.1 | replace hzz := hzz.1))) (by have hzz := hW; (try dsimp only at hzz); (repeat (first | exact hzz.2 | exact hzz.1 | exact NR.ext (by assumption) hzz | exact NR.ext (by assumption) hzz.1 | replace hzz := hzz.1))) (wS.out.small (by omega)) (wm.out.small (by omega)) k Hk.out (wk.out.small (by omega))).mono fun _ _ h => RetN.isN hwW h) ?_; intro n9 p9 l9 c9 hn9; refine F_put ?_
  repeat (first | refine F_s ?_ | refine F_r ?_)
  refine F_al ?_
  intro g15 hg15
  simp only [List.mem_cons, List.mem_range, not_or, Nat.not_lt] at hg15
  refine F_w (fun W => _ ∧ NR W n9 p9 l9 c9 (ofZ k)) (fun W hW => ⟨⟨hW.1.1.1, hW.1.2⟩, hW.2⟩) ?_
  repeat (first | refine F_s ?_ | refine F_r ?_)
  rintro V2 ⟨⟨⟨⟨hx2, hz2, hc2⟩, nk⟩, bk15⟩, _⟩
  obtain ⟨f0, f1, _, hl15⟩ := pt_block bk15
  have hxA : Ext w V2 := Ext.step hx hx2
  have nS2 := nS.ext hx2
  have nr2 := nr.ext hx2
  clear bk15 hc a0 a1 b0 b1 d0 d1 nS nr nq
  go_wp2_with fail
  refine wp_KB (V2.heap.size) (fun W => Ext V2 W ∧ V2.heap.size ≤ W.heap.size ∧ W.cell? ⟨w.heap.size, 0, none⟩ = some (.int .i64 cx) ∧ W.cell? ⟨w.heap.size, 1, none⟩ = some (.int .i64 cy) ∧ W.cell? ⟨w.heap.size, 2, none⟩ = some (.int .i64 r) ∧ W.cell? ⟨w.heap.size, 3, none⟩ = some (.int .i64 ux) ∧ W.cell? ⟨w.heap.size, 4, none⟩ = some (.int .i64 uy) ∧ W.cell? ⟨w.heap.size, 5, none⟩ = some (.int .i64 vx) ∧ W.cell? ⟨w.heap.size, 6, none⟩ = some (.int .i64 vy) ∧ W.cell? ⟨w.heap.size + 1, 0, none⟩ = some (.int .i64 ex) ∧ W.cell? ⟨w.heap.size + 1, 1, none⟩ = some (.int .i64 ey) ∧ W.cell? ⟨w.heap.size + 1, 2, none⟩ = some (.int .i64 q) ∧ W.cell? ⟨w.heap.size + 1, 3, none⟩ = some (.int .i64 sx) ∧ W.cell? ⟨w.heap.size + 1, 4, none⟩ = some (.int .i64 sy) ∧ W.cell? ⟨w.heap.size + 1, 5, none⟩ = some (.int .i64 tx) ∧ W.cell? ⟨w.heap.size + 1, 6, none⟩ = some (.int .i64 ty) ∧ W.cell? ⟨w1.heap.size, 0, none⟩ = some (.int .i64 dx) ∧ W.cell? ⟨w1.heap.size, 1, none⟩ = some (.int .i64 dy) ∧ W.cell? ⟨w1.heap.size + 1, 0, none⟩ = some (.int .i64 ny) ∧ W.cell? ⟨w1.heap.size + 1, 1, none⟩ = some (.int .i64 dx) ∧ W.cell? ⟨g12, 0, none⟩ = some (.bool n1) ∧ W.cell? ⟨g12, 1, none⟩ = some (.slice p1 l1 c1) ∧ W.cell? ⟨g13, 0, none⟩ = some (.bool n4) ∧ W.cell? ⟨g13, 1, none⟩ = some (.slice p4 l4 c4) ∧ W.cell? ⟨g14, 0, none⟩ = some (.bool n7) ∧ W.cell? ⟨g14, 1, none⟩ = some (.slice p7 l7 c7) ∧ W.cell? ⟨g15, 0, none⟩ = some (.bool n9) ∧ W.cell? ⟨g15, 1, none⟩ = some (.slice p9 l9 c9)) ?_
  intro hKeep
  repeat (first | refine F_s ?_ | refine F_r ?_)
  refine F_num V2 (ofZ 4) (by rfl) (by rfl) (by intro W hW; (try dsimp only at hW); have hwW : V2.heap.size ≤ W.heap.size := (by have hzz := hW; (repeat (first | exact hzz.size | exact hzz.1.size | replace hzz := hzz.1))); go_simp; exact (meet_of 4 _ (by omega)).mono fun _ _ h => RetN.isN hwW h) ?_; intro n10 p10 l10 c10 hn10; refine F_put ?_
  repeat (first | refine F_s ?_ | refine F_r ?_)
  refine F_num V2 (ofZ s4) (by rfl) (by rfl) (by intro W hW; (try dsimp only at hW); have hwW : V2.heap.size ≤ W.heap.size := (by have hzz := hW; (repeat (first | exact hzz.size | exact hzz.1.size | replace hzz := hzz.1))); go_simp; exact (meet_mul 4 S n10 n1 p10 p1 l10 c10 l1 c1 W (by have hzz := hW; (try dsimp only at hzz); (repeat (first | exact hzz.2 | exact hzz.1 | exact NR.ext (by assumption) hzz | exact NR.ext (by assumption) hzz.1 | replace hzz := hzz.1))) (by have hzz := hW; (try dsimp only at hzz); (repeat (first | exact hzz.2 | exact hzz.1 | exact NR.ext (by assumption) hzz | exact NR.ext (by assumption) hzz.1 | replace hzz := hzz.1))) (Wd.small (a := 1) (by unfold Wd; decide) (by omega)) (wS.out.small (by omega)) s4 Hs4.out (ws4.out.small (by omega))).mono fun _ _ h => RetN.isN hwW h) ?_; intro n11 p11 l11 c11 hn11; refine F_put ?_
  repeat (first | refine F_s ?_ | refine F_r ?_)
  refine F_num V2 (ofZ sr) (by rfl) (by rfl) (by intro W hW; (try dsimp only at hW); have hwW : V2.heap.size ≤ W.heap.size := (by have hzz := hW; (repeat (first | exact hzz.size | exact hzz.1.size | replace hzz := hzz.1))); go_simp; exact (meet_mul s4 rr n11 n4 p11 p4 l11 c11 l4 c4 W (by have hzz := hW; (try dsimp only at hzz); (repeat (first | exact hzz.2 | exact hzz.1 | exact NR.ext (by assumption) hzz | exact NR.ext (by assumption) hzz.1 | replace hzz := hzz.1))) (by have hzz := hW; (try dsimp only at hzz); (repeat (first | exact hzz.2 | exact hzz.1 | exact NR.ext (by assumption) hzz | exact NR.ext (by assumption) hzz.1 | replace hzz := hzz.1))) (ws4.out.small (by omega)) (wrr.out.small (by omega)) sr Hsr.out (wsr.out.small (by omega))).mono fun _ _ h => RetN.isN hwW h) ?_; intro n12 p12 l12 c12 hn12; refine F_put ?_
  repeat (first | refine F_s ?_ | refine F_r ?_)
  refine F_num V2 (ofZ kk) (by rfl) (by rfl) (by intro W hW; (try dsimp only at hW); have hwW : V2.heap.size ≤ W.heap.size := (by have hzz := hW; (repeat (first | exact hzz.size | exact hzz.1.size | replace hzz := hzz.1))); go_simp; exact (meet_mul k k n9 n9 p9 p9 l9 c9 l9 c9 W (by have hzz := hW; (try dsimp only at hzz); (repeat (first | exact hzz.2 | exact hzz.1 | exact NR.ext (by assumption) hzz | exact NR.ext (by assumption) hzz.1 | replace hzz := hzz.1))) (by have hzz := hW; (try dsimp only at hzz); (repeat (first | exact hzz.2 | exact hzz.1 | exact NR.ext (by assumption) hzz | exact NR.ext (by assumption) hzz.1 | replace hzz := hzz.1))) (wk.out.small (by omega)) (wk.out.small (by omega)) kk Hkk.out (wkk.out.small (by omega))).mono fun _ _ h => RetN.isN hwW h) ?_; intro n13 p13 l13 c13 hn13; refine F_put ?_
  repeat (first | refine F_s ?_ | refine F_r ?_)
  refine F_num V2 (ofZ dl) (by rfl) (by rfl) (by intro W hW; (try dsimp only at hW); have hwW : V2.heap.size ≤ W.heap.size := (by have hzz := hW; (repeat (first | exact hzz.size | exact hzz.1.size | replace hzz := hzz.1))); go_simp; exact (meet_sub sr kk n12 n13 p12 p13 l12 c12 l13 c13 W (by have hzz := hW; (try dsimp only at hzz); (repeat (first | exact hzz.2 | exact hzz.1 | exact NR.ext (by assumption) hzz | exact NR.ext (by assumption) hzz.1 | replace hzz := hzz.1))) (by have hzz := hW; (try dsimp only at hzz); (repeat (first | exact hzz.2 | exact hzz.1 | exact NR.ext (by assumption) hzz | exact NR.ext (by assumption) hzz.1 | replace hzz := hzz.1))) (wsr.out.small (by omega)) (wkk.out.small (by omega)) dl Hdl.out (wdl.out.small (by omega))).mono fun _ _ h => RetN.isN hwW h) ?_; intro n14 p14 l14 c14 hn14; refine F_put ?_
  repeat (first | refine F_s ?_ | refine F_r ?_)
  refine F_al ?_
  intro g16 hg16
  simp only [List.mem_cons, List.mem_range, not_or, Nat.not_lt] at hg16
  refine F_w (fun W => _ ∧ NR W n14 p14 l14 c14 (ofZ dl)) (fun W hW => ⟨⟨hW.1.1.1.1.1.1, hW.1.2⟩, hW.2⟩) ?_
  repeat (first | refine F_s ?_ | refine F_r ?_)
  rintro V3 ⟨⟨⟨⟨hx3, hz3, hc3⟩, nD⟩, bk16⟩, _⟩
  obtain ⟨i0, i1, _, hl16⟩ := pt_block bk16
  have hxC : Ext w V3 := Ext.step hxA hx3
  have nS3 := nS2.ext hx3
  have nk3 := nk.ext hx3
  have hC : ∀ W, Ext V3 W → (W.cell? ⟨w.heap.size, 0, none⟩ = some (.int .i64 cx) ∧ W.cell? ⟨w.heap.size, 1, none⟩ = some (.int .i64 cy) ∧ W.cell? ⟨w.heap.size, 2, none⟩ = some (.int .i64 r) ∧ W.cell? ⟨w.heap.size, 3, none⟩ = some (.int .i64 ux) ∧ W.cell? ⟨w.heap.size, 4, none⟩ = some (.int .i64 uy) ∧ W.cell? ⟨w.heap.size, 5, none⟩ = some (.int .i64 vx) ∧ W.cell? ⟨w.heap.size, 6, none⟩ = some (.int .i64 vy) ∧ W.cell? ⟨w.heap.size + 1, 0, none⟩ = some (.int .i64 ex) ∧ W.cell? ⟨w.heap.size + 1, 1, none⟩ = some (.int .i64 ey) ∧ W.cell? ⟨w.heap.size + 1, 2, none⟩ = some (.int .i64 q) ∧ W.cell? ⟨w.heap.size + 1, 3, none⟩ = some (.int .i64 sx) ∧ W.cell? ⟨w.heap.size + 1, 4, none⟩ = some (.int .i64 sy) ∧ W.cell? ⟨w.heap.size + 1, 5, none⟩ = some (.int .i64 tx) ∧ W.cell? ⟨w.heap.size + 1, 6, none⟩ = some (.int .i64 ty) ∧ W.cell? ⟨w1.heap.size, 0, none⟩ = some (.int .i64 dx) ∧ W.cell? ⟨w1.heap.size, 1, none⟩ = some (.int .i64 dy) ∧ W.cell? ⟨w1.heap.size + 1, 0, none⟩ = some (.int .i64 ny) ∧ W.cell? ⟨w1.heap.size + 1, 1, none⟩ = some (.int .i64 dx) ∧ W.cell? ⟨g12, 0, none⟩ = some (.bool n1) ∧ W.cell? ⟨g12, 1, none⟩ = some (.slice p1 l1 c1) ∧ W.cell? ⟨g13, 0, none⟩ = some (.bool n4) ∧ W.cell? ⟨g13, 1, none⟩ = some (.slice p4 l4 c4) ∧ W.cell? ⟨g14, 0, none⟩ = some (.bool n7) ∧ W.cell? ⟨g14, 1, none⟩ = some (.slice p7 l7 c7) ∧ W.cell? ⟨g15, 0, none⟩ = some (.bool n9) ∧ W.cell? ⟨g15, 1, none⟩ = some (.slice p9 l9 c9) ∧ W.cell? ⟨g16, 0, none⟩ = some (.bool n14) ∧ W.cell? ⟨g16, 1, none⟩ = some (.slice p14 l14 c14)) := fun W hx => by
    have hbc : ∀ b o, b < V3.heap.size → W.cell? ⟨b, o, none⟩ = V3.cell? ⟨b, o, none⟩ := fun b o h => hx.cell (p := ⟨b, o, none⟩) h
    simp (disch := omega) only [hbc]
    go_simp
  clear bk16 hc2 f0 f1 nS2 nr2 nk
  have hix0 := fun (ux uy vx vy : Int) => ix0 ux uy vx vy
  have hix1 := fun (ux uy vx vy : Int) => ix1 ux uy vx vy
  go_wp2
  go_loopw [17, 99] (fun sl i wr => Ext V3 wr ∧ ((i = .int .i64 0 ∧ sl = .slice none 0 0) ∨ (∃ G c, i = .int .i64 1 ∧ sl = .slice (some ⟨G, 0, none⟩) 1 c ∧ OwnS wr V3.heap.size (some ⟨G, 0, none⟩) 1 c [(eu, pu)]) ∨ (∃ G c, i = .int .i64 2 ∧ sl = .slice (some ⟨G, 0, none⟩) 2 c ∧ OwnS wr V3.heap.size (some ⟨G, 0, none⟩) 2 c [(eu, pu), (ev, pv)]))) (fun _ i _ => 2 - (intOf i).toNat)
  case atStart => exact ⟨Below.refl _ _, .inl ⟨rfl, rfl⟩⟩
  case round =>
    obtain ⟨hx4r, hrel⟩ := hrel
    have hsr := hx4r.size
    have hcr := hC wr hx4r
    (try dsimp only at hcr)
    have q0 : g12 < wr.heap.size := by omega
    have q1 : g13 < wr.heap.size := by omega
    have q2 : g14 < wr.heap.size := by omega
    have q3 : g15 < wr.heap.size := by omega
    have q4 : g16 < wr.heap.size := by omega
    have q5 : w.heap.size < wr.heap.size := by omega
    have q6 : w.heap.size + 1 < wr.heap.size := by omega
    have q7 : w1.heap.size < wr.heap.size := by omega
    have q8 : w1.heap.size + 1 < wr.heap.size := by omega
    rcases hrel with ⟨rfl, rfl⟩ | ⟨G, cc, rfl, rfl, hO⟩ | ⟨G, cc, rfl, rfl, hO⟩
    · have hSM : FMono (fun W => Ext V3 W ∧ wr.heap.size + 1 ≤ W.heap.size ∧ (W.cell? ⟨w.heap.size, 0, none⟩ = some (.int .i64 cx) ∧ W.cell? ⟨w.heap.size, 1, none⟩ = some (.int .i64 cy) ∧ W.cell? ⟨w.heap.size, 2, none⟩ = some (.int .i64 r) ∧ W.cell? ⟨w.heap.size, 3, none⟩ = some (.int .i64 ux) ∧ W.cell? ⟨w.heap.size, 4, none⟩ = some (.int .i64 uy) ∧ W.cell? ⟨w.heap.size, 5, none⟩ = some (.int .i64 vx) ∧ W.cell? ⟨w.heap.size, 6, none⟩ = some (.int .i64 vy) ∧ W.cell? ⟨w.heap.size + 1, 0, none⟩ = some (.int .i64 ex) ∧ W.cell? ⟨w.heap.size + 1, 1, none⟩ = some (.int .i64 ey) ∧ W.cell? ⟨w.heap.size + 1, 2, none⟩ = some (.int .i64 q) ∧ W.cell? ⟨w.heap.size + 1, 3, none⟩ = some (.int .i64 sx) ∧ W.cell? ⟨w.heap.size + 1, 4, none⟩ = some (.int .i64 sy) ∧ W.cell? ⟨w.heap.size + 1, 5, none⟩ = some (.int .i64 tx) ∧ W.cell? ⟨w.heap.size + 1, 6, none⟩ = some (.int .i64 ty) ∧ W.cell? ⟨w1.heap.size, 0, none⟩ = some (.int .i64 dx) ∧ W.cell? ⟨w1.heap.size, 1, none⟩ = some (.int .i64 dy) ∧ W.cell? ⟨w1.heap.size + 1, 0, none⟩ = some (.int .i64 ny) ∧ W.cell? ⟨w1.heap.size + 1, 1, none⟩ = some (.int .i64 dx) ∧ W.cell? ⟨g12, 0, none⟩ = some (.bool n1) ∧ W.cell? ⟨g12, 1, none⟩ = some (.slice p1 l1 c1) ∧ W.cell? ⟨g13, 0, none⟩ = some (.bool n4) ∧ W.cell? ⟨g13, 1, none⟩ = some (.slice p4 l4 c4) ∧ W.cell? ⟨g14, 0, none⟩ = some (.bool n7) ∧ W.cell? ⟨g14, 1, none⟩ = some (.slice p7 l7 c7) ∧ W.cell? ⟨g15, 0, none⟩ = some (.bool n9) ∧ W.cell? ⟨g15, 1, none⟩ = some (.slice p9 l9 c9) ∧ W.cell? ⟨g16, 0, none⟩ = some (.bool n14) ∧ W.cell? ⟨g16, 1, none⟩ = some (.slice p14 l14 c14) ∧ W.cell? ⟨wr.heap.size, 0, none⟩ = some (.int .i64 ux) ∧ W.cell? ⟨wr.heap.size, 1, none⟩ = some (.int .i64 uy) )) := by intro W W' h hb; obtain ⟨hx, hz, hc⟩ := h; have hbc : ∀ b o, b < W.heap.size → W'.cell? ⟨b, o, none⟩ = W.cell? ⟨b, o, none⟩ := fun b o h => hb.cell (p := ⟨b, o, none⟩) h; have hzx := hx.size; refine ⟨hx.step hb, Nat.le_trans hz hb.size, ?_⟩; (try dsimp only at hc ⊢); simp (disch := omega) only [hbc]; exact hc
      go_wp2_with fail
      refine wp_region_G (fun W => Ext V3 W ∧ wr.heap.size + 1 ≤ W.heap.size ∧ (W.cell? ⟨w.heap.size, 0, none⟩ = some (.int .i64 cx) ∧ W.cell? ⟨w.heap.size, 1, none⟩ = some (.int .i64 cy) ∧ W.cell? ⟨w.heap.size, 2, none⟩ = some (.int .i64 r) ∧ W.cell? ⟨w.heap.size, 3, none⟩ = some (.int .i64 ux) ∧ W.cell? ⟨w.heap.size, 4, none⟩ = some (.int .i64 uy) ∧ W.cell? ⟨w.heap.size, 5, none⟩ = some (.int .i64 vx) ∧ W.cell? ⟨w.heap.size, 6, none⟩ = some (.int .i64 vy) ∧ W.cell? ⟨w.heap.size + 1, 0, none⟩ = some (.int .i64 ex) ∧ W.cell? ⟨w.heap.size + 1, 1, none⟩ = some (.int .i64 ey) ∧ W.cell? ⟨w.heap.size + 1, 2, none⟩ = some (.int .i64 q) ∧ W.cell? ⟨w.heap.size + 1, 3, none⟩ = some (.int .i64 sx) ∧ W.cell? ⟨w.heap.size + 1, 4, none⟩ = some (.int .i64 sy) ∧ W.cell? ⟨w.heap.size + 1, 5, none⟩ = some (.int .i64 tx) ∧ W.cell? ⟨w.heap.size + 1, 6, none⟩ = some (.int .i64 ty) ∧ W.cell? ⟨w1.heap.size, 0, none⟩ = some (.int .i64 dx) ∧ W.cell? ⟨w1.heap.size, 1, none⟩ = some (.int .i64 dy) ∧ W.cell? ⟨w1.heap.size + 1, 0, none⟩ = some (.int .i64 ny) ∧ W.cell? ⟨w1.heap.size + 1, 1, none⟩ = some (.int .i64 dx) ∧ W.cell? ⟨g12, 0, none⟩ = some (.bool n1) ∧ W.cell? ⟨g12, 1, none⟩ = some (.slice p1 l1 c1) ∧ W.cell? ⟨g13, 0, none⟩ = some (.bool n4) ∧ W.cell? ⟨g13, 1, none⟩ = some (.slice p4 l4 c4) ∧ W.cell? ⟨g14, 0, none⟩ = some (.bool n7) ∧ W.cell? ⟨g14, 1, none⟩ = some (.slice p7 l7 c7) ∧ W.cell? ⟨g15, 0, none⟩ = some (.bool n9) ∧ W.cell? ⟨g15, 1, none⟩ = some (.slice p9 l9 c9) ∧ W.cell? ⟨g16, 0, none⟩ = some (.bool n14) ∧ W.cell? ⟨g16, 1, none⟩ = some (.slice p14 l14 c14) ∧ W.cell? ⟨wr.heap.size, 0, none⟩ = some (.int .i64 ux) ∧ W.cell? ⟨wr.heap.size, 1, none⟩ = some (.int .i64 uy) )) (fun W => OwnS W V3.heap.size none 0 0 []) (by kernel_rfl) (by kernel_rfl) ?_ (hSM.and (fun _ _ h hb => h.ext hb)) ?_ ?_
      · refine ⟨⟨bxx, by simp, ?_⟩, (OwnS.nil _ _)⟩
        go_simp
      · intro W h
        have h2 : wr.heap.size + 1 ≤ W.heap.size := h.2.1
        simp
        omega
      repeat (first | refine F_s ?_ | refine F_r ?_)
      (refine F_call (v := .int .i64 du) (by rfl) (by rfl) ?_ ?_; (· (intro W hW; (try dsimp only at hW); go_simp; refine (Cdu.out _).mono ?_; rintro e w' ⟨rfl, hx⟩; exact ⟨_, rfl, rfl, hx⟩))); refine F_put ?_
      repeat (first | refine F_s ?_ | refine F_r ?_)
      refine F_num wr (ofZ du) (by rfl) (by rfl) (by intro W hW; (try dsimp only at hW); have hwW : wr.heap.size ≤ W.heap.size := (by have hzz := hW; (repeat (first | exact Nat.le_of_succ_le hzz.2.1 | exact Nat.le_of_succ_le hzz.1.2.1 | replace hzz := hzz.1))); go_simp; exact (meet_of du _ idu.out).mono fun _ _ h => RetN.isN hwW h) ?_; intro n21 p21 l21 c21 hn21; refine F_put ?_
      repeat (first | refine F_s ?_ | refine F_r ?_)
      refine F_num wr (ofZ eu) (by rfl) (by rfl) (by intro W hW; (try dsimp only at hW); have hwW : wr.heap.size ≤ W.heap.size := (by have hzz := hW; (repeat (first | exact Nat.le_of_succ_le hzz.2.1 | exact Nat.le_of_succ_le hzz.1.2.1 | replace hzz := hzz.1))); go_simp; exact (meet_mul k du n9 n21 p9 p21 l9 c9 l21 c21 W (by have hzz := hW; (try dsimp only at hzz); (repeat (first | exact hzz.2 | exact hzz.1 | exact NR.ext (by assumption) hzz | exact NR.ext (by assumption) hzz.1 | replace hzz := hzz.1))) (by have hzz := hW; (try dsimp only at hzz); (repeat (first | exact hzz.2 | exact hzz.1 | exact NR.ext (by assumption) hzz | exact NR.ext (by assumption) hzz.1 | replace hzz := hzz.1))) (wk.out.small (by omega)) (wdu.out.small (by omega)) eu Heu.out (weu.out.small (by omega))).mono fun _ _ h => RetN.isN hwW h) ?_; intro n22 p22 l22 c22 hn22; refine F_put ?_
      repeat (first | refine F_s ?_ | refine F_r ?_)
      (refine F_call (v := .int .i64 pu) (by rfl) (by rfl) ?_ ?_; (· (intro W hW; (try dsimp only at hW); go_simp; refine (Cpu.out _).mono ?_; rintro e w' ⟨rfl, hx⟩; exact ⟨_, rfl, rfl, hx⟩))); refine F_put ?_
      repeat (first | refine F_s ?_ | refine F_r ?_)
      refine F_num wr (ofZ pu) (by rfl) (by rfl) (by intro W hW; (try dsimp only at hW); have hwW : wr.heap.size ≤ W.heap.size := (by have hzz := hW; (repeat (first | exact Nat.le_of_succ_le hzz.2.1 | exact Nat.le_of_succ_le hzz.1.2.1 | replace hzz := hzz.1))); go_simp; exact (meet_of pu _ ipu.out).mono fun _ _ h => RetN.isN hwW h) ?_; intro n23 p23 l23 c23 hn23; refine F_put ?_
      repeat (first | refine F_s ?_ | refine F_r ?_)
      refine F_buildS1 _ (by rfl) (by rfl) (by rfl) n22 n23 p22 p23 l22 c22 l23 c23 (by rfl) ?_
      intro gb _
      refine F_put ?_
      refine F_appendS _ _ (fun W => Ext V3 W ∧ wr.heap.size + 1 ≤ W.heap.size ∧ (W.cell? ⟨w.heap.size, 0, none⟩ = some (.int .i64 cx) ∧ W.cell? ⟨w.heap.size, 1, none⟩ = some (.int .i64 cy) ∧ W.cell? ⟨w.heap.size, 2, none⟩ = some (.int .i64 r) ∧ W.cell? ⟨w.heap.size, 3, none⟩ = some (.int .i64 ux) ∧ W.cell? ⟨w.heap.size, 4, none⟩ = some (.int .i64 uy) ∧ W.cell? ⟨w.heap.size, 5, none⟩ = some (.int .i64 vx) ∧ W.cell? ⟨w.heap.size, 6, none⟩ = some (.int .i64 vy) ∧ W.cell? ⟨w.heap.size + 1, 0, none⟩ = some (.int .i64 ex) ∧ W.cell? ⟨w.heap.size + 1, 1, none⟩ = some (.int .i64 ey) ∧ W.cell? ⟨w.heap.size + 1, 2, none⟩ = some (.int .i64 q) ∧ W.cell? ⟨w.heap.size + 1, 3, none⟩ = some (.int .i64 sx) ∧ W.cell? ⟨w.heap.size + 1, 4, none⟩ = some (.int .i64 sy) ∧ W.cell? ⟨w.heap.size + 1, 5, none⟩ = some (.int .i64 tx) ∧ W.cell? ⟨w.heap.size + 1, 6, none⟩ = some (.int .i64 ty) ∧ W.cell? ⟨w1.heap.size, 0, none⟩ = some (.int .i64 dx) ∧ W.cell? ⟨w1.heap.size, 1, none⟩ = some (.int .i64 dy) ∧ W.cell? ⟨w1.heap.size + 1, 0, none⟩ = some (.int .i64 ny) ∧ W.cell? ⟨w1.heap.size + 1, 1, none⟩ = some (.int .i64 dx) ∧ W.cell? ⟨g12, 0, none⟩ = some (.bool n1) ∧ W.cell? ⟨g12, 1, none⟩ = some (.slice p1 l1 c1) ∧ W.cell? ⟨g13, 0, none⟩ = some (.bool n4) ∧ W.cell? ⟨g13, 1, none⟩ = some (.slice p4 l4 c4) ∧ W.cell? ⟨g14, 0, none⟩ = some (.bool n7) ∧ W.cell? ⟨g14, 1, none⟩ = some (.slice p7 l7 c7) ∧ W.cell? ⟨g15, 0, none⟩ = some (.bool n9) ∧ W.cell? ⟨g15, 1, none⟩ = some (.slice p9 l9 c9) ∧ W.cell? ⟨g16, 0, none⟩ = some (.bool n14) ∧ W.cell? ⟨g16, 1, none⟩ = some (.slice p14 l14 c14) ∧ W.cell? ⟨wr.heap.size, 0, none⟩ = some (.int .i64 ux) ∧ W.cell? ⟨wr.heap.size, 1, none⟩ = some (.int .i64 uy) )) V3.heap.size none 0 0 [] gb n22 n23 p22 p23 l22 c22 l23 c23 eu pu (by rfl) (by rfl) (by rfl) (by rfl) (by rfl) (by omega) (fun W hW => ⟨hW.1.1.1.1.1, hW.1.1.1.1.2, hW.2, hW.1.1.2.guardN, hW.1.2.guardN, hW.1.1.1.1.1.1.size⟩) ?_ hSM (fun _ h => h) ?_
      · intro W W' h hO' hg
        obtain ⟨hx, hz, hc⟩ := h
        have hzx := hx.size
        have hbc : ∀ b o, b < W.heap.size → W'.cell? ⟨b, o, none⟩ = W.cell? ⟨b, o, none⟩ := fun b o h1 => World.cell?_of_block (hg.block b h1 (by show some b ≠ none; simp))
        refine ⟨ext_grown hx hg (fun g h => (hO'.lt g h).1), Nat.le_trans hz hg.size, ?_⟩
        (try dsimp only at hc ⊢)
        simp (disch := omega) only [hbc]
        exact hc
      intro g' c'
      refine F_put ?_
      repeat (first | refine F_s ?_ | refine F_r ?_)
      rintro W6 ⟨⟨⟨hx6, hz6, hc6⟩, hO6⟩, _⟩
      go_wp2
      exact ⟨⟨hx6, .inr (.inl ⟨g', c', rfl, rfl, hO6⟩)⟩, by simp [intOf]⟩
    · have hG := hO.lt G rfl
      have hSM : FMono (fun W => Ext V3 W ∧ wr.heap.size + 1 ≤ W.heap.size ∧ (W.cell? ⟨w.heap.size, 0, none⟩ = some (.int .i64 cx) ∧ W.cell? ⟨w.heap.size, 1, none⟩ = some (.int .i64 cy) ∧ W.cell? ⟨w.heap.size, 2, none⟩ = some (.int .i64 r) ∧ W.cell? ⟨w.heap.size, 3, none⟩ = some (.int .i64 ux) ∧ W.cell? ⟨w.heap.size, 4, none⟩ = some (.int .i64 uy) ∧ W.cell? ⟨w.heap.size, 5, none⟩ = some (.int .i64 vx) ∧ W.cell? ⟨w.heap.size, 6, none⟩ = some (.int .i64 vy) ∧ W.cell? ⟨w.heap.size + 1, 0, none⟩ = some (.int .i64 ex) ∧ W.cell? ⟨w.heap.size + 1, 1, none⟩ = some (.int .i64 ey) ∧ W.cell? ⟨w.heap.size + 1, 2, none⟩ = some (.int .i64 q) ∧ W.cell? ⟨w.heap.size + 1, 3, none⟩ = some (.int .i64 sx) ∧ W.cell? ⟨w.heap.size + 1, 4, none⟩ = some (.int .i64 sy) ∧ W.cell? ⟨w.heap.size + 1, 5, none⟩ = some (.int .i64 tx) ∧ W.cell? ⟨w.heap.size + 1, 6, none⟩ = some (.int .i64 ty) ∧ W.cell? ⟨w1.heap.size, 0, none⟩ = some (.int .i64 dx) ∧ W.cell? ⟨w1.heap.size, 1, none⟩ = some (.int .i64 dy) ∧ W.cell? ⟨w1.heap.size + 1, 0, none⟩ = some (.int .i64 ny) ∧ W.cell? ⟨w1.heap.size + 1, 1, none⟩ = some (.int .i64 dx) ∧ W.cell? ⟨g12, 0, none⟩ = some (.bool n1) ∧ W.cell? ⟨g12, 1, none⟩ = some (.slice p1 l1 c1) ∧ W.cell? ⟨g13, 0, none⟩ = some (.bool n4) ∧ W.cell? ⟨g13, 1, none⟩ = some (.slice p4 l4 c4) ∧ W.cell? ⟨g14, 0, none⟩ = some (.bool n7) ∧ W.cell? ⟨g14, 1, none⟩ = some (.slice p7 l7 c7) ∧ W.cell? ⟨g15, 0, none⟩ = some (.bool n9) ∧ W.cell? ⟨g15, 1, none⟩ = some (.slice p9 l9 c9) ∧ W.cell? ⟨g16, 0, none⟩ = some (.bool n14) ∧ W.cell? ⟨g16, 1, none⟩ = some (.slice p14 l14 c14) ∧ W.cell? ⟨wr.heap.size, 0, none⟩ = some (.int .i64 vx) ∧ W.cell? ⟨wr.heap.size, 1, none⟩ = some (.int .i64 vy) )) := by intro W W' h hb; obtain ⟨hx, hz, hc⟩ := h; have hbc : ∀ b o, b < W.heap.size → W'.cell? ⟨b, o, none⟩ = W.cell? ⟨b, o, none⟩ := fun b o h => hb.cell (p := ⟨b, o, none⟩) h; have hzx := hx.size; refine ⟨hx.step hb, Nat.le_trans hz hb.size, ?_⟩; (try dsimp only at hc ⊢); simp (disch := omega) only [hbc]; exact hc
      go_wp2_with fail
      refine wp_region_G (fun W => Ext V3 W ∧ wr.heap.size + 1 ≤ W.heap.size ∧ (W.cell? ⟨w.heap.size, 0, none⟩ = some (.int .i64 cx) ∧ W.cell? ⟨w.heap.size, 1, none⟩ = some (.int .i64 cy) ∧ W.cell? ⟨w.heap.size, 2, none⟩ = some (.int .i64 r) ∧ W.cell? ⟨w.heap.size, 3, none⟩ = some (.int .i64 ux) ∧ W.cell? ⟨w.heap.size, 4, none⟩ = some (.int .i64 uy) ∧ W.cell? ⟨w.heap.size, 5, none⟩ = some (.int .i64 vx) ∧ W.cell? ⟨w.heap.size, 6, none⟩ = some (.int .i64 vy) ∧ W.cell? ⟨w.heap.size + 1, 0, none⟩ = some (.int .i64 ex) ∧ W.cell? ⟨w.heap.size + 1, 1, none⟩ = some (.int .i64 ey) ∧ W.cell? ⟨w.heap.size + 1, 2, none⟩ = some (.int .i64 q) ∧ W.cell? ⟨w.heap.size + 1, 3, none⟩ = some (.int .i64 sx) ∧ W.cell? ⟨w.heap.size + 1, 4, none⟩ = some (.int .i64 sy) ∧ W.cell? ⟨w.heap.size + 1, 5, none⟩ = some (.int .i64 tx) ∧ W.cell? ⟨w.heap.size + 1, 6, none⟩ = some (.int .i64 ty) ∧ W.cell? ⟨w1.heap.size, 0, none⟩ = some (.int .i64 dx) ∧ W.cell? ⟨w1.heap.size, 1, none⟩ = some (.int .i64 dy) ∧ W.cell? ⟨w1.heap.size + 1, 0, none⟩ = some (.int .i64 ny) ∧ W.cell? ⟨w1.heap.size + 1, 1, none⟩ = some (.int .i64 dx) ∧ W.cell? ⟨g12, 0, none⟩ = some (.bool n1) ∧ W.cell? ⟨g12, 1, none⟩ = some (.slice p1 l1 c1) ∧ W.cell? ⟨g13, 0, none⟩ = some (.bool n4) ∧ W.cell? ⟨g13, 1, none⟩ = some (.slice p4 l4 c4) ∧ W.cell? ⟨g14, 0, none⟩ = some (.bool n7) ∧ W.cell? ⟨g14, 1, none⟩ = some (.slice p7 l7 c7) ∧ W.cell? ⟨g15, 0, none⟩ = some (.bool n9) ∧ W.cell? ⟨g15, 1, none⟩ = some (.slice p9 l9 c9) ∧ W.cell? ⟨g16, 0, none⟩ = some (.bool n14) ∧ W.cell? ⟨g16, 1, none⟩ = some (.slice p14 l14 c14) ∧ W.cell? ⟨wr.heap.size, 0, none⟩ = some (.int .i64 vx) ∧ W.cell? ⟨wr.heap.size, 1, none⟩ = some (.int .i64 vy) )) (fun W => OwnS W V3.heap.size (some ⟨G, 0, none⟩) 1 cc [(eu, pu)]) (by kernel_rfl) (by kernel_rfl) ?_ (hSM.and (fun _ _ h hb => h.ext hb)) ?_ ?_
      · refine ⟨⟨bxx, by simp, ?_⟩, (hO.ext bxx)⟩
        go_simp
      · intro W h
        have h2 : wr.heap.size + 1 ≤ W.heap.size := h.2.1
        simp
        omega
      repeat (first | refine F_s ?_ | refine F_r ?_)
      (refine F_call (v := .int .i64 dv) (by rfl) (by rfl) ?_ ?_; (· (intro W hW; (try dsimp only at hW); go_simp; refine (Cdv.out _).mono ?_; rintro e w' ⟨rfl, hx⟩; exact ⟨_, rfl, rfl, hx⟩))); refine F_put ?_
      repeat (first | refine F_s ?_ | refine F_r ?_)
      refine F_num wr (ofZ dv) (by rfl) (by rfl) (by intro W hW; (try dsimp only at hW); have hwW : wr.heap.size ≤ W.heap.size := (by have hzz := hW; (repeat (first | exact Nat.le_of_succ_le hzz.2.1 | exact Nat.le_of_succ_le hzz.1.2.1 | replace hzz := hzz.1))); go_simp; exact (meet_of dv _ idv.out).mono fun _ _ h => RetN.isN hwW h) ?_; intro n21 p21 l21 c21 hn21; refine F_put ?_
      repeat (first | refine F_s ?_ | refine F_r ?_)
      refine F_num wr (ofZ ev) (by rfl) (by rfl) (by intro W hW; (try dsimp only at hW); have hwW : wr.heap.size ≤ W.heap.size := (by have hzz := hW; (repeat (first | exact Nat.le_of_succ_le hzz.2.1 | exact Nat.le_of_succ_le hzz.1.2.1 | replace hzz := hzz.1))); go_simp; exact (meet_mul k dv n9 n21 p9 p21 l9 c9 l21 c21 W (by have hzz := hW; (try dsimp only at hzz); (repeat (first | exact hzz.2 | exact hzz.1 | exact NR.ext (by assumption) hzz | exact NR.ext (by assumption) hzz.1 | replace hzz := hzz.1))) (by have hzz := hW; (try dsimp only at hzz); (repeat (first | exact hzz.2 | exact hzz.1 | exact NR.ext (by assumption) hzz | exact NR.ext (by assumption) hzz.1 | replace hzz := hzz.1))) (wk.out.small (by omega)) (wdv.out.small (by omega)) ev Hev.out (wev.out.small (by omega))).mono fun _ _ h => RetN.isN hwW h) ?_; intro n22 p22 l22 c22 hn22; refine F_put ?_
      repeat (first | refine F_s ?_ | refine F_r ?_)
      (refine F_call (v := .int .i64 pv) (by rfl) (by rfl) ?_ ?_; (· (intro W hW; (try dsimp only at hW); go_simp; refine (Cpv.out _).mono ?_; rintro e w' ⟨rfl, hx⟩; exact ⟨_, rfl, rfl, hx⟩))); refine F_put ?_
      repeat (first | refine F_s ?_ | refine F_r ?_)
      refine F_num wr (ofZ pv) (by rfl) (by rfl) (by intro W hW; (try dsimp only at hW); have hwW : wr.heap.size ≤ W.heap.size := (by have hzz := hW; (repeat (first | exact Nat.le_of_succ_le hzz.2.1 | exact Nat.le_of_succ_le hzz.1.2.1 | replace hzz := hzz.1))); go_simp; exact (meet_of pv _ ipv.out).mono fun _ _ h => RetN.isN hwW h) ?_; intro n23 p23 l23 c23 hn23; refine F_put ?_
      repeat (first | refine F_s ?_ | refine F_r ?_)
      refine F_buildS1 _ (by rfl) (by rfl) (by rfl) n22 n23 p22 p23 l22 c22 l23 c23 (by rfl) ?_
      intro gb _
      refine F_put ?_
      refine F_appendS _ _ (fun W => Ext V3 W ∧ wr.heap.size + 1 ≤ W.heap.size ∧ (W.cell? ⟨w.heap.size, 0, none⟩ = some (.int .i64 cx) ∧ W.cell? ⟨w.heap.size, 1, none⟩ = some (.int .i64 cy) ∧ W.cell? ⟨w.heap.size, 2, none⟩ = some (.int .i64 r) ∧ W.cell? ⟨w.heap.size, 3, none⟩ = some (.int .i64 ux) ∧ W.cell? ⟨w.heap.size, 4, none⟩ = some (.int .i64 uy) ∧ W.cell? ⟨w.heap.size, 5, none⟩ = some (.int .i64 vx) ∧ W.cell? ⟨w.heap.size, 6, none⟩ = some (.int .i64 vy) ∧ W.cell? ⟨w.heap.size + 1, 0, none⟩ = some (.int .i64 ex) ∧ W.cell? ⟨w.heap.size + 1, 1, none⟩ = some (.int .i64 ey) ∧ W.cell? ⟨w.heap.size + 1, 2, none⟩ = some (.int .i64 q) ∧ W.cell? ⟨w.heap.size + 1, 3, none⟩ = some (.int .i64 sx) ∧ W.cell? ⟨w.heap.size + 1, 4, none⟩ = some (.int .i64 sy) ∧ W.cell? ⟨w.heap.size + 1, 5, none⟩ = some (.int .i64 tx) ∧ W.cell? ⟨w.heap.size + 1, 6, none⟩ = some (.int .i64 ty) ∧ W.cell? ⟨w1.heap.size, 0, none⟩ = some (.int .i64 dx) ∧ W.cell? ⟨w1.heap.size, 1, none⟩ = some (.int .i64 dy) ∧ W.cell? ⟨w1.heap.size + 1, 0, none⟩ = some (.int .i64 ny) ∧ W.cell? ⟨w1.heap.size + 1, 1, none⟩ = some (.int .i64 dx) ∧ W.cell? ⟨g12, 0, none⟩ = some (.bool n1) ∧ W.cell? ⟨g12, 1, none⟩ = some (.slice p1 l1 c1) ∧ W.cell? ⟨g13, 0, none⟩ = some (.bool n4) ∧ W.cell? ⟨g13, 1, none⟩ = some (.slice p4 l4 c4) ∧ W.cell? ⟨g14, 0, none⟩ = some (.bool n7) ∧ W.cell? ⟨g14, 1, none⟩ = some (.slice p7 l7 c7) ∧ W.cell? ⟨g15, 0, none⟩ = some (.bool n9) ∧ W.cell? ⟨g15, 1, none⟩ = some (.slice p9 l9 c9) ∧ W.cell? ⟨g16, 0, none⟩ = some (.bool n14) ∧ W.cell? ⟨g16, 1, none⟩ = some (.slice p14 l14 c14) ∧ W.cell? ⟨wr.heap.size, 0, none⟩ = some (.int .i64 vx) ∧ W.cell? ⟨wr.heap.size, 1, none⟩ = some (.int .i64 vy) )) V3.heap.size (some ⟨G, 0, none⟩) 1 cc [(eu, pu)] gb n22 n23 p22 p23 l22 c22 l23 c23 ev pv (by rfl) (by rfl) (by rfl) (by rfl) (by rfl) (by omega) (fun W hW => ⟨hW.1.1.1.1.1, hW.1.1.1.1.2, hW.2, hW.1.1.2.behind hn22 hG.2, hW.1.2.behind hn23 hG.2, hW.1.1.1.1.1.1.size⟩) ?_ hSM (fun _ h => h) ?_
      · intro W W' h hO' hg
        obtain ⟨hx, hz, hc⟩ := h
        have hzx := hx.size
        have hbc : ∀ b o, b < W.heap.size → b ≠ G → W'.cell? ⟨b, o, none⟩ = W.cell? ⟨b, o, none⟩ := fun b o h1 h2 => World.cell?_of_block (hg.block b h1 (by show some b ≠ some G; simpa using h2))
        refine ⟨ext_grown hx hg (fun g h => (hO'.lt g h).1), Nat.le_trans hz hg.size, ?_⟩
        (try dsimp only at hc ⊢)
        simp (disch := omega) only [hbc]
        exact hc
      intro g' c'
      refine F_put ?_
      repeat (first | refine F_s ?_ | refine F_r ?_)
      rintro W6 ⟨⟨⟨hx6, hz6, hc6⟩, hO6⟩, _⟩
      go_wp2
      exact ⟨⟨hx6, .inr (.inr ⟨g', c', rfl, rfl, hO6⟩)⟩, by simp [intOf]⟩
    · have hO2 := Lib.hid hO
      have hx4s := Lib.hid hx4r
      go_wp2
      go_loopw [17, 119] (fun sl i wr => Ext V3 wr ∧ ((∃ G c, i = .int .i64 0 ∧ sl = .slice (some ⟨G, 0, none⟩) 2 c ∧ OwnS wr V3.heap.size (some ⟨G, 0, none⟩) 2 c [(eu, pu), (ev, pv)]) ∨ (∃ G c, i = .int .i64 1 ∧ sl = .slice (some ⟨G, 0, none⟩) 3 c ∧ OwnS wr V3.heap.size (some ⟨G, 0, none⟩) 3 c [(eu, pu), (ev, pv), (es, ps)]) ∨ (∃ G c, i = .int .i64 2 ∧ sl = .slice (some ⟨G, 0, none⟩) 4 c ∧ OwnS wr V3.heap.size (some ⟨G, 0, none⟩) 4 c [(eu, pu), (ev, pv), (es, ps), (et, pt)]))) (fun _ i _ => 2 - (intOf i).toNat)
      case atStart => exact ⟨hx4s.out, .inl ⟨G, cc, rfl, rfl, hO2.out⟩⟩
      case round =>
        clear hcr hO hO2 hx4s hx4r q0 q1 q2 q3 q4 q5 q6 q7 q8 hsr
        obtain ⟨hx5r, hrel⟩ := hrel
        have hsr := hx5r.size
        have hcr := hC wr hx5r
        (try dsimp only at hcr)
        have q0 : g12 < wr.heap.size := by omega
        have q1 : g13 < wr.heap.size := by omega
        have q2 : g14 < wr.heap.size := by omega
        have q3 : g15 < wr.heap.size := by omega
        have q4 : g16 < wr.heap.size := by omega
        have q5 : w.heap.size < wr.heap.size := by omega
        have q6 : w.heap.size + 1 < wr.heap.size := by omega
        have q7 : w1.heap.size < wr.heap.size := by omega
        have q8 : w1.heap.size + 1 < wr.heap.size := by omega
        rcases hrel with ⟨G, cc, rfl, rfl, hO⟩ | ⟨G, cc, rfl, rfl, hO⟩ | ⟨G, cc, rfl, rfl, hO⟩
        · have hG := hO.lt G rfl
          have hSM : FMono (fun W => Ext V3 W ∧ wr.heap.size + 1 ≤ W.heap.size ∧ (W.cell? ⟨w.heap.size, 0, none⟩ = some (.int .i64 cx) ∧ W.cell? ⟨w.heap.size, 1, none⟩ = some (.int .i64 cy) ∧ W.cell? ⟨w.heap.size, 2, none⟩ = some (.int .i64 r) ∧ W.cell? ⟨w.heap.size, 3, none⟩ = some (.int .i64 ux) ∧ W.cell? ⟨w.heap.size, 4, none⟩ = some (.int .i64 uy) ∧ W.cell? ⟨w.heap.size, 5, none⟩ = some (.int .i64 vx) ∧ W.cell? ⟨w.heap.size, 6, none⟩ = some (.int .i64 vy) ∧ W.cell? ⟨w.heap.size + 1, 0, none⟩ = some (.int .i64 ex) ∧ W.cell? ⟨w.heap.size + 1, 1, none⟩ = some (.int .i64 ey) ∧ W.cell? ⟨w.heap.size + 1, 2, none⟩ = some (.int .i64 q) ∧ W.cell? ⟨w.heap.size + 1, 3, none⟩ = some (.int .i64 sx) ∧ W.cell? ⟨w.heap.size + 1, 4, none⟩ = some (.int .i64 sy) ∧ W.cell? ⟨w.heap.size + 1, 5, none⟩ = some (.int .i64 tx) ∧ W.cell? ⟨w.heap.size + 1, 6, none⟩ = some (.int .i64 ty) ∧ W.cell? ⟨w1.heap.size, 0, none⟩ = some (.int .i64 dx) ∧ W.cell? ⟨w1.heap.size, 1, none⟩ = some (.int .i64 dy) ∧ W.cell? ⟨w1.heap.size + 1, 0, none⟩ = some (.int .i64 ny) ∧ W.cell? ⟨w1.heap.size + 1, 1, none⟩ = some (.int .i64 dx) ∧ W.cell? ⟨g12, 0, none⟩ = some (.bool n1) ∧ W.cell? ⟨g12, 1, none⟩ = some (.slice p1 l1 c1) ∧ W.cell? ⟨g13, 0, none⟩ = some (.bool n4) ∧ W.cell? ⟨g13, 1, none⟩ = some (.slice p4 l4 c4) ∧ W.cell? ⟨g14, 0, none⟩ = some (.bool n7) ∧ W.cell? ⟨g14, 1, none⟩ = some (.slice p7 l7 c7) ∧ W.cell? ⟨g15, 0, none⟩ = some (.bool n9) ∧ W.cell? ⟨g15, 1, none⟩ = some (.slice p9 l9 c9) ∧ W.cell? ⟨g16, 0, none⟩ = some (.bool n14) ∧ W.cell? ⟨g16, 1, none⟩ = some (.slice p14 l14 c14) ∧ W.cell? ⟨wr.heap.size, 0, none⟩ = some (.int .i64 sx) ∧ W.cell? ⟨wr.heap.size, 1, none⟩ = some (.int .i64 sy) )) := by intro W W' h hb; obtain ⟨hx, hz, hc⟩ := h; have hbc : ∀ b o, b < W.heap.size → W'.cell? ⟨b, o, none⟩ = W.cell? ⟨b, o, none⟩ := fun b o h => hb.cell (p := ⟨b, o, none⟩) h; have hzx := hx.size; refine ⟨hx.step hb, Nat.le_trans hz hb.size, ?_⟩; (try dsimp only at hc ⊢); simp (disch := omega) only [hbc]; exact hc
          go_wp2_with fail
          refine wp_region_G (fun W => Ext V3 W ∧ wr.heap.size + 1 ≤ W.heap.size ∧ (W.cell? ⟨w.heap.size, 0, none⟩ = some (.int .i64 cx) ∧ W.cell? ⟨w.heap.size, 1, none⟩ = some (.int .i64 cy) ∧ W.cell? ⟨w.heap.size, 2, none⟩ = some (.int .i64 r) ∧ W.cell? ⟨w.heap.size, 3, none⟩ = some (.int .i64 ux) ∧ W.cell? ⟨w.heap.size, 4, none⟩ = some (.int .i64 uy) ∧ W.cell? ⟨w.heap.size, 5, none⟩ = some (.int .i64 vx) ∧ W.cell? ⟨w.heap.size, 6, none⟩ = some (.int .i64 vy) ∧ W.cell? ⟨w.heap.size + 1, 0, none⟩ = some (.int .i64 ex) ∧ W.cell? ⟨w.heap.size + 1, 1, none⟩ = some (.int .i64 ey) ∧ W.cell? ⟨w.heap.size + 1, 2, none⟩ = some (.int .i64 q) ∧ W.cell? ⟨w.heap.size + 1, 3, none⟩ = some (.int .i64 sx) ∧ W.cell? ⟨w.heap.size + 1, 4, none⟩ = some (.int .i64 sy) ∧ W.cell? ⟨w.heap.size + 1, 5, none⟩ = some (.int .i64 tx) ∧ W.cell? ⟨w.heap.size + 1, 6, none⟩ = some (.int .i64 ty) ∧ W.cell? ⟨w1.heap.size, 0, none⟩ = some (.int .i64 dx) ∧ W.cell? ⟨w1.heap.size, 1, none⟩ = some (.int .i64 dy) ∧ W.cell? ⟨w1.heap.size + 1, 0, none⟩ = some (.int .i64 ny) ∧ W.cell? ⟨w1.heap.size + 1, 1, none⟩ = some (.int .i64 dx) ∧ W.cell? ⟨g12, 0, none⟩ = some (.bool n1) ∧ W.cell? ⟨g12, 1, none⟩ = some (.slice p1 l1 c1) ∧ W.cell? ⟨g13, 0, none⟩ = some (.bool n4) ∧ W.cell? ⟨g13, 1, none⟩ = some (.slice p4 l4 c4) ∧ W.cell? ⟨g14, 0, none⟩ = some (.bool n7) ∧ W.cell? ⟨g14, 1, none⟩ = some (.slice p7 l7 c7) ∧ W.cell? ⟨g15, 0, none⟩ = some (.bool n9) ∧ W.cell? ⟨g15, 1, none⟩ = some (.slice p9 l9 c9) ∧ W.cell? ⟨g16, 0, none⟩ = some (.bool n14) ∧ W.cell? ⟨g16, 1, none⟩ = some (.slice p14 l14 c14) ∧ W.cell? ⟨wr.heap.size, 0, none⟩ = some (.int .i64 sx) ∧ W.cell? ⟨wr.heap.size, 1, none⟩ = some (.int .i64 sy) )) (fun W => OwnS W V3.heap.size (some ⟨G, 0, none⟩) 2 cc [(eu, pu), (ev, pv)]) (by kernel_rfl) (by kernel_rfl) ?_ (hSM.and (fun _ _ h hb => h.ext hb)) ?_ ?_
          · refine ⟨⟨bxx, by simp, ?_⟩, (hO.ext bxx)⟩
            go_simp
          · intro W h
            have h2 : wr.heap.size + 1 ≤ W.heap.size := h.2.1
            simp
            omega
          repeat (first | refine F_s ?_ | refine F_r ?_)
          refine F_num wr (ofZ 2) (by rfl) (by rfl) (by intro W hW; (try dsimp only at hW); have hwW : wr.heap.size ≤ W.heap.size := (by have hzz := hW; (repeat (first | exact Nat.le_of_succ_le hzz.2.1 | exact Nat.le_of_succ_le hzz.1.2.1 | replace hzz := hzz.1))); go_simp; exact (meet_of 2 _ (by omega)).mono fun _ _ h => RetN.isN hwW h) ?_; intro n20 p20 l20 c20 hn20; refine F_put ?_
          repeat (first | refine F_s ?_ | refine F_r ?_)
          refine F_num wr (ofZ s2) (by rfl) (by rfl) (by intro W hW; (try dsimp only at hW); have hwW : wr.heap.size ≤ W.heap.size := (by have hzz := hW; (repeat (first | exact Nat.le_of_succ_le hzz.2.1 | exact Nat.le_of_succ_le hzz.1.2.1 | replace hzz := hzz.1))); go_simp; exact (meet_mul 2 S n20 n1 p20 p1 l20 c20 l1 c1 W (by have hzz := hW; (try dsimp only at hzz); (repeat (first | exact hzz.2 | exact hzz.1 | exact NR.ext (by assumption) hzz | exact NR.ext (by assumption) hzz.1 | replace hzz := hzz.1))) (by have hzz := hW; (try dsimp only at hzz); (repeat (first | exact hzz.2 | exact hzz.1 | exact NR.ext (by assumption) hzz | exact NR.ext (by assumption) hzz.1 | replace hzz := hzz.1))) (Wd.small (a := 1) (by unfold Wd; decide) (by omega)) (wS.out.small (by omega)) s2 Hs2.out (ws2.out.small (by omega))).mono fun _ _ h => RetN.isN hwW h) ?_; intro n24 p24 l24 c24 hn24; refine F_put ?_
          repeat (first | refine F_s ?_ | refine F_r ?_)
          refine F_num wr (ofZ k2) (by rfl) (by rfl) (by intro W hW; (try dsimp only at hW); have hwW : wr.heap.size ≤ W.heap.size := (by have hzz := hW; (repeat (first | exact Nat.le_of_succ_le hzz.2.1 | exact Nat.le_of_succ_le hzz.1.2.1 | replace hzz := hzz.1))); go_simp; exact (meet_sub k s2 n9 n24 p9 p24 l9 c9 l24 c24 W (by have hzz := hW; (try dsimp only at hzz); (repeat (first | exact hzz.2 | exact hzz.1 | exact NR.ext (by assumption) hzz | exact NR.ext (by assumption) hzz.1 | replace hzz := hzz.1))) (by have hzz := hW; (try dsimp only at hzz); (repeat (first | exact hzz.2 | exact hzz.1 | exact NR.ext (by assumption) hzz | exact NR.ext (by assumption) hzz.1 | replace hzz := hzz.1))) (wk.out.small (by omega)) (ws2.out.small (by omega)) k2 Hk2.out (wk2.out.small (by omega))).mono fun _ _ h => RetN.isN hwW h) ?_; intro n25 p25 l25 c25 hn25; refine F_put ?_
          repeat (first | refine F_s ?_ | refine F_r ?_)
          (refine F_call (v := .int .i64 ds) (by rfl) (by rfl) ?_ ?_; (· (intro W hW; (try dsimp only at hW); go_simp; refine (Cds.out _).mono ?_; rintro e w' ⟨rfl, hx⟩; exact ⟨_, rfl, rfl, hx⟩))); refine F_put ?_
          repeat (first | refine F_s ?_ | refine F_r ?_)
          refine F_num wr (ofZ ds) (by rfl) (by rfl) (by intro W hW; (try dsimp only at hW); have hwW : wr.heap.size ≤ W.heap.size := (by have hzz := hW; (repeat (first | exact Nat.le_of_succ_le hzz.2.1 | exact Nat.le_of_succ_le hzz.1.2.1 | replace hzz := hzz.1))); go_simp; exact (meet_of ds _ ids.out).mono fun _ _ h => RetN.isN hwW h) ?_; intro n21 p21 l21 c21 hn21; refine F_put ?_
          repeat (first | refine F_s ?_ | refine F_r ?_)
          refine F_num wr (ofZ es) (by rfl) (by rfl) (by intro W hW; (try dsimp only at hW); have hwW : wr.heap.size ≤ W.heap.size := (by have hzz := hW; (repeat (first | exact Nat.le_of_succ_le hzz.2.1 | exact Nat.le_of_succ_le hzz.1.2.1 | replace hzz := hzz.1))); go_simp; exact (meet_mul k2 ds n25 n21 p25 p21 l25 c25 l21 c21 W (by have hzz := hW; (try dsimp only at hzz); (repeat (first | exact hzz.2 | exact hzz.1 | exact NR.ext (by assumption) hzz | exact NR.ext (by assumption) hzz.1 | replace hzz := hzz.1))) (by have hzz := hW; (try dsimp only at hzz); (repeat (first | exact hzz.2 | exact hzz.1 | exact NR.ext (by assumption) hzz | exact NR.ext (by assumption) hzz.1 | replace hzz := hzz.1))) (wk2.out.small (by omega)) (wds.out.small (by omega)) es Hes.out (wes.out.small (by omega))).mono fun _ _ h => RetN.isN hwW h) ?_; intro n22 p22 l22 c22 hn22; refine F_put ?_
          repeat (first | refine F_s ?_ | refine F_r ?_)
          (refine F_call (v := .int .i64 ps) (by rfl) (by rfl) ?_ ?_; (· (intro W hW; (try dsimp only at hW); go_simp; refine (Cps.out _).mono ?_; rintro e w' ⟨rfl, hx⟩; exact ⟨_, rfl, rfl, hx⟩))); refine F_put ?_
          repeat (first | refine F_s ?_ | refine F_r ?_)
          refine F_num wr (ofZ ps) (by rfl) (by rfl) (by intro W hW; (try dsimp only at hW); have hwW : wr.heap.size ≤ W.heap.size := (by have hzz := hW; (repeat (first | exact Nat.le_of_succ_le hzz.2.1 | exact Nat.le_of_succ_le hzz.1.2.1 | replace hzz := hzz.1))); go_simp; exact (meet_of ps _ ips.out).mono fun _ _ h => RetN.isN hwW h) ?_; intro n23 p23 l23 c23 hn23; refine F_put ?_
          repeat (first | refine F_s ?_ | refine F_r ?_)
          refine F_buildS1 _ (by rfl) (by rfl) (by rfl) n22 n23 p22 p23 l22 c22 l23 c23 (by rfl) ?_
          intro gb _
          refine F_put ?_
          refine F_appendS _ _ (fun W => Ext V3 W ∧ wr.heap.size + 1 ≤ W.heap.size ∧ (W.cell? ⟨w.heap.size, 0, none⟩ = some (.int .i64 cx) ∧ W.cell? ⟨w.heap.size, 1, none⟩ = some (.int .i64 cy) ∧ W.cell? ⟨w.heap.size, 2, none⟩ = some (.int .i64 r) ∧ W.cell? ⟨w.heap.size, 3, none⟩ = some (.int .i64 ux) ∧ W.cell? ⟨w.heap.size, 4, none⟩ = some (.int .i64 uy) ∧ W.cell? ⟨w.heap.size, 5, none⟩ = some (.int .i64 vx) ∧ W.cell? ⟨w.heap.size, 6, none⟩ = some (.int .i64 vy) ∧ W.cell? ⟨w.heap.size + 1, 0, none⟩ = some (.int .i64 ex) ∧ W.cell? ⟨w.heap.size + 1, 1, none⟩ = some (.int .i64 ey) ∧ W.cell? ⟨w.heap.size + 1, 2, none⟩ = some (.int .i64 q) ∧ W.cell? ⟨w.heap.size + 1, 3, none⟩ = some (.int .i64 sx) ∧ W.cell? ⟨w.heap.size + 1, 4, none⟩ = some (.int .i64 sy) ∧ W.cell? ⟨w.heap.size + 1, 5, none⟩ = some (.int .i64 tx) ∧ W.cell? ⟨w.heap.size + 1, 6, none⟩ = some (.int .i64 ty) ∧ W.cell? ⟨w1.heap.size, 0, none⟩ = some (.int .i64 dx) ∧ W.cell? ⟨w1.heap.size, 1, none⟩ = some (.int .i64 dy) ∧ W.cell? ⟨w1.heap.size + 1, 0, none⟩ = some (.int .i64 ny) ∧ W.cell? ⟨w1.heap.size + 1, 1, none⟩ = some (.int .i64 dx) ∧ W.cell? ⟨g12, 0, none⟩ = some (.bool n1) ∧ W.cell? ⟨g12, 1, none⟩ = some (.slice p1 l1 c1) ∧ W.cell? ⟨g13, 0, none⟩ = some (.bool n4) ∧ W.cell? ⟨g13, 1, none⟩ = some (.slice p4 l4 c4) ∧ W.cell? ⟨g14, 0, none⟩ = some (.bool n7) ∧ W.cell? ⟨g14, 1, none⟩ = some (.slice p7 l7 c7) ∧ W.cell? ⟨g15, 0, none⟩ = some (.bool n9) ∧ W.cell? ⟨g15, 1, none⟩ = some (.slice p9 l9 c9) ∧ W.cell? ⟨g16, 0, none⟩ = some (.bool n14) ∧ W.cell? ⟨g16, 1, none⟩ = some (.slice p14 l14 c14) ∧ W.cell? ⟨wr.heap.size, 0, none⟩ = some (.int .i64 sx) ∧ W.cell? ⟨wr.heap.size, 1, none⟩ = some (.int .i64 sy) )) V3.heap.size (some ⟨G, 0, none⟩) 2 cc [(eu, pu), (ev, pv)] gb n22 n23 p22 p23 l22 c22 l23 c23 es ps (by rfl) (by rfl) (by rfl) (by rfl) (by rfl) (by omega) (fun W hW => ⟨hW.1.1.1.1.1.1.1.1, hW.1.1.1.1.1.1.1.2, hW.2, hW.1.1.2.behind hn22 hG.2, hW.1.2.behind hn23 hG.2, hW.1.1.1.1.1.1.1.1.1.size⟩) ?_ hSM (fun _ h => h) ?_
          · intro W W' h hO' hg
            obtain ⟨hx, hz, hc⟩ := h
            have hzx := hx.size
            have hbc : ∀ b o, b < W.heap.size → b ≠ G → W'.cell? ⟨b, o, none⟩ = W.cell? ⟨b, o, none⟩ := fun b o h1 h2 => World.cell?_of_block (hg.block b h1 (by show some b ≠ some G; simpa using h2))
            refine ⟨ext_grown hx hg (fun g h => (hO'.lt g h).1), Nat.le_trans hz hg.size, ?_⟩
            (try dsimp only at hc ⊢)
            simp (disch := omega) only [hbc]
            exact hc
          intro g' c'
          refine F_put ?_
          repeat (first | refine F_s ?_ | refine F_r ?_)
          rintro W6 ⟨⟨⟨hx6, hz6, hc6⟩, hO6⟩, _⟩
          go_wp2
          exact ⟨⟨hx6, .inr (.inl ⟨g', c', rfl, rfl, hO6⟩)⟩, by simp [intOf]⟩
        · have hG := hO.lt G rfl
          have hSM : FMono (fun W => Ext V3 W ∧ wr.heap.size + 1 ≤ W.heap.size ∧ (W.cell? ⟨w.heap.size, 0, none⟩ = some (.int .i64 cx) ∧ W.cell? ⟨w.heap.size, 1, none⟩ = some (.int .i64 cy) ∧ W.cell? ⟨w.heap.size, 2, none⟩ = some (.int .i64 r) ∧ W.cell? ⟨w.heap.size, 3, none⟩ = some (.int .i64 ux) ∧ W.cell? ⟨w.heap.size, 4, none⟩ = some (.int .i64 uy) ∧ W.cell? ⟨w.heap.size, 5, none⟩ = some (.int .i64 vx) ∧ W.cell? ⟨w.heap.size, 6, none⟩ = some (.int .i64 vy) ∧ W.cell? ⟨w.heap.size + 1, 0, none⟩ = some (.int .i64 ex) ∧ W.cell? ⟨w.heap.size + 1, 1, none⟩ = some (.int .i64 ey) ∧ W.cell? ⟨w.heap.size + 1, 2, none⟩ = some (.int .i64 q) ∧ W.cell? ⟨w.heap.size + 1, 3, none⟩ = some (.int .i64 sx) ∧ W.cell? ⟨w.heap.size + 1, 4, none⟩ = some (.int .i64 sy) ∧ W.cell? ⟨w.heap.size + 1, 5, none⟩ = some (.int .i64 tx) ∧ W.cell? ⟨w.heap.size + 1, 6, none⟩ = some (.int .i64 ty) ∧ W.cell? ⟨w1.heap.size, 0, none⟩ = some (.int .i64 dx) ∧ W.cell? ⟨w1.heap.size, 1, none⟩ = some (.int .i64 dy) ∧ W.cell? ⟨w1.heap.size + 1, 0, none⟩ = some (.int .i64 ny) ∧ W.cell? ⟨w1.heap.size + 1, 1, none⟩ = some (.int .i64 dx) ∧ W.cell? ⟨g12, 0, none⟩ = some (.bool n1) ∧ W.cell? ⟨g12, 1, none⟩ = some (.slice p1 l1 c1) ∧ W.cell? ⟨g13, 0, none⟩ = some (.bool n4) ∧ W.cell? ⟨g13, 1, none⟩ = some (.slice p4 l4 c4) ∧ W.cell? ⟨g14, 0, none⟩ = some (.bool n7) ∧ W.cell? ⟨g14, 1, none⟩ = some (.slice p7 l7 c7) ∧ W.cell? ⟨g15, 0, none⟩ = some (.bool n9) ∧ W.cell? ⟨g15, 1, none⟩ = some (.slice p9 l9 c9) ∧ W.cell? ⟨g16, 0, none⟩ = some (.bool n14) ∧ W.cell? ⟨g16, 1, none⟩ = some (.slice p14 l14 c14) ∧ W.cell? ⟨wr.heap.size, 0, none⟩ = some (.int .i64 tx) ∧ W.cell? ⟨wr.heap.size, 1, none⟩ = some (.int .i64 ty) )) := by intro W W' h hb; obtain ⟨hx, hz, hc⟩ := h; have hbc : ∀ b o, b < W.heap.size → W'.cell? ⟨b, o, none⟩ = W.cell? ⟨b, o, none⟩ := fun b o h => hb.cell (p := ⟨b, o, none⟩) h; have hzx := hx.size; refine ⟨hx.step hb, Nat.le_trans hz hb.size, ?_⟩; (try dsimp only at hc ⊢); simp (disch := omega) only [hbc]; exact hc
          go_wp2_with fail
          refine wp_region_G (fun W => Ext V3 W ∧ wr.heap.size + 1 ≤ W.heap.size ∧ (W.cell? ⟨w.heap.size, 0, none⟩ = some (.int .i64 cx) ∧ W.cell? ⟨w.heap.size, 1, none⟩ = some (.int .i64 cy) ∧ W.cell? ⟨w.heap.size, 2, none⟩ = some (.int .i64 r) ∧ W.cell? ⟨w.heap.size, 3, none⟩ = some (.int .i64 ux) ∧ W.cell? ⟨w.heap.size, 4, none⟩ = some (.int .i64 uy) ∧ W.cell? ⟨w.heap.size, 5, none⟩ = some (.int .i64 vx) ∧ W.cell? ⟨w.heap.size, 6, none⟩ = some (.int .i64 vy) ∧ W.cell? ⟨w.heap.size + 1, 0, none⟩ = some (.int .i64 ex) ∧ W.cell? ⟨w.heap.size + 1, 1, none⟩ = some (.int .i64 ey) ∧ W.cell? ⟨w.heap.size + 1, 2, none⟩ = some (.int .i64 q) ∧ W.cell? ⟨w.heap.size + 1, 3, none⟩ = some (.int .i64 sx) ∧ W.cell? ⟨w.heap.size + 1, 4, none⟩ = some (.int .i64 sy) ∧ W.cell? ⟨w.heap.size + 1, 5, none⟩ = some (.int .i64 tx) ∧ W.cell? ⟨w.heap.size + 1, 6, none⟩ = some (.int .i64 ty) ∧ W.cell? ⟨w1.heap.size, 0, none⟩ = some (.int .i64 dx) ∧ W.cell? ⟨w1.heap.size, 1, none⟩ = some (.int .i64 dy) ∧ W.cell? ⟨w1.heap.size + 1, 0, none⟩ = some (.int .i64 ny) ∧ W.cell? ⟨w1.heap.size + 1, 1, none⟩ = some (.int .i64 dx) ∧ W.cell? ⟨g12, 0, none⟩ = some (.bool n1) ∧ W.cell? ⟨g12, 1, none⟩ = some (.slice p1 l1 c1) ∧ W.cell? ⟨g13, 0, none⟩ = some (.bool n4) ∧ W.cell? ⟨g13, 1, none⟩ = some (.slice p4 l4 c4) ∧ W.cell? ⟨g14, 0, none⟩ = some (.bool n7) ∧ W.cell? ⟨g14, 1, none⟩ = some (.slice p7 l7 c7) ∧ W.cell? ⟨g15, 0, none⟩ = some (.bool n9) ∧ W.cell? ⟨g15, 1, none⟩ = some (.slice p9 l9 c9) ∧ W.cell? ⟨g16, 0, none⟩ = some (.bool n14) ∧ W.cell? ⟨g16, 1, none⟩ = some (.slice p14 l14 c14) ∧ W.cell? ⟨wr.heap.size, 0, none⟩ = some (.int .i64 tx) ∧ W.cell? ⟨wr.heap.size, 1, none⟩ = some (.int .i64 ty) )) (fun W => OwnS W V3.heap.size (some ⟨G, 0, none⟩) 3 cc [(eu, pu), (ev, pv), (es, ps)]) (by kernel_rfl) (by kernel_rfl) ?_ (hSM.and (fun _ _ h hb => h.ext hb)) ?_ ?_
          · refine ⟨⟨bxx, by simp, ?_⟩, (hO.ext bxx)⟩
            go_simp
          · intro W h
            have h2 : wr.heap.size + 1 ≤ W.heap.size := h.2.1
            simp
            omega
          repeat (first | refine F_s ?_ | refine F_r ?_)
          refine F_num wr (ofZ 2) (by rfl) (by rfl) (by intro W hW; (try dsimp only at hW); have hwW : wr.heap.size ≤ W.heap.size := (by have hzz := hW; (repeat (first | exact Nat.le_of_succ_le hzz.2.1 | exact Nat.le_of_succ_le hzz.1.2.1 | replace hzz := hzz.1))); go_simp; exact (meet_of 2 _ (by omega)).mono fun _ _ h => RetN.isN hwW h) ?_; intro n20 p20 l20 c20 hn20; refine F_put ?_
          repeat (first | refine F_s ?_ | refine F_r ?_)
          refine F_num wr (ofZ s2) (by rfl) (by rfl) (by intro W hW; (try dsimp only at hW); have hwW : wr.heap.size ≤ W.heap.size := (by have hzz := hW; (repeat (first | exact Nat.le_of_succ_le hzz.2.1 | exact Nat.le_of_succ_le hzz.1.2.1 | replace hzz := hzz.1))); go_simp; exact (meet_mul 2 S n20 n1 p20 p1 l20 c20 l1 c1 W (by have hzz := hW; (try dsimp only at hzz); (repeat (first | exact hzz.2 | exact hzz.1 | exact NR.ext (by assumption) hzz | exact NR.ext (by assumption) hzz.1 | replace hzz := hzz.1))) (by have hzz := hW; (try dsimp only at hzz); (repeat (first | exact hzz.2 | exact hzz.1 | exact NR.ext (by assumption) hzz | exact NR.ext (by assumption) hzz.1 | replace hzz := hzz.1))) (Wd.small (a := 1) (by unfold Wd; decide) (by omega)) (wS.out.small (by omega)) s2 Hs2.out (ws2.out.small (by omega))).mono fun _ _ h => RetN.isN hwW h) ?_; intro n24 p24 l24 c24 hn24; refine F_put ?_
          repeat (first | refine F_s ?_ | refine F_r ?_)
          refine F_num wr (ofZ k2) (by rfl) (by rfl) (by intro W hW; (try dsimp only at hW); have hwW : wr.heap.size ≤ W.heap.size := (by have hzz := hW; (repeat (first | exact Nat.le_of_succ_le hzz.2.1 | exact Nat.le_of_succ_le hzz.1.2.1 | replace hzz := hzz.1))); go_simp; exact (meet_sub k s2 n9 n24 p9 p24 l9 c9 l24 c24 W (by have hzz := hW; (try dsimp only at hzz); (repeat (first | exact hzz.2 | exact hzz.1 | exact NR.ext (by assumption) hzz | exact NR.ext (by assumption) hzz.1 | replace hzz := hzz.1))) (by have hzz := hW; (try dsimp only at hzz); (repeat (first | exact hzz.2 | exact hzz.1 | exact NR.ext (by assumption) hzz | exact NR.ext (by assumption) hzz.1 | replace hzz := hzz.1))) (wk.out.small (by omega)) (ws2.out.small (by omega)) k2 Hk2.out (wk2.out.small (by omega))).mono fun _ _ h => RetN.isN hwW h) ?_; intro n25 p25 l25 c25 hn25; refine F_put ?_
          repeat (first | refine F_s ?_ | refine F_r ?_)
          (refine F_call (v := .int .i64 dt) (by rfl) (by rfl) ?_ ?_; (· (intro W hW; (try dsimp only at hW); go_simp; refine (Cdt.out _).mono ?_; rintro e w' ⟨rfl, hx⟩; exact ⟨_, rfl, rfl, hx⟩))); refine F_put ?_
          repeat (first | refine F_s ?_ | refine F_r ?_)
          refine F_num wr (ofZ dt) (by rfl) (by rfl) (by intro W hW; (try dsimp only at hW); have hwW : wr.heap.size ≤ W.heap.size := (by have hzz := hW; (repeat (first | exact Nat.le_of_succ_le hzz.2.1 | exact Nat.le_of_succ_le hzz.1.2.1 | replace hzz := hzz.1))); go_simp; exact (meet_of dt _ idt.out).mono fun _ _ h => RetN.isN hwW h) ?_; intro n21 p21 l21 c21 hn21; refine F_put ?_
          repeat (first | refine F_s ?_ | refine F_r ?_)
          refine F_num wr (ofZ et) (by rfl) (by rfl) (by intro W hW; (try dsimp only at hW); have hwW : wr.heap.size ≤ W.heap.size := (by have hzz := hW; (repeat (first | exact Nat.le_of_succ_le hzz.2.1 | exact Nat.le_of_succ_le hzz.1.2.1 | replace hzz := hzz.1))); go_simp; exact (meet_mul k2 dt n25 n21 p25 p21 l25 c25 l21 c21 W (by have hzz := hW; (try dsimp only at hzz); (repeat (first | exact hzz.2 | exact hzz.1 | exact NR.ext (by assumption) hzz | exact NR.ext (by assumption) hzz.1 | replace hzz := hzz.1))) (by have hzz := hW; (try dsimp only at hzz); (repeat (first | exact hzz.2 | exact hzz.1 | exact NR.ext (by assumption) hzz | exact NR.ext (by assumption) hzz.1 | replace hzz := hzz.1))) (wk2.out.small (by omega)) (wdt.out.small (by omega)) et Het.out (wet.out.small (by omega))).mono fun _ _ h => RetN.isN hwW h) ?_; intro n22 p22 l22 c22 hn22; refine F_put ?_
          repeat (first | refine F_s ?_ | refine F_r ?_)
          (refine F_call (v := .int .i64 pt) (by rfl) (by rfl) ?_ ?_; (· (intro W hW; (try dsimp only at hW); go_simp; refine (Cpt.out _).mono ?_; rintro e w' ⟨rfl, hx⟩; exact ⟨_, rfl, rfl, hx⟩))); refine F_put ?_
          repeat (first | refine F_s ?_ | refine F_r ?_)
          refine F_num wr (ofZ pt) (by rfl) (by rfl) (by intro W hW; (try dsimp only at hW); have hwW : wr.heap.size ≤ W.heap.size := (by have hzz := hW; (repeat (first | exact Nat.le_of_succ_le hzz.2.1 | exact Nat.le_of_succ_le hzz.1.2.1 | replace hzz := hzz.1))); go_simp; exact (meet_of pt _ ipt.out).mono fun _ _ h => RetN.isN hwW h) ?_; intro n23 p23 l23 c23 hn23; refine F_put ?_
          repeat (first | refine F_s ?_ | refine F_r ?_)
          refine F_buildS1 _ (by rfl) (by rfl) (by rfl) n22 n23 p22 p23 l22 c22 l23 c23 (by rfl) ?_
          intro gb _
          refine F_put ?_
          refine F_appendS _ _ (fun W => Ext V3 W ∧ wr.heap.size + 1 ≤ W.heap.size ∧ (W.cell? ⟨w.heap.size, 0, none⟩ = some (.int .i64 cx) ∧ W.cell? ⟨w.heap.size, 1, none⟩ = some (.int .i64 cy) ∧ W.cell? ⟨w.heap.size, 2, none⟩ = some (.int .i64 r) ∧ W.cell? ⟨w.heap.size, 3, none⟩ = some (.int .i64 ux) ∧ W.cell? ⟨w.heap.size, 4, none⟩ = some (.int .i64 uy) ∧ W.cell? ⟨w.heap.size, 5, none⟩ = some (.int .i64 vx) ∧ W.cell? ⟨w.heap.size, 6, none⟩ = some (.int .i64 vy) ∧ W.cell? ⟨w.heap.size + 1, 0, none⟩ = some (.int .i64 ex) ∧ W.cell? ⟨w.heap.size + 1, 1, none⟩ = some (.int .i64 ey) ∧ W.cell? ⟨w.heap.size + 1, 2, none⟩ = some (.int .i64 q) ∧ W.cell? ⟨w.heap.size + 1, 3, none⟩ = some (.int .i64 sx) ∧ W.cell? ⟨w.heap.size + 1, 4, none⟩ = some (.int .i64 sy) ∧ W.cell? ⟨w.heap.size + 1, 5, none⟩ = some (.int .i64 tx) ∧ W.cell? ⟨w.heap.size + 1, 6, none⟩ = some (.int .i64 ty) ∧ W.cell? ⟨w1.heap.size, 0, none⟩ = some (.int .i64 dx) ∧ W.cell? ⟨w1.heap.size, 1, none⟩ = some (.int .i64 dy) ∧ W.cell? ⟨w1.heap.size + 1, 0, none⟩ = some (.int .i64 ny) ∧ W.cell? ⟨w1.heap.size + 1, 1, none⟩ = some (.int .i64 dx) ∧ W.cell? ⟨g12, 0, none⟩ = some (.bool n1) ∧ W.cell? ⟨g12, 1, none⟩ = some (.slice p1 l1 c1) ∧ W.cell? ⟨g13, 0, none⟩ = some (.bool n4) ∧ W.cell? ⟨g13, 1, none⟩ = some (.slice p4 l4 c4) ∧ W.cell? ⟨g14, 0, none⟩ = some (.bool n7) ∧ W.cell? ⟨g14, 1, none⟩ = some (.slice p7 l7 c7) ∧ W.cell? ⟨g15, 0, none⟩ = some (.bool n9) ∧ W.cell? ⟨g15, 1, none⟩ = some (.slice p9 l9 c9) ∧ W.cell? ⟨g16, 0, none⟩ = some (.bool n14) ∧ W.cell? ⟨g16, 1, none⟩ = some (.slice p14 l14 c14) ∧ W.cell? ⟨wr.heap.size, 0, none⟩ = some (.int .i64 tx) ∧ W.cell? ⟨wr.heap.size, 1, none⟩ = some (.int .i64 ty) )) V3.heap.size (some ⟨G, 0, none⟩) 3 cc [(eu, pu), (ev, pv), (es, ps)] gb n22 n23 p22 p23 l22 c22 l23 c23 et pt (by rfl) (by rfl) (by rfl) (by rfl) (by rfl) (by omega) (fun W hW => ⟨hW.1.1.1.1.1.1.1.1, hW.1.1.1.1.1.1.1.2, hW.2, hW.1.1.2.behind hn22 hG.2, hW.1.2.behind hn23 hG.2, hW.1.1.1.1.1.1.1.1.1.size⟩) ?_ hSM (fun _ h => h) ?_
          · intro W W' h hO' hg
            obtain ⟨hx, hz, hc⟩ := h
            have hzx := hx.size
            have hbc : ∀ b o, b < W.heap.size → b ≠ G → W'.cell? ⟨b, o, none⟩ = W.cell? ⟨b, o, none⟩ := fun b o h1 h2 => World.cell?_of_block (hg.block b h1 (by show some b ≠ some G; simpa using h2))
            refine ⟨ext_grown hx hg (fun g h => (hO'.lt g h).1), Nat.le_trans hz hg.size, ?_⟩
            (try dsimp only at hc ⊢)
            simp (disch := omega) only [hbc]
            exact hc
          intro g' c'
          refine F_put ?_
          repeat (first | refine F_s ?_ | refine F_r ?_)
          rintro W6 ⟨⟨⟨hx6, hz6, hc6⟩, hO6⟩, _⟩
          go_wp2
          exact ⟨⟨hx6, .inr (.inr ⟨g', c', rfl, rfl, hO6⟩)⟩, by simp [intOf]⟩
        · obtain ⟨G', hG', hSR⟩ := hO.sr (by simp)
          cases hG'
          go_wp2_with fail
          refine (meet_count dl [(eu, pu), (ev, pv), (es, ps), (et, pt)] n14 p14 l14 c14 G cc _ ((nD.ext hx5r).ext bxx) (hSR.ext bxx) (wdl.out.gd (by omega)) (fun i x y hi => ?_) (by simp)).mono ?_
          · rcases i with _ | _ | _ | _ | i <;> simp at hi
            · obtain ⟨rfl, rfl⟩ := hi; exact ⟨weu.out.gd (by omega), wpu.out.gd (by omega)⟩
            · obtain ⟨rfl, rfl⟩ := hi; exact ⟨wev.out.gd (by omega), wpv.out.gd (by omega)⟩
            · obtain ⟨rfl, rfl⟩ := hi; exact ⟨wes.out.gd (by omega), wps.out.gd (by omega)⟩
            · obtain ⟨rfl, rfl⟩ := hi; exact ⟨wet.out.gd (by omega), wpt.out.gd (by omega)⟩
          rintro e w2 ⟨rfl, hxe⟩
          have hxz : Ext w w2 := Ext.step (Ext.step hxC hx5r) (Ext.step bxx hxe)
          go_wp2
          go_ret
          exact ⟨ret_int RES.out.symm, hxz⟩
end Go.Proofs.YtmmhiiiaccldmaaGreat
