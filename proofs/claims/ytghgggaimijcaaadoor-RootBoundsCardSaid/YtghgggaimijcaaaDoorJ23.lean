/- XRegion's rule in the body of a range over a function (a round's frame, at the wide fence). | Contracts: num.down (the iterator), num.Int. | Plain: a number added to a root; the text of an int. | Contracts: etchantref01.Same, and the law's is. | Contracts: root.Right, etchantref02.Same, etchantref02.Right. -/
import Derived.Test.YtghgggaimijcaaaDoorJ03
import Derived.Test.YtghgggaimijcaaaDoorJ10
import Derived.Test.YtghgggaimijcaaaDoorJ21
import Derived.Test.YtghgggaimijcaaaDoorJ22
import Derived.Test.YtghgggaimijcaaaDoorJ20
import Derived.OrdersIn
import Derived.RangeFuncNested
import Derived.RangeFuncBound
import Derived.RangeFuncCalls
import Derived.RangeFuncLeaves
import Derived.OwnWalkIn
import Derived.TacticsInMore
import Derived.LoopNIn
import Derived.LoopIn
import Derived.Shelf.Abstract
import Derived.Shelf.RegionOpen
set_option linter.unusedVariables false
set_option linter.unusedSimpArgs false

namespace Go.Proofs.YtghgggaimijcaaaDoor
open Go.RowKit

def noDeferB (ops : Array Oper) : Bool := ops.toList.all fun o => match o.op with | .defer _ => false | _ => true
section
variable {P : Program} {ops : Array Oper} {S : World → Prop}
theorem noDefer_spec (h : noDeferB ops = true) {i : Nat} {o : Oper} (ho : ops[i]? = some o) : ∀ c, o.op ≠ .defer c := by
  intro c e
  have hm : o ∈ ops.toList := by
    obtain ⟨hlt, rfl⟩ := Array.getElem?_eq_some_iff.1 ho
    simp
  have := List.all_eq_true.1 h o hm
  simp [e] at this
theorem Gives.wpIn {o : Oper} {a : Act} {w : World} {R : Value → World → Prop} {K : Act → World → Prop} {Q : Exit → Act → World → Prop} {r m : Nat}
    (h : Gives P o a w R) (hnd : ∀ c, o.op ≠ .defer c) (hk : ∀ v w', R v w' → K (a.put o.dst v) w') : o.wpIn (Fence.wide.inRound r) m P a w K Q := by
  refine ⟨fun _ _ => trivial, ?_⟩
  rw [Oper.semAt_eq _ _ _ hnd]
  unfold Gives at h
  generalize (execOp a.eval o).run P w = x at *
  cases x with
  | ok n w' =>
    cases n <;> simp only [givesU] at h <;> simp only [Oper.uponIn]
    case value u => exact hk _ _ h
    case skip => exact hk _ _ h
    case enter f args =>
      refine ⟨fun hd => by simp [Fence.wide] at hd, ?_⟩
      exact (CallsIn.inRound r (callsIn_wide.2 h)).mono fun e w'' ⟨v, he, hr⟩ => by subst he; exact hk _ _ hr
  | halt x w' => simp only [givesU] at h
theorem wpAnyIn_of_F {Q : Exit → Act → World → Prop} {r m : Nat} (hB : floatB ops = true) (hD : noDeferB ops = true) : ∀ (n : Nat) (zs : List (Nat × Oper)) (listed : Array Bool) (a : Act) (own : List Nat) (F : World → Prop) (w : World), zs.length = n → LeftF ops listed zs → Closed ops listed →
    InvF S own F → F w → WpF P ops S (fun a w => Q .normal a w) (zs.map (·.2)) a own F → wpAnyIn (Fence.wide.inRound r) m P .any ops Q n listed a w := by
  have hB' := hB
  simp only [floatB, Bool.and_eq_true, List.all_eq_true, List.mem_range, decide_eq_true_eq] at hB'
  obtain ⟨hsel, hall⟩ := hB'
  intro n
  induction n with
  | zero =>
    intro zs listed a own F w hn hl hc hi hw h
    have : zs = [] := List.eq_nil_of_length_eq_zero hn
    subst this
    refine ⟨?_, h w hw⟩
    rw [List.eq_nil_iff_forall_not_mem]
    intro i hr
    have h1 := mem_ready.1 hr
    obtain ⟨hu, o, ho, _⟩ := h1
    have := (hl.mem i (Array.getElem?_eq_some_iff.1 ho).1).1 hu
    simp at this
  | succ n ih =>
    intro zs listed a own F w hn hl hc hi hw h
    have hget (i : Nat) (hlt : i < ops.size) (hu : ¬ listed.getD i true = false) : listed.getD i false = true := by
      have hlt' : i < listed.size := by rw [hl.size]; exact hlt
      simp [hlt'] at hu ⊢
      exact hu
    refine ⟨fun h0 => ?_, fun i hr => ?_⟩
    · exfalso
      obtain ⟨⟨i, o⟩, rest, rfl⟩ : ∃ z rest, zs = z :: rest := by
        cases zs with
        | nil => simp at hn
        | cons z rest => exact ⟨z, rest, rfl⟩
      have ho := hl.here (i, o) (by simp)
      have hlt : i < ops.size := (Array.getElem?_eq_some_iff.1 ho).1
      have hr : i ∈ Region.ready .any ops listed := by
        refine mem_ready.2 ⟨(hl.mem i hlt).2 (by simp), o, ho, fun e he hb => ?_⟩
        have hd : e.on ∈ depsOf ops i := (mem_depsOf ho).2 ⟨e, he, hb, rfl⟩
        have hei := (hall i hlt).1 _ hd
        refine hget _ (by omega) fun hu => ?_
        have hm := (hl.mem e.on (by omega)).1 hu
        simp only [List.map_cons, List.mem_cons] at hm
        rcases hm with hm | hm
        · omega
        · obtain ⟨p, hp, he'⟩ := List.mem_map.1 hm
          have := (List.pairwise_cons.1 hl.sorted).1 p hp
          simp at this
          omega
      rw [h0] at hr
      cases hr
    · obtain ⟨hu, o, ho, _⟩ := mem_ready.1 hr
      have hlt : i < ops.size := (Array.getElem?_eq_some_iff.1 ho).1
      have hm := (hl.mem i hlt).1 hu
      obtain ⟨⟨i', o'⟩, hp, hei⟩ := List.mem_map.1 hm
      simp only at hei
      subst hei
      have ho' := hl.here _ hp
      simp only at ho'
      rw [ho] at ho'
      simp only [Option.some.injEq] at ho'
      subst ho'
      obtain ⟨pre, post, rfl⟩ := List.append_of_mem hp
      have hpre : ∀ k ∈ pre.map (·.2), Apart ops k o ∧ Before k o := by
        intro k hk
        obtain ⟨⟨j, k'⟩, hj, rfl⟩ := List.mem_map.1 hk
        have hji : j < i' := ((List.pairwise_append.1 hl.sorted).2.2) _ hj (i', o) (List.mem_cons_self ..)
        have hjk := hl.here (j, k') (by simp [hj])
        simp only at hjk
        have hju : listed.getD j true = false := (hl.mem j (by omega)).2 (by simp only [List.map_append, List.mem_append, List.mem_map]; exact .inl ⟨_, hj, rfl⟩)
        have hno (f : Nat) : reach ops f i' j = false := by
          cases hx : reach ops f i' j with
          | false => rfl
          | true =>
            have h1 := reach_listed hc f i' j (ready_deps hr) hx
            have hlt' : j < listed.size := by rw [hl.size]; omega
            simp [hlt'] at h1 hju
            rw [h1] at hju
            cases hju
        have hpair := (hall i' hlt).2 j hji
        simp only [pairB, ho, hjk, hno, Bool.or_false, Bool.false_or, Bool.and_eq_true] at hpair
        obtain ⟨hbe, hap⟩ := hpair
        obtain ⟨a1, a2, a3⟩ := Oper.apart_spec hap
        refine ⟨⟨a1, a3, a2, fun cs b => Region.noSelect_spec hsel j k' cs b hjk, fun cs b => Region.noSelect_spec hsel i' o cs b ho⟩, ?_⟩
        simp only [beforeB, Bool.or_eq_true, beq_iff_eq, Bool.and_eq_true, bne_iff_ne] at hbe
        rcases hbe with (hbe | hbe) | hbe
        · exact .inl hbe
        · exact .inr (.inl hbe)
        · exact .inr (.inr hbe)
      have hst := pull (post := post.map (·.2)) hpre hi (by simpa using h)
      have hlen : (pre ++ post).length = n := by simp at hn ⊢; omega
      have next {a' : Act} {own' : List Nat} {F' : World → Prop} {w' : World} (hi' : InvF S own' F') (hw' : F' w') (h' : WpF P ops S (fun a w => Q .normal a w) (pre.map (·.2) ++ post.map (·.2)) a' own' F') : wpAnyIn (Fence.wide.inRound r) m P .any ops Q n (listed.setIfInBounds i' true) a' w' :=
        ih (pre ++ post) _ a' own' F' w' hlen hl.take (hc.set hr) hi' hw' (by simpa using h')
      have hnd : ∀ c, o.op ≠ .defer c := noDefer_spec hD ho
      cases hst with
      | pure v hy h =>
        unfold wpOpIn
        simp only [ho]
        rcases hy with ⟨hwant, hv⟩ | ⟨hwant, rfl⟩
        · rw [if_pos hwant]
          refine ⟨fun _ _ => trivial, ?_⟩
          rw [Oper.semAt_eq _ _ _ hnd, hv w (hi.held w hw)]
          exact next hi hw h
        · rw [if_neg (by rw [hwant]; exact Bool.false_ne_true)]
          exact ⟨fun _ _ => trivial, next hi hw h⟩
      | flo hk hwant obj hrun h =>
        unfold wpOpIn
        simp only [ho, hwant, if_true]
        refine ⟨fun _ _ => trivial, ?_⟩
        rw [Oper.semAt_eq _ _ _ hnd, hrun w (hi.held w hw)]
        have hs : ∃ w' : World, F w' ∧ w'.heap[w.heap.size]? = some obj := ⟨{ w with heap := w.heap.push obj }, hi.mono _ _ hw (below_push w obj), by simp⟩
        exact next (hi.flo obj _ hs) ⟨hi.mono _ _ hw (below_push w obj), by simp⟩ (h _ (fun hx => Nat.lt_irrefl _ (hi.own w hw _ hx)) hs)
      | eff hk hwant I sh T hm' hg h =>
        unfold wpOpIn
        simp only [ho, hwant, if_true]
        refine (hg w hw).wpIn hnd ?_
        rintro v w' ⟨t, rfl, hb, ht⟩
        have hs : ∃ w, F w ∧ T t w := ⟨w', hi.mono _ _ hw hb, ht⟩
        exact next (hi.eff (hm' t) hs) ⟨hi.mono _ _ hw hb, ht⟩ (h t hs)
      | sto hk hwant I sh T hm' hs hg h =>
        unfold wpOpIn
        simp only [ho, hwant, if_true]
        refine (hg w hw).wpIn hnd ?_
        rintro v w' ⟨t, rfl, hb, ht⟩
        have hx : T t w' ∧ ∀ g ∈ own, g < w'.heap.size := ⟨ht, fun g hg => Nat.lt_of_lt_of_le (hi.own w hw g hg) hb⟩
        exact next (InvF.sto (hm' t) (hs t) ⟨w', hx⟩) hx (h t ⟨w', hx⟩)
end

theorem wpIn_region_FC {P : Program} {id r m : Nat} {l : List Oper} {Q : Exit → Act → World → Prop} {a : Act} {w : World} (C : World → Prop) (hm : P.follows .mixedOrders = true) (hB : floatB l.toArray = true) (hD : noDeferB l.toArray = true) (hC : C w)
    (hmono : ∀ W W', C W → Below w.heap.size w W → Below W.heap.size W W' → C W')
    (h : WpF P l.toArray (fun W => Below w.heap.size w W ∧ C W) (fun a w => Q .normal a w) l a (List.range w.heap.size) (fun W => Below w.heap.size w W ∧ C W)) : (Code.region id l.toArray true).wpIn (Fence.wide.inRound r) m P Q a w := by
  refine wpIn_region_any hm ?_
  have hd : Below w.heap.size w { w with drawn := w.drawn + 1 } := ⟨rfl, rfl, rfl, Nat.le_refl _, fun _ _ => rfl⟩
  have hmono' : FMono (fun W => Below w.heap.size w W ∧ C W) := fun W W' h hb => ⟨h.1.trans (hb.mono h.1.size), hmono W W' h.2 h.1 hb⟩
  have hlen : (l.zipIdx.map fun p => (p.2, p.1)).length = l.toArray.size := by simp
  have hw0 := hmono' w _ ⟨Below.refl _ _, hC⟩ hd
  refine wpAnyIn_of_F (S := fun W => Below w.heap.size w W ∧ C W) hB hD _ (l.zipIdx.map fun p => (p.2, p.1)) _ a (List.range w.heap.size) _ _ hlen ⟨by simp, ?_, ?_, ?_⟩ ?_ ⟨hmono', fun _ h => h, fun W h g hg => Nat.lt_of_lt_of_le (List.mem_range.1 hg) h.1.size, ⟨_, hw0⟩⟩ hw0 ?_
  · intro p hp
    obtain ⟨⟨o, i⟩, hx, rfl⟩ := List.mem_map.1 hp
    have := List.mem_zipIdx' hx
    simp [this.1, this.2]
  · intro i hi
    have hi' : i < l.length := by simpa using hi
    simp only [List.map_map]
    constructor
    · intro _
      refine List.mem_map.2 ⟨(l[i], i), ?_, rfl⟩
      rw [List.mem_zipIdx_iff_getElem?]
      simp [hi']
    · intro _
      simp [hi']
  · rw [List.pairwise_map, List.pairwise_iff_getElem]
    intro i j hi hj hij
    simpa using hij
  · intro j hj
    rcases Nat.lt_or_ge j l.length with h' | h' <;> simp [h'] at hj
  · have : (l.zipIdx.map fun p => (p.2, p.1)).map (·.2) = l := by simp [List.map_map, Function.comp_def, List.zipIdx_map_fst]
    rw [this]
    exact h
end Go.Proofs.YtghgggaimijcaaaDoor

namespace Go.Proofs.YtghgggaimijcaaaDoor
open Go.RowKit Go.Shelf
attribute [local go_sem] Oper.semAt_some
attribute [local go_sem] Gives givesU

/-- A digit. -/
abbrev Dg := { x : Nat // x < 4294967296 }
/-- The cells of block B and of the row's block stay. -/
def KR (B : Nat) (p : Option Addr) (n : Nat) (W W' : World) : Prop := (∀ o, W'.cell? ⟨B, o, none⟩ = W.cell? ⟨B, o, none⟩) ∧ (0 < n → ∀ a, p = some a → ∀ o, W'.cell? ⟨a.block, o, none⟩ = W.cell? ⟨a.block, o, none⟩)

set_option maxRecDepth 100000 in
set_option maxHeartbeats 2000000 in
theorem down_stops (n : Nat) (hn : 1 ≤ n) (Bc c : Nat) (d : List Nat) (p : Option Addr) (w : World) (hB : Bc < w.heap.size) (c0 : w.cell? ⟨Bc, 0, none⟩ = some (.slice p d.length c)) (hr : Row w p c d) :
    SeqStopsK Fence.wide n Tryd.prog 78 #[.pointer (some ⟨Bc, 0, none⟩)] (fun x : Dg => #[.int .u32 (x.1 : Int)]) (KR Bc p d.length) (fun xs => xs.map (·.1) = d.reverse) (fun _ => True) d.length w := fun L J Jx W hW _ _ hY h0 => by
  have k0 : W.cell? ⟨Bc, 0, none⟩ = some (.slice p d.length c) := (hW.cell (p := ⟨Bc, 0, none⟩) hB).trans c0
  have hrW : Row W p c d := hr.ext hW
  have hma := hr.max
  have hle := hr.le
  clear c0 hr
  refine callsIn_of_wp Tryd.func78 rfl trivial ?_ rfl
  simp only [Tryd.ntmps78, List.size_toArray, List.length_cons, List.length_nil, Nat.reduceAdd, Nat.reduceSub, Array.replicate_succ, Array.replicate_zero, List.push_toArray, List.append_toArray, List.nil_append, List.cons_append]
  gi_wp2
  gi_loopw [3] (fun i wr => ∃ (k : Nat) (pre : List Dg), i = .int .i64 ((k : Int) - 1) ∧ pre.length + k = d.length ∧ pre.map (·.1) = (d.drop k).reverse ∧ J pre wr ∧ KR Bc p d.length W wr) (fun i _ => (intOf i + 1).toNat)
  case atStart => exact ⟨d.length, [], rfl, by simp, by rw [List.drop_eq_nil_of_le (Nat.le_refl _)]; rfl, h0, fun _ => rfl, fun _ _ _ _ => rfl⟩
  case round =>
    obtain ⟨k, pre, rfl, hk, hpre, hJ, hK1, hK2⟩ := hrel
    have m0 : wr.cell? ⟨Bc, 0, none⟩ = some (.slice p d.length c) := (hK1 0).trans k0
    cases k with
    | zero =>
      have HJ := Lib.hid hJ
      have HP := Lib.hid hpre
      clear hJ hpre hK1 hK2 hk
      have e : (((0 : Nat) : Int) - 1) = -1 := by omega
      rw [e]
      clear e
      gi_wp2
      go_end0
      exact ⟨⟨_, rfl⟩, .inl ⟨pre, by rw [HP.out, List.drop_zero], HJ.out⟩⟩
    | succ j =>
      have e : (((j + 1 : Nat) : Int) - 1) = (j : Int) := by omega
      rw [e]
      clear e
      obtain ⟨ba, oa, rfl, hba, hca⟩ := hrW.at (by omega)
      have ca1 : wr.cell? ⟨ba, oa + j, none⟩ = some (.int .u32 ((d[j]?.getD 0 : Nat) : Int)) := (hK2 (by omega) _ rfl _).trans (hca j (by omega))
      have hxd := hrW.dig.getD j
      rw [List.getD_eq_getElem?_getD] at hxd
      have hjd : j < d.length := by omega
      have hdrop : d.drop j = d[j]?.getD 0 :: d.drop (j + 1) := by rw [List.drop_eq_getElem_cons hjd, getD_eq hjd]
      obtain ⟨x, X⟩ : ∃ x, Hid (d[j]?.getD 0 = x) := ⟨_, rfl⟩
      rw [X.out] at ca1 hxd hdrop
      obtain ⟨f1, t1, a1, b1, hy1, hR1⟩ := hY pre ⟨x, hxd⟩ wr hJ (by omega)
      dsimp only at hy1
      have HP := Lib.hid hpre
      have HD := Lib.hid hdrop
      have HK1 := Lib.hid hK1
      have HK2 := Lib.hid hK2
      clear hca hpre hJ hdrop hK1 hK2
      gi_wp2
      refine hR1.mono ?_
      rintro e W1 (⟨rfl, hJ1, hkk1, hkk2⟩ | ⟨rfl, hx1⟩)
      · have HJ1 := Lib.hid hJ1
        have HL1 := Lib.hid hkk1
        have HL2 := Lib.hid hkk2
        clear hJ1 hkk1 hkk2
        gi_wp2
        refine ⟨⟨j, pre ++ [⟨x, hxd⟩], rfl, by simp; omega, ?_, HJ1.out, fun o => (HL1.out o).trans (HK1.out o), fun h a ha o => (HL2.out h a ha o).trans (HK2.out h a ha o)⟩, by simp [intOf]⟩
        rw [List.map_append, HP.out, HD.out, List.reverse_cons]
        rfl
      · gi_wp2
        refine bodyPost_ret (results_none rfl _ _ _) rfl ?_
        exact ⟨⟨_, rfl⟩, .inr ⟨_, trivial, hx1⟩⟩
set_option maxRecDepth 100000 in
set_option maxHeartbeats 1000000 in
theorem num_down (p : Option Addr) (l c : Nat) (w : World) :
    Calls Tryd.prog 55 #[.slice p l c] w fun e w' => e = .returned (.func (.func 78) #[] #[.pointer (some ⟨w.heap.size, 0, none⟩)]) ∧ Ext w w' ∧ w'.cell? ⟨w.heap.size, 0, none⟩ = some (.slice p l c) ∧ w.heap.size < w'.heap.size := by
  go_enter Tryd.func55, Tryd.ntmps55
  go_wp2
  go_ret
  exact ⟨rfl, bxx, by go_simp, by simp⟩

theorem tight_posD {b : List Nat} (tb : Tight b) (h : 0 < b.length) : 0 < val b := by
  rcases Nat.eq_zero_or_pos (val b) with h0 | h0
  · exfalso
    rcases List.eq_nil_or_concat b with rfl | ⟨c, x, rfl⟩
    · simp at h
    · have hx : x ≠ 0 := by have := tb (by simp); simpa using this
      rw [List.concat_eq_append, val_append, show val [x] = x from (by simp [val])] at h0
      have h1 : 0 < 4294967296 ^ c.length := Nat.pow_pos (by omega)
      have h2 := Nat.mul_pos h1 (show 0 < x by omega)
      omega
  · exact h0
theorem wrapI {n : Int} (h1 : -9223372036854775808 ≤ n) (h2 : n ≤ 9223372036854775807) : IntKind.i64.wrap n = n := IntWalk.i64_in _ ⟨h1, h2⟩
/-- The int of a number. -/
def intP (a : Nm) : Int × Bool := if a.right && decide (a.d.length ≤ 2) && decide (-9223372036854775808 ≤ a.z) && decide (a.z ≤ 9223372036854775807) then (a.z, true) else (0, false)
def RetInt (w : World) (r : Int × Bool) (e : Ending) (w' : World) : Prop := e = .returned (.tuple #[.int .i64 r.1, .bool r.2]) ∧ Ext w w'
def accD (pre : List Dg) : Nat := pre.foldl (fun m x => m * 4294967296 + x.1) 0
theorem accD_snoc (pre : List Dg) (x : Dg) : accD (pre ++ [x]) = accD pre * 4294967296 + x.1 := by simp [accD]
theorem accD_val : ∀ (pre : List Dg), accD pre = val (pre.map (·.1)).reverse := by
  intro pre
  have h : ∀ (l : List Dg) (m : Nat), l.foldl (fun m x => m * 4294967296 + x.1) m = val (l.map (·.1)).reverse + 4294967296 ^ l.length * m := by
    intro l
    induction l with
    | nil => intro m; simp [val]
    | cons x l ih =>
      intro m
      rw [List.foldl_cons, ih, List.map_cons, List.reverse_cons, val_append, show val [x.1] = x.1 from (by simp [val]), List.length_reverse, List.length_map, List.length_cons, Nat.pow_succ]
      rw [Nat.mul_add, Nat.mul_assoc, Nat.mul_comm m]
      omega
  rw [accD, h, Nat.mul_zero, Nat.add_zero]
theorem accD_lt (pre : List Dg) : accD pre < 4294967296 ^ pre.length := by
  rw [accD_val]
  have := val_lt (d := (pre.map (·.1)).reverse) (by intro y hy; rw [List.mem_reverse, List.mem_map] at hy; obtain ⟨z, _, rfl⟩ := hy; exact z.2)
  rwa [List.length_reverse, List.length_map] at this

set_option maxRecDepth 100000 in
set_option maxHeartbeats 4000000 in
theorem num_Int (a : Nm) (na : Bool) (pa : Option Addr) (la ca : Nat) (w : World) (ha : NR w na pa la ca a) :
    Calls Tryd.prog 38 #[.agg #[.bool na, .slice pa la ca]] w (RetInt w (intP a)) := by
  have RA := Lib.hid (fun w' (hx : Ext w w') => num_Right a na pa la ca w' (ha.ext hx))
  cases ra : a.right with
  | false =>
    rw [ra] at RA
    have hP : intP a = (0, false) := by unfold intP; rw [ra]; rfl
    rw [hP]
    go_enter Tryd.func38, Tryd.ntmps38
    go_wp2_with fail
    refine (RA.out _ bxx).mono ?_
    rintro e w1 ⟨rfl, hx⟩
    have hx0 : Ext w w1 := Ext.step bxx hx
    go_wp2
    go_ret2
    exact ⟨rfl, hx0⟩
  | true =>
    rw [ra] at RA
    by_cases hl : 2 < la
    · have hP : intP a = (0, false) := by
        have := ha.2.1
        unfold intP; rw [if_neg]; simp; intros; omega
      rw [hP]
      go_enter Tryd.func38, Tryd.ntmps38
      go_wp2_with fail
      refine (RA.out _ bxx).mono ?_
      rintro e w1 ⟨rfl, hx⟩
      have hx0 : Ext w w1 := Ext.step bxx hx
      have hz_w1 : w.heap.size + 1 ≤ w1.heap.size := Nat.le_trans omm hx.size
      obtain ⟨hl_w1_0, hk_w1_0, hf_w1_0⟩ := extK hx (w.heap.size)
      go_wp2
      go_ret2
      exact ⟨rfl, hx0⟩
    · have dl : decide (2 < (la : Int)) = false := by rw [decide_eq_false_iff_not]; omega
      obtain rfl : la = a.d.length := ha.2.1
      have hlen : a.d.length ≤ 2 := by omega
      clear hl
      refine (callsIn_wide (n := 6)).1 ?_
      have RA' := Lib.hid (fun w' (hx : Ext w w') => (callsIn_wide (n := 5)).2 (RA.out w' hx))
      have HA := Lib.hid ha
      have HLEN := Lib.hid hlen
      have hrow0 := ha.2.2
      clear ha RA hlen
      refine callsIn_of_wp_marks Tryd.func38 rfl trivial ?_ rfl
      simp only [Tryd.ntmps38, List.size_toArray, List.length_cons, List.length_nil, Nat.reduceAdd, Nat.reduceSub, Array.replicate_succ, Array.replicate_zero, List.push_toArray, List.append_toArray, List.nil_append, List.cons_append]
      gi_wp2
      refine ⟨trivial, (RA'.out _ bxx).mono ?_⟩
      rintro e w1 ⟨rfl, hx⟩
      have hx0 : Ext w w1 := Ext.step bxx hx
      have hz_w1 : w.heap.size + 1 ≤ w1.heap.size := Nat.le_trans omm hx.size
      obtain ⟨hl_w1_0, hk_w1_0, hf_w1_0⟩ := extK hx (w.heap.size)
      have g0 : w1.cell? ⟨w.heap.size, 0, none⟩ = some (.bool na) := by go_simp
      have g1 : w1.cell? ⟨w.heap.size, 1, none⟩ = some (.slice pa a.d.length ca) := by go_simp
      clear hk_w1_0 hf_w1_0
      gi_wp2
      refine ⟨trivial, (callsIn_wide.2 (num_down pa a.d.length ca _)).mono ?_⟩
      rintro e w2 ⟨rfl, hx2, b0, hb⟩
      have hs2 := hx2.size
      simp at hs2 b0 hb
      have hx3 : Ext w w2 := Ext.step bxx hx2
      have e0 : w2.cell? ⟨w.heap.size, 0, none⟩ = some (.bool na) := (hx2.cell (p := ⟨w.heap.size, 0, none⟩) (by simp; omega)).trans (by go_simp)
      have e1 : w2.cell? ⟨w.heap.size, 1, none⟩ = some (.slice pa a.d.length ca) := (hx2.cell (p := ⟨w.heap.size, 1, none⟩) (by simp; omega)).trans (by go_simp)
      have e2 : w2.cell? ⟨w1.heap.size, 0, none⟩ = some (.int .u64 0) := (hx2.cell (p := ⟨w1.heap.size, 0, none⟩) (by simp)).trans (by go_simp)
      have e3 : w2.frozen? ⟨w1.heap.size, 0, none⟩ = false := (hx2.frozen (p := ⟨w1.heap.size, 0, none⟩) (by simp)).trans (by go_simp)
      have hrow := hrow0.ext hx3
      have hpb : ∀ x, pa = some x → 0 < a.d.length → x.block < w.heap.size := by
        intro x hp h0
        obtain ⟨b', o', hp', hlt, _⟩ := hrow0.at h0
        rw [hp] at hp'
        cases hp'
        exact hlt
      clear hx2
      gi_wp2
      refine wpIn_rangeFunc_ownF rfl (by omega) (gf := 78) (lb := #[.pointer (some ⟨w1.heap.size + 1, 0, none⟩)]) rfl trivial (enters_of Tryd.func78 (by kernel_rfl) rfl)
        (down_stops 5 (by omega) (w1.heap.size + 1) ca a.d pa w2 hb b0 hrow) (fun h k => ⟨fun o => (k.1 o).trans (h.1 o), fun z x hx o => (k.2 z x hx o).trans (h.2 z x hx o)⟩)
        (fun W L o o' hL hW ho _ => ⟨fun q => World.cell?_of_block (World.putObj_heap_other (by show w1.heap.size + 1 ≠ L; omega)), fun z x hx q => World.cell?_of_block (World.putObj_heap_other (by have := hpb x hx z; show x.block ≠ L; omega))⟩) (Below.refl _ _) (fun _ => rfl)
        (fun pre W => ((W.cell? ⟨w.heap.size, 0, none⟩ = some (.bool na) ∧ W.cell? ⟨w.heap.size, 1, none⟩ = some (.slice pa a.d.length ca) ∧ W.cell? ⟨w1.heap.size, 0, none⟩ = some (.int .u64 ((accD pre : Nat) : Int)) ∧ W.frozen? ⟨w1.heap.size, 0, none⟩ = false) ∧ Below w.heap.size w W) ∧ w2.heap.size ≤ W.heap.size)
        (fun _ _ _ => False)
        (OwnFrom.and (OwnFrom.and (Own.from (fun s A B row hs hg hr => ⟨cell_kept hs.1 hg hr, cell_kept hs.2.1 hg hr, cell_kept hs.2.2.1 hg hr, (frozen_kept hs.2.2.1 hg hr).trans hs.2.2.2⟩) _) (ownFrom_below (Nat.le_refl _) (by omega))) (fun s A B row hs hg hr => Nat.le_trans hs hg.size))
        (fun _ _ _ _ _ hs _ _ => hs)
        ⟨⟨⟨e0, e1, e2, e3⟩, hx3⟩, Nat.le_refl _⟩
        (fun x => { tmps := #[.agg #[.bool na, .slice pa a.d.length ca], .pointer (some ⟨w.heap.size, 0, none⟩), .int .i64 0, .bool false, .pointer (some ⟨w1.heap.size, 0, none⟩), .int .u32 (x.1 : Int), .agg #[.bool na, .slice pa a.d.length ca], .bool true, .bool false, .bool false, .pointer (some ⟨w.heap.size, 1, none⟩), .slice pa a.d.length ca, .int .i64 (a.d.length : Int), .bool false, .bool false, .pointer (some ⟨w.heap.size, 1, none⟩), .slice pa a.d.length ca, .func (.func 78) #[] #[.pointer (some ⟨w1.heap.size + 1, 0, none⟩)], .int .u32 (x.1 : Int), undef, undef, undef, undef, undef, undef, undef, undef, undef, undef, undef, undef, undef, undef, undef, undef, undef, undef, undef, undef, undef, undef, undef, undef, undef], defers := [] }) ?assign ?body ?done ?stop
      case assign =>
        intro L x W K hK
        gi_wp2
        exact hK
      case body =>
        rintro L pre x W ⟨⟨⟨c0, c1, c2, c3⟩, hB⟩, hz⟩ hpl
        have hx1 := x.2
        have hac : accD pre < 4294967296 := by
          have := accD_lt pre
          have h1 : pre.length ≤ 1 := by have := HLEN.out; omega
          exact Nat.lt_of_lt_of_le this (Nat.pow_le_pow_right (n := 4294967296) (i := pre.length) (j := 1) (by omega) h1)
        have OR := or_u64 (accD pre) x.1 hac hx1
        have SN := Lib.hid (accD_snoc pre x)
        have hWl : w.heap.size < W.heap.size := by omega
        have hWm : w1.heap.size < W.heap.size := by omega
        have hne : w.heap.size ≠ w1.heap.size := by omega
        have hne' : w1.heap.size ≠ w.heap.size := by omega
        clear hpl
        gi_wp2
        refine ⟨KeepsOthers.setCell _ _ _, ⟨fun o => ?_, fun z y hy o => ?_⟩, ⟨⟨?_, ?_, ?_, ?_⟩, ?_⟩, ?_⟩
        · go_simp
        · have hn : w1.heap.size ≠ y.block := by have := hpb y hy z; omega
          have hn' := Ne.symm hn
          go_simp
        · go_simp
        · go_simp
        · rw [SN.out]; go_simp
        · go_simp
        · exact bxx
        · simp; omega
      case done =>
        rintro D xs W hD hS ⟨⟨⟨c0, c1, c2, c3⟩, hB⟩, hz⟩ hK
        have hacc : accD xs = val a.d := by rw [accD_val, hS, List.reverse_reverse]
        have hM64 : val a.d < 18446744073709551616 := by
          have := val_lt hrow0.dig
          exact Nat.lt_of_lt_of_le this (Nat.pow_le_pow_right (n := 4294967296) (i := a.d.length) (j := 2) (by omega) HLEN.out)
        have hsgn : na = a.neg := HA.out.1
        have hzv : a.z = if na then -(val a.d : Int) else val a.d := by unfold Nm.z; rw [hsgn]
        have hpos : na = true → 0 < val a.d := by
          intro h
          refine tight_posD (a.right_iff.1 ra).2.1 ?_
          rcases Nat.eq_zero_or_pos a.d.length with g | g
          · have := (a.right_iff.1 ra).2.2 (List.eq_nil_of_length_eq_zero g)
            rw [hsgn, this] at h; cases h
          · exact g
        have hP : intP a = if decide (-9223372036854775808 ≤ a.z) && decide (a.z ≤ 9223372036854775807) then (a.z, true) else (0, false) := by
          unfold intP
          rw [ra, show decide (a.d.length ≤ 2) = true by simpa using HLEN.out]
          rfl
        rw [hzv] at hP
        rw [hacc] at c2
        obtain ⟨M, HM⟩ : ∃ M, Hid (val a.d = M) := ⟨_, rfl⟩
        rw [HM.out] at c2 hM64 hpos hP
        have HP := Lib.hid hP
        have HK := Lib.hid hK
        clear hP hzv hsgn hacc hS hpb hrow0 hrow dl
        cases na
        · by_cases h63 : M < 9223372036854775808
          · have d1 : decide ((M : Int) < 9223372036854775808) = true := by rw [decide_eq_true_eq]; omega
            have w0 : IntKind.i64.wrap (M : Int) = (M : Int) := wrapI (by omega) (by omega)
            have r : (if (decide (-9223372036854775808 ≤ (if false = true then -(M : Int) else (M : Int))) && decide ((if false = true then -(M : Int) else (M : Int)) ≤ 9223372036854775807)) = true then ((if false = true then -(M : Int) else (M : Int)), true) else (0, false)) = (((M : Int), true) : Int × Bool) := by
              rw [if_pos]; rfl; simp; omega
            have RES := Lib.hid (HP.out.trans r)
            clear r HP
            gi_wp2
            refine ⟨by simp, .inl ⟨_, _, rfl, run_takeDeferred HK.out, ?_⟩⟩
            refine ⟨_, results_tmp2 rfl _ _ _, ?_, hB.trans (belowK_b (w := w) (Nat.le_refl _) W D _ _ (by omega) HK.out rfl rfl)⟩
            rw [RES.out]
            rfl
          · have d1 : decide ((M : Int) < 9223372036854775808) = false := by rw [decide_eq_false_iff_not]; omega
            have r : (if (decide (-9223372036854775808 ≤ (if false = true then -(M : Int) else (M : Int))) && decide ((if false = true then -(M : Int) else (M : Int)) ≤ 9223372036854775807)) = true then ((if false = true then -(M : Int) else (M : Int)), true) else (0, false)) = ((0, false) : Int × Bool) := by
              rw [if_neg]; simp; omega
            have RES := Lib.hid (HP.out.trans r)
            clear r HP
            gi_wp2
            refine ⟨by simp, .inl ⟨_, _, rfl, run_takeDeferred HK.out, ?_⟩⟩
            refine ⟨_, results_tmp2 rfl _ _ _, ?_, hB.trans (belowK_b (w := w) (Nat.le_refl _) W D _ _ (by omega) HK.out rfl rfl)⟩
            rw [RES.out]
            rfl
        · by_cases h63 : M ≤ 9223372036854775808
          · have d1 : decide ((M : Int) ≤ 9223372036854775808) = true := by rw [decide_eq_true_eq]; omega
            have hp := hpos rfl
            have w1 : IntKind.u64.wrap (-(M : Int)) = 18446744073709551616 - (M : Int) := by rw [u64_neg _ (by omega)]; omega
            have w2 : wrap64 (18446744073709551616 - (M : Int)) = -(M : Int) := by
              unfold wrap64
              omega
            have HW := Lib.hid w1
            have HW2 := Lib.hid w2
            clear w1 w2
            have r : (if (decide (-9223372036854775808 ≤ (if true = true then -(M : Int) else (M : Int))) && decide ((if true = true then -(M : Int) else (M : Int)) ≤ 9223372036854775807)) = true then ((if true = true then -(M : Int) else (M : Int)), true) else (0, false)) = ((-(M : Int), true) : Int × Bool) := by
              rw [if_pos]; rfl; simp; omega
            have RES := Lib.hid (HP.out.trans r)
            clear r HP
            gi_wp2
            refine ⟨by simp, .inl ⟨_, _, rfl, run_takeDeferred HK.out, ?_⟩⟩
            refine ⟨_, results_tmp2 rfl _ _ _, ?_, hB.trans (belowK_b (w := w) (Nat.le_refl _) W D _ _ (by omega) HK.out rfl rfl)⟩
            have e : wrap64 (IntKind.u64.wrap (-(M : Int))) = -(M : Int) := by rw [HW.out, HW2.out]
            rw [RES.out]
            exact congrArg (fun z => Ending.returned (.tuple #[.int .i64 z, .bool true])) e
          · have d1 : decide ((M : Int) ≤ 9223372036854775808) = false := by rw [decide_eq_false_iff_not]; omega
            have r : (if (decide (-9223372036854775808 ≤ (if true = true then -(M : Int) else (M : Int))) && decide ((if true = true then -(M : Int) else (M : Int)) ≤ 9223372036854775807)) = true then ((if true = true then -(M : Int) else (M : Int)), true) else (0, false)) = ((0, false) : Int × Bool) := by
              rw [if_neg]; simp; omega
            have RES := Lib.hid (HP.out.trans r)
            clear r HP
            gi_wp2
            refine ⟨by simp, .inl ⟨_, _, rfl, run_takeDeferred HK.out, ?_⟩⟩
            refine ⟨_, results_tmp2 rfl _ _ _, ?_, hB.trans (belowK_b (w := w) (Nat.le_refl _) W D _ _ (by omega) HK.out rfl rfl)⟩
            rw [RES.out]
            rfl
      case stop =>
        rintro D c' pre W _ _ h _
        exact h.elim
end Go.Proofs.YtghgggaimijcaaaDoor

namespace Go.Proofs.YtghgggaimijcaaaDoor
open Go.RowKit
open Go.Lib (decDigits)

def inI (z : Int) : Bool := decide (-9223372036854775808 ≤ z) && decide (z ≤ 9223372036854775807)
theorem inI_iff {z : Int} : inI z = true ↔ -9223372036854775808 ≤ z ∧ z ≤ 9223372036854775807 := by
  unfold inI
  rw [Bool.and_eq_true, decide_eq_true_eq, decide_eq_true_eq]
/-- What Plus makes. -/
def plusR (a : Rt) (n : Int) : Rt × Bool := if a.right && inI (a.add + n) then (⟨a.add + n, a.s, a.n, a.d⟩, true) else (Rt.no, false)
theorem ofP_plus {a : Rt} (h : ofP a.add a.s a.n a.d = (a, true)) (z : Int) : ofP z a.s a.n a.d = (⟨z, a.s, a.n, a.d⟩, true) := by
  obtain ⟨add, s, n, d⟩ := a
  simp only at h ⊢
  unfold ofP at h ⊢
  split at h
  · simp at h
  · rename_i h1
    rw [if_neg h1]
    split at h
    · rename_i h2
      rw [if_pos h2]
      simp only [Prod.mk.injEq, Rt.mk.injEq, and_true, true_and] at h ⊢
      exact h
    · rename_i h2
      rw [if_neg h2]
      split at h
      · simp at h
      · rename_i h3
        rw [if_neg h3]
        simp only [Prod.mk.injEq, Rt.mk.injEq, and_true, true_and] at h ⊢
        exact h
theorem plusR_of {a : Rt} (hd : Dig a.n.d ∧ Dig a.d.d) (hr : a.right = true) {n : Int} (hi : inI (a.add + n) = true) : plusR a n = ofP (a.add + n) a.s a.n a.d := by
  rw [ofP_plus (right_ok hd.1 hd.2 hr).2]
  unfold plusR
  rw [hr, hi]
  rfl
/-- A number of at most 65 bits. -/
def wide (z : Int) : Prop := -18446744073709551616 ≤ z ∧ z < 18446744073709551616
theorem small_wide {z : Int} (h : wide z) : small z = true := by
  refine small_of_lt (k := 3) ?_ (by decide)
  have : (18446744073709551617 : Nat) < 4294967296 ^ 3 := by decide +kernel
  unfold wide at h
  omega
theorem intP_wide {z : Int} (h : wide z) : intP (ofZ z) = if inI z then (z, true) else (0, false) := by
  unfold intP
  rw [ofZ_right (small_wide h), ofZ_z]
  cases hi : inI z with
  | true =>
    obtain ⟨h1, h2⟩ := inI_iff.1 hi
    have hl : (ofZ z).d.length ≤ 2 := by
      simp only [ofZ]
      refine (digs_length_le _ _).2 ?_
      have : (9223372036854775809 : Nat) < 4294967296 ^ 2 := by decide +kernel
      omega
    rw [if_pos (by simp [hl, h1, h2])]
    rfl
  | false =>
    rw [if_neg]
    · rfl
    · intro g
      simp only [Bool.and_eq_true, decide_eq_true_eq] at g
      rw [inI_iff.2 ⟨g.1.2, g.2⟩] at hi
      cases hi
theorem wide_int {z : Int} (h : -9223372036854775808 ≤ z ∧ z ≤ 9223372036854775807) : wide z := by unfold wide; omega
theorem wide_sum {x y : Int} (h : -9223372036854775808 ≤ x ∧ x ≤ 9223372036854775807) (k : -9223372036854775808 ≤ y ∧ y ≤ 9223372036854775807) : wide (x + y) := by unfold wide; omega
theorem textL_int {z : Int} (h : -9223372036854775808 ≤ z ∧ z ≤ 9223372036854775807) : textL (ofZ z) = textI z := by
  unfold textL textI
  rw [ofZ_right (small_wide (wide_int h)), if_pos rfl]
  by_cases hz : z < 0
  · rw [if_pos (by simp [ofZ, hz]), if_pos hz, val_ofZ]
  · rw [if_neg (by simp [ofZ]; omega), if_neg hz, val_ofZ]
theorem itoa_textI (z : Int) : Lib.itoa z = textI z := by
  unfold Lib.itoa textI
  by_cases hz : z < 0
  · rw [if_pos hz, if_pos hz]
  · rw [if_neg hz, if_neg hz, show z.toNat = z.natAbs by omega]
end Go.Proofs.YtghgggaimijcaaaDoor

namespace Go.Proofs.YtghgggaimijcaaaDoor
open Go.RowKit

def sameB (a b : Nm) : Bool := a.neg == b.neg && cmpL a.d b.d == 0
theorem sameB_self (a : Nm) : sameB a a = true := by simp [sameB, cmpL_refl]
theorem sameB_eq {a b : Nm} (h : a = b) : sameB a b = true := by subst h; exact sameB_self a
set_option maxRecDepth 100000 in
set_option maxHeartbeats 1000000 in
theorem r01_Same (a b : Nm) (na nb : Bool) (pa pb : Option Addr) (la ca lb cb : Nat) (w : World) (ha : NR w na pa la ca a) (hb : NR w nb pb lb cb b) :
    Calls Tryd.prog 32 #[.agg #[.bool na, .slice pa la ca], .agg #[.bool nb, .slice pb lb cb]] w fun e w' => e = .returned (.bool (sameB a b)) ∧ Ext w w' := by
  have CP := Lib.hid (fun w' (hx : Ext w w') => r01_compare a.d b.d pa pb la ca lb cb w' (ha.2.2.ext hx) (hb.2.2.ext hx) ha.2.1 hb.2.1)
  have hna := ha.1
  have hnb := hb.1
  unfold sameB
  obtain ⟨c, C⟩ : ∃ c, Hid (cmpL a.d b.d = c) := ⟨_, rfl⟩
  rw [C.out] at CP ⊢
  rw [← hna, ← hnb]
  clear hna hnb ha hb
  by_cases h : na = nb
  · subst h
    have e0 : (na == na) = true := by simp
    go_enter Tryd.func32, Tryd.ntmps32
    go_wp2_with fail
    refine (CP.out _ bxx).mono ?_
    rintro e w1 ⟨rfl, hx⟩
    have hx0 : Ext w w1 := Ext.step bxx hx
    go_wp2
    go_ret
    exact ⟨by simp, hx0⟩
  · have e0 : (na == nb) = false := by simpa using h
    go_enter Tryd.func32, Tryd.ntmps32
    go_wp2
    go_ret
    exact ⟨by rw [e0]; rfl, bxx⟩

end Go.Proofs.YtghgggaimijcaaaDoor

namespace Go.Proofs.YtghgggaimijcaaaDoor
open Go.RowKit
attribute [local go_sem] Gives givesU

theorem root_OfE (add s : Int) (x y : Nm) (r : Rt × Bool) (n m : Bool) (p q : Option Addr) (l c k d : Nat) (w : World) (hn : NR w n p l c x) (hd : NR w m q k d y) (h : ofP add s x y = r) :
    Calls Tryd.prog 6 #[.int .i64 add, .int .i64 s, .agg #[.bool n, .slice p l c], .agg #[.bool m, .slice q k d]] w (RetRt w r) := h ▸ root_Of add s x y n m p q l c k d w hn hd
theorem num_CmpE (a b : Nm) (v : Int) (na nb : Bool) (pa pb : Option Addr) (la ca lb cb : Nat) (w : World) (ha : NR w na pa la ca a) (hb : NR w nb pb lb cb b) (h : cmpP a b = v) :
    Calls Tryd.prog 35 #[.agg #[.bool na, .slice pa la ca], .agg #[.bool nb, .slice pb lb cb]] w fun e w' => e = .returned (.int .i64 v) ∧ Ext w w' := by
  subst h
  exact num_Cmp a b _ _ _ _ _ _ _ _ _ ha hb
set_option maxRecDepth 100000 in
set_option maxHeartbeats 4000000 in
theorem root_Right (add s : Int) (x y : Nm) (n m : Bool) (p q : Option Addr) (l c k d : Nat) (w : World) (hn : NR w n p l c x) (hd : NR w m q k d y) :
    Calls Tryd.prog 24 #[.agg #[.int .i64 add, .int .i64 s, .bool n, .slice p l c, .bool m, .slice q k d]] w fun e w' => e = .returned (.bool (Rt.right ⟨add, s, x, y⟩)) ∧ Ext w w' := by
  obtain ⟨⟨⟨ba, bs, bn, bd⟩, ok⟩, HO⟩ : ∃ r, ofP add s x y = r := ⟨_, rfl⟩
  have RES : Hid (Rt.right ⟨add, s, x, y⟩ = (ok && (bs == s && (cmpP x bn == 0 && cmpP y bd == 0)))) := Lib.hid (by unfold Rt.right; simp only; rw [HO])
  have CO := Lib.hid (root_OfE add s x y _ n m p q l c k d · · · HO)
  have HN := Lib.hid hn
  have HD := Lib.hid hd
  clear hn hd HO
  obtain ⟨c1, C1⟩ : ∃ v, Hid (cmpP x bn = v) := ⟨_, rfl⟩
  obtain ⟨c2, C2⟩ : ∃ v, Hid (cmpP y bd = v) := ⟨_, rfl⟩
  rw [C1.out, C2.out] at RES
  go_enter Tryd.func24, Tryd.ntmps24
  go_upto_region 1 with (fail)
  refine wp_know (fun W => Ext w W ∧ RB W w.heap.size add s n p l c m q k d) ?_ ?_
  · exact ⟨bxx, RB.heap (heap_new rfl)⟩
  rintro W0 ⟨ex, rb⟩
  obtain ⟨e0, e1, e2, ⟨e3, e4⟩, ⟨e5, e6⟩, ef⟩ := id rb
  go_wp2_with fail
  refine (CO.out _ (HN.out.ext bxx) (HD.out.ext bxx)).mono ?_
  rintro e W1 ⟨n1, p1, l1, c1', m1, q1, k1, d1, rfl, nr1, nr2, hx⟩
  have hx1 : Ext W0 W1 := Ext.step bxx hx
  have ex1 : Ext w W1 := Ext.step ex hx1
  replace rb := rb.ext hx1
  clear e0 e1 e2 e3 e4 e5 e6 ef hx hx1 ex CO
  go_upto_region 2 with (fail)
  refine wp_know (fun W => Ext w W ∧ RB W w.heap.size add s n p l c m q k d ∧ RB W W1.heap.size ba bs n1 p1 l1 c1' m1 q1 k1 d1 ∧ NR W n1 p1 l1 c1' bn ∧ NR W m1 q1 k1 d1 bd) ?_ ?_
  · exact ⟨ex1.alloc ex1.size _, rb.ext ((Below.refl _ _).alloc (Nat.le_refl _) _), RB.heap (heap_new rfl), nr1.alloc _, nr2.alloc _⟩
  obtain ⟨g, G⟩ : ∃ x, Hid (W1.heap.size = x) := ⟨_, rfl⟩
  rw [G.out]
  clear rb ex1 nr1 nr2
  rintro W2 ⟨ex, rb, rg, nr1, nr2⟩
  obtain ⟨e0, e1, e2, ⟨e3, e4⟩, ⟨e5, e6⟩, ef⟩ := id rb
  obtain ⟨h0, h1, h2, ⟨h3, h4⟩, ⟨h5, h6⟩, hf⟩ := id rg
  have NR1 := Lib.hid nr1
  have NR2 := Lib.hid nr2
  have HN2 := Lib.hid (HN.out.ext ex)
  have HD2 := Lib.hid (HD.out.ext ex)
  clear rb rg nr1 nr2 ef hf HN HD
  cases ok with
  | false =>
    refine wp_FS (fun W => W.cell? ⟨w.heap.size, 0, none⟩ = some (.int .i64 add) ∧ W.cell? ⟨w.heap.size, 1, none⟩ = some (.int .i64 s) ∧ W.cell? ⟨w.heap.size, 2, none⟩ = some (.bool n) ∧ W.cell? ⟨w.heap.size, 3, none⟩ = some (.slice p l c) ∧ W.cell? ⟨w.heap.size, 4, none⟩ = some (.bool m) ∧ W.cell? ⟨w.heap.size, 5, none⟩ = some (.slice q k d) ∧ W.cell? ⟨g, 0, none⟩ = some (.int .i64 ba) ∧ W.cell? ⟨g, 1, none⟩ = some (.int .i64 bs) ∧ W.cell? ⟨g, 2, none⟩ = some (.bool n1) ∧ W.cell? ⟨g, 3, none⟩ = some (.slice p1 l1 c1') ∧ W.cell? ⟨g, 4, none⟩ = some (.bool m1) ∧ W.cell? ⟨g, 5, none⟩ = some (.slice q1 k1 d1)) ?_
    repeat (first | refine F_s ?_ | refine F_r ?_)
    rintro W3 ⟨hx, _⟩
    go_wp2
    go_ret
    exact ⟨by rw [RES.out]; rfl, Ext.step ex hx⟩
  | true =>
  by_cases b1 : bs = s
  · have f1 : (bs == s) = true := by simpa using b1
    have B1 := Lib.hid b1
    clear b1
    by_cases b2 : c1 = 0
    · have f2 : (c1 == 0) = true := by simpa using b2
      have B2 := Lib.hid b2
      clear b2
      have bb : (c2 == 0) = true ∨ (c2 == 0) = false := by cases (c2 == 0) <;> simp
      have CB : ∃ v, Hid ((c2 == 0) = v) := ⟨_, Lib.hid rfl⟩
      obtain ⟨v, V⟩ := CB
      have f3 := V.out
      refine wp_FS (fun W => W.cell? ⟨w.heap.size, 0, none⟩ = some (.int .i64 add) ∧ W.cell? ⟨w.heap.size, 1, none⟩ = some (.int .i64 s) ∧ W.cell? ⟨w.heap.size, 2, none⟩ = some (.bool n) ∧ W.cell? ⟨w.heap.size, 3, none⟩ = some (.slice p l c) ∧ W.cell? ⟨w.heap.size, 4, none⟩ = some (.bool m) ∧ W.cell? ⟨w.heap.size, 5, none⟩ = some (.slice q k d) ∧ W.cell? ⟨g, 0, none⟩ = some (.int .i64 ba) ∧ W.cell? ⟨g, 1, none⟩ = some (.int .i64 bs) ∧ W.cell? ⟨g, 2, none⟩ = some (.bool n1) ∧ W.cell? ⟨g, 3, none⟩ = some (.slice p1 l1 c1') ∧ W.cell? ⟨g, 4, none⟩ = some (.bool m1) ∧ W.cell? ⟨g, 5, none⟩ = some (.slice q1 k1 d1)) ?_
      repeat (first | refine F_s ?_ | refine F_r ?_)
      (refine F_call (v := .int .i64 c1) (by rfl) (by rfl) ?_ ?_; (· (intro W hW; (try dsimp only at hW); go_simp; refine (num_CmpE x bn c1 _ _ _ _ _ _ _ _ _ (HN2.out.ext hW.1) (NR1.out.ext hW.1) C1.out).mono ?_; rintro e w' ⟨rfl, hx⟩; exact ⟨_, rfl, rfl, hx⟩))); refine F_put ?_
      repeat (first | refine F_s ?_ | refine F_r ?_)
      (refine F_call (v := .int .i64 c2) (by rfl) (by rfl) ?_ ?_; (· (intro W hW; (try dsimp only at hW); go_simp; refine (num_CmpE y bd c2 _ _ _ _ _ _ _ _ _ (HD2.out.ext hW.1) (NR2.out.ext hW.1) C2.out).mono ?_; rintro e w' ⟨rfl, hx⟩; exact ⟨_, rfl, rfl, hx⟩))); refine F_put ?_
      repeat (first | refine F_s ?_ | refine F_r ?_)
      rintro W3 ⟨hx, _⟩
      go_wp2
      go_ret
      refine ⟨?_, Ext.step ex hx⟩
      rw [RES.out, V.out, f1, f2]
      first | rfl | simp
    · have f2 : (c1 == 0) = false := by simpa using b2
      have B2 := Lib.hid b2
      clear b2
      refine wp_FS (fun W => W.cell? ⟨w.heap.size, 0, none⟩ = some (.int .i64 add) ∧ W.cell? ⟨w.heap.size, 1, none⟩ = some (.int .i64 s) ∧ W.cell? ⟨w.heap.size, 2, none⟩ = some (.bool n) ∧ W.cell? ⟨w.heap.size, 3, none⟩ = some (.slice p l c) ∧ W.cell? ⟨w.heap.size, 4, none⟩ = some (.bool m) ∧ W.cell? ⟨w.heap.size, 5, none⟩ = some (.slice q k d) ∧ W.cell? ⟨g, 0, none⟩ = some (.int .i64 ba) ∧ W.cell? ⟨g, 1, none⟩ = some (.int .i64 bs) ∧ W.cell? ⟨g, 2, none⟩ = some (.bool n1) ∧ W.cell? ⟨g, 3, none⟩ = some (.slice p1 l1 c1') ∧ W.cell? ⟨g, 4, none⟩ = some (.bool m1) ∧ W.cell? ⟨g, 5, none⟩ = some (.slice q1 k1 d1)) ?_
      repeat (first | refine F_s ?_ | refine F_r ?_)
      (refine F_call (v := .int .i64 c1) (by rfl) (by rfl) ?_ ?_; (· (intro W hW; (try dsimp only at hW); go_simp; refine (num_CmpE x bn c1 _ _ _ _ _ _ _ _ _ (HN2.out.ext hW.1) (NR1.out.ext hW.1) C1.out).mono ?_; rintro e w' ⟨rfl, hx⟩; exact ⟨_, rfl, rfl, hx⟩))); refine F_put ?_
      repeat (first | refine F_s ?_ | refine F_r ?_)
      rintro W3 ⟨hx, _⟩
      go_wp2
      go_ret
      refine ⟨?_, Ext.step ex hx⟩
      rw [RES.out, f1, f2]
      first | rfl | simp
  · have f1 : (bs == s) = false := by simpa using b1
    have B1 := Lib.hid b1
    clear b1
    refine wp_FS (fun W => W.cell? ⟨w.heap.size, 0, none⟩ = some (.int .i64 add) ∧ W.cell? ⟨w.heap.size, 1, none⟩ = some (.int .i64 s) ∧ W.cell? ⟨w.heap.size, 2, none⟩ = some (.bool n) ∧ W.cell? ⟨w.heap.size, 3, none⟩ = some (.slice p l c) ∧ W.cell? ⟨w.heap.size, 4, none⟩ = some (.bool m) ∧ W.cell? ⟨w.heap.size, 5, none⟩ = some (.slice q k d) ∧ W.cell? ⟨g, 0, none⟩ = some (.int .i64 ba) ∧ W.cell? ⟨g, 1, none⟩ = some (.int .i64 bs) ∧ W.cell? ⟨g, 2, none⟩ = some (.bool n1) ∧ W.cell? ⟨g, 3, none⟩ = some (.slice p1 l1 c1') ∧ W.cell? ⟨g, 4, none⟩ = some (.bool m1) ∧ W.cell? ⟨g, 5, none⟩ = some (.slice q1 k1 d1)) ?_
    repeat (first | refine F_s ?_ | refine F_r ?_)
    rintro W3 ⟨hx, _⟩
    go_wp2
    go_ret
    refine ⟨?_, Ext.step ex hx⟩
    rw [RES.out, f1]
    first | rfl | simp
end Go.Proofs.YtghgggaimijcaaaDoor
