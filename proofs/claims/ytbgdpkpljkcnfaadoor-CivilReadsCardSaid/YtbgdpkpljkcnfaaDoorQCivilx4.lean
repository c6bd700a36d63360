/- What the Go functions compute: each as a Lean function, with the proof that its call answers so; written by a program of this session over the kit's print. Conditions: each theorem's own. -/
import Derived.Test.YtbgdpkpljkcnfaaDoorQCivilx0
import Derived.Test.YtbgdpkpljkcnfaaDoorQCivilx3
namespace Go.Proofs.YtbgdpkpljkcnfaaDoor.QCivil
open Go.RowKit Go.Proofs.YtbgdpkpljkcnfaaDoorW.PrintWords Go.Proofs.YtbgdpkpljkcnfaaDoorW.PrintLast Go.Proofs.YtbgdpkpljkcnfaaDoorW.PrintMore
attribute [local go_sem] max2_int min2_int max_two min_two max_three min_three max_four min_four   -- for this text's walks alone
set_option linter.unusedVariables false
set_option linter.unusedSimpArgs false

/-! ### civil_Of: function 15 -/
mutual
def civil_Of.j0 : Nat → Int → Bool → Option (Int × Int × Int × Int)
  | 0, _, _ => none
  | k + 1, x0, x15 => if x15 = true then (some (0, 0, 0, 1)) else ((civil_down.f (wrap64 (x0 + 719528)) 366).bind fun t114 => (if (wrap64 (x0 + 719528)) < 0 then ((civil_down.f (wrap64 (x0 + 719528)) 365).bind fun t116 => (civil_Of.j1 k (wrap64 (x0 + 719528)) t116 1 0)) else (civil_Of.j1 k (wrap64 (x0 + 719528)) t114 1 0)))
def civil_Of.j1 : Nat → Int → Int → Int → Int → Option (Int × Int × Int × Int)
  | 0, _, _, _, _ => none
  | k + 1, x4, x116000, x116001, x116002 => civil_Of.l0 k x4 x116000 x116001 x116002
def civil_Of.l0 : Nat → Int → Int → Int → Int → Option (Int × Int × Int × Int)
  | 0, _, _, _, _ => none
  | k + 1, x4, x116000, x116001, x116002 => (civil_start.f (wrap64 (x116000 + 1))).bind fun t117 => (if t117 ≤ x4 then (civil_Of.l0 k x4 (wrap64 (x116000 + 1)) x116001 x116002) else ((civil_start.f x116000).bind fun t118 => (civil_Of.l1 k (wrap64 (x4 - t118)) x116000 x116001 x116002)))
def civil_Of.l1 : Nat → Int → Int → Int → Int → Option (Int × Int × Int × Int)
  | 0, _, _, _, _ => none
  | k + 1, x4, x116000, x116001, x116002 => (civil_Length.f k x116000 x116001).bind fun t119 => (if x4 ≥ t119 then ((civil_Length.f k x116000 x116001).bind fun t120 => (civil_Of.l1 k (wrap64 (x4 - t120)) x116000 (wrap64 (x116001 + 1)) x116002)) else (some (x116000, x116001, wrap64 (x4 + 1), 0)))
end
def civil_Of.f (k : Nat) (a0 : Int) : Option (Int × Int × Int × Int) := (civil_start.f (-9999)).bind fun t112 => (if a0 < (wrap64 (t112 - 719528)) then (civil_Of.j0 k a0 true) else ((civil_start.f 10000).bind fun t113 => (civil_Of.j0 k a0 (decide (a0 ≥ (wrap64 (t113 - 719528)))))))
theorem civil_Of.mono_l : ∀ k, (∀ y0 y1, LeO (civil_Of.j0 k y0 y1) (civil_Of.j0 (k + 1) y0 y1)) ∧ (∀ y0 y1 y2 y3, LeO (civil_Of.j1 k y0 y1 y2 y3) (civil_Of.j1 (k + 1) y0 y1 y2 y3)) ∧ (∀ y0 y1 y2 y3, LeO (civil_Of.l0 k y0 y1 y2 y3) (civil_Of.l0 (k + 1) y0 y1 y2 y3)) ∧ (∀ y0 y1 y2 y3, LeO (civil_Of.l1 k y0 y1 y2 y3) (civil_Of.l1 (k + 1) y0 y1 y2 y3))
  | 0 => ⟨fun _ _ r h => by simp [civil_Of.j0] at h, fun _ _ _ _ r h => by simp [civil_Of.j1] at h, fun _ _ _ _ r h => by simp [civil_Of.l0] at h, fun _ _ _ _ r h => by simp [civil_Of.l1] at h⟩
  | k + 1 => by
    obtain ⟨ih0, ih1, ih2, ih3⟩ := civil_Of.mono_l k
    refine ⟨?_, ?_, ?_, ?_⟩
    · intro y0 y1
      unfold civil_Of.j0
      repeat' first
      | (with_reducible exact ih0 _ _)
      | (with_reducible exact ih1 _ _ _ _)
      | (with_reducible exact ih2 _ _ _ _)
      | (with_reducible exact ih3 _ _ _ _)
      | (with_reducible exact civil_Length.mono _ _ _)
      | (with_reducible exact LeO.refl _)
      | (with_reducible exact LeO.none _)
      | (with_reducible refine LeO.ite ?_ ?_)
      | (with_reducible refine LeO.bind ?_ (fun _ => ?_))
      | exact ih0 _ _
      | exact ih1 _ _ _ _
      | exact ih2 _ _ _ _
      | exact ih3 _ _ _ _
      | exact civil_Length.mono _ _ _
      | exact LeO.none _
      | refine LeO.ite ?_ ?_
      | refine LeO.bind ?_ (fun _ => ?_)
    · intro y0 y1 y2 y3
      unfold civil_Of.j1
      repeat' first
      | (with_reducible exact ih0 _ _)
      | (with_reducible exact ih1 _ _ _ _)
      | (with_reducible exact ih2 _ _ _ _)
      | (with_reducible exact ih3 _ _ _ _)
      | (with_reducible exact civil_Length.mono _ _ _)
      | (with_reducible exact LeO.refl _)
      | (with_reducible exact LeO.none _)
      | (with_reducible refine LeO.ite ?_ ?_)
      | (with_reducible refine LeO.bind ?_ (fun _ => ?_))
      | exact ih0 _ _
      | exact ih1 _ _ _ _
      | exact ih2 _ _ _ _
      | exact ih3 _ _ _ _
      | exact civil_Length.mono _ _ _
      | exact LeO.none _
      | refine LeO.ite ?_ ?_
      | refine LeO.bind ?_ (fun _ => ?_)
    · intro y0 y1 y2 y3
      unfold civil_Of.l0
      repeat' first
      | (with_reducible exact ih0 _ _)
      | (with_reducible exact ih1 _ _ _ _)
      | (with_reducible exact ih2 _ _ _ _)
      | (with_reducible exact ih3 _ _ _ _)
      | (with_reducible exact civil_Length.mono _ _ _)
      | (with_reducible exact LeO.refl _)
      | (with_reducible exact LeO.none _)
      | (with_reducible refine LeO.ite ?_ ?_)
      | (with_reducible refine LeO.bind ?_ (fun _ => ?_))
      | exact ih0 _ _
      | exact ih1 _ _ _ _
      | exact ih2 _ _ _ _
      | exact ih3 _ _ _ _
      | exact civil_Length.mono _ _ _
      | exact LeO.none _
      | refine LeO.ite ?_ ?_
      | refine LeO.bind ?_ (fun _ => ?_)
    · intro y0 y1 y2 y3
      unfold civil_Of.l1
      repeat' first
      | (with_reducible exact ih0 _ _)
      | (with_reducible exact ih1 _ _ _ _)
      | (with_reducible exact ih2 _ _ _ _)
      | (with_reducible exact ih3 _ _ _ _)
      | (with_reducible exact civil_Length.mono _ _ _)
      | (with_reducible exact LeO.refl _)
      | (with_reducible exact LeO.none _)
      | (with_reducible refine LeO.ite ?_ ?_)
      | (with_reducible refine LeO.bind ?_ (fun _ => ?_))
      | exact ih0 _ _
      | exact ih1 _ _ _ _
      | exact ih2 _ _ _ _
      | exact ih3 _ _ _ _
      | exact civil_Length.mono _ _ _
      | exact LeO.none _
      | refine LeO.ite ?_ ?_
      | refine LeO.bind ?_ (fun _ => ?_)
theorem civil_Of.mono : ∀ a0 k, LeO (civil_Of.f k a0) (civil_Of.f (k + 1) a0) := by
  intro a0 k
  obtain ⟨ih0, ih1, ih2, ih3⟩ := civil_Of.mono_l k
  unfold civil_Of.f
  repeat' first
      | (with_reducible exact ih0 _ _)
      | (with_reducible exact ih1 _ _ _ _)
      | (with_reducible exact ih2 _ _ _ _)
      | (with_reducible exact ih3 _ _ _ _)
      | (with_reducible exact civil_Length.mono _ _ _)
      | (with_reducible exact LeO.refl _)
      | (with_reducible exact LeO.none _)
      | (with_reducible refine LeO.ite ?_ ?_)
      | (with_reducible refine LeO.bind ?_ (fun _ => ?_))
      | exact ih0 _ _
      | exact ih1 _ _ _ _
      | exact ih2 _ _ _ _
      | exact ih3 _ _ _ _
      | exact civil_Length.mono _ _ _
      | exact LeO.none _
      | refine LeO.ite ?_ ?_
      | refine LeO.bind ?_ (fun _ => ?_)
set_option maxHeartbeats 8000000 in
set_option maxRecDepth 100000 in
theorem civil_Of.calls (k : Nat) (a0 : Int) (r1 : Int) (r2 : Int) (r3 : Int) (r4 : Int) (w : World) (h : civil_Of.f k a0 = some (r1, r2, r3, r4)) :
    Calls Tryd.prog 15 #[.int .i64 a0] w fun e w' => e = .returned (.tuple #[.agg #[.int .i64 r1, .int .i64 r2, .int .i64 r3], .int .i64 r4]) ∧ Below w.heap.size w w' := by
  have hu23 := Tryd.underlying23
  have HB := Aside0.mk (Below.refl w.heap.size w)
  have H : ((civil_start.f (-9999)).bind fun t112 => (if a0 < (wrap64 (t112 - 719528)) then (civil_Of.j0 k a0 true) else ((civil_start.f 10000).bind fun t113 => (civil_Of.j0 k a0 (decide (a0 ≥ (wrap64 (t113 - 719528)))))))) = some (r1, r2, r3, r4) := h
  clear h
  have HC2 := Aside0.mk H
  clear H
  go_enter Tryd.func15, Tryd.ntmps15
  go_upto_region 1 with (first | ((with_reducible refine gate_dst (N := 2) rfl ?_); refine box_event ?hg (N := 2) ?hd (cs := #[.int .i64 0, .int .i64 0, .int .i64 0]) (t := 23) ?hr ?_; (case hd => rfl); (case hg => rfl); (case hr => first | (go_simp; done) | (go_simp; rfl)); intro gb111 hg w3 hbox hb; have n0_ := Aside0.mk (below_step (by repeat (first | (with_reducible first | exact HB.out | apply below_alloc | apply pw_below_drewN | apply below_drew1) | exact HB.out)) hb); have n1_ := Aside0.mk (hbox); have n2_ := Aside0.mk ((by rw [hg]; exact (below_size (by repeat (first | (with_reducible first | exact HB.out | apply below_alloc | apply pw_below_drewN | apply below_drew1) | exact HB.out))) : w.heap.size ≤ gb111)); have n3_ := Aside0.mk ((by rw [hg]; exact (below_size (by repeat (first | (with_reducible first | exact HB.out | apply below_alloc | apply pw_below_drewN | apply below_drew1) | exact HB.out))) : w.heap.size ≤ gb111)); clear HB; have HB := n0_; have BK111 := n1_; have GW111 := n2_; have GE111 := n3_; clear n0_ n1_ n2_ n3_; clear hb hbox hg))
  (try simp only [Act.put, List.setIfInBounds_toArray, List.set_cons_zero, List.set_cons_succ])
  go_cut [15] (fun v15 wc => ∃ (kq : Nat) (x15_1 : Bool), v15 = .bool x15_1 ∧ Aside0 (civil_Of.j0 kq a0 x15_1 = some (r1, r2, r3, r4)) ∧ Aside0 (kq ≤ k) ∧ Aside0 (wc.heap[gb111]? = some (.cells #[.int .i64 0, .int .i64 0, .int .i64 0] 23 (0, 0))) ∧ Aside0 (Below w.heap.size w wc))
  case first =>
    have H := HC2.out
    clear HC2
    replace H := Option.bind_eq_some_iff.mp H
    obtain ⟨t112, A40, H⟩ := H
    replace H : (if a0 < (wrap64 (t112 - 719528)) then (civil_Of.j0 k a0 true) else ((civil_start.f 10000).bind fun t113 => (civil_Of.j0 k a0 (decide (a0 ≥ (wrap64 (t113 - 719528))))))) = some (r1, r2, r3, r4) := H
    have A4 := Aside0.mk A40
    clear A40
    by_cases c5 : a0 < (wrap64 (t112 - 719528))
    · rw [if_pos c5] at H
      have c5b0 : decide (a0 < (wrap64 (t112 - 719528))) = true := decide_eq_true c5
      clear c5
      (first | rw [c5b0] | (simp only [i64_w, i32_w]; rw [c5b0]) | skip)
      have H' := Aside0.mk H
      clear H
      go_wp2_with (first | ((with_reducible refine gate_callee (f := 28) rfl ?_); refine goesL_ (some 7) rfl rfl Tryd.func28 (by kernel_rfl) rfl #[.int .i64 (-9999)] rfl (by (try simp only [List.map_toArray, List.map_cons, List.map_nil]); first | done | rfl | (simp only [List.length_drop, List.length_take]; rfl)) ?_; (with_reducible refine (civil_start.calls (-9999) t112 _ A4.out).mono ?_); rintro e w' ⟨rfl, ⟨nd, rfl⟩⟩; refine ⟨_, rfl, ?_⟩))
      go_meet
      case rel => exact ⟨_, (true), (by first | rfl | (simp; done) | (simp [*]; done)), H', ⟨by first | omega | exact Nat.le_refl _⟩, ⟨by (with_reducible repeat (first | refine blk_drewN ?_ _ | refine blk_drew ?_ | refine blk_alloc ?_ _)); exact BK111.out⟩, ⟨by repeat (first | (with_reducible first | exact HB.out | apply below_alloc | apply pw_below_drewN | apply below_drew1 | refine below_set ?_ GE111.out) | exact HB.out)⟩⟩
    · rw [if_neg c5] at H
      have c5b0 : decide (a0 < (wrap64 (t112 - 719528))) = false := decide_eq_false c5
      clear c5
      (first | rw [c5b0] | (simp only [i64_w, i32_w]; rw [c5b0]) | skip)
      replace H := Option.bind_eq_some_iff.mp H
      obtain ⟨t113, A60, H⟩ := H
      replace H : (civil_Of.j0 k a0 (decide (a0 ≥ (wrap64 (t113 - 719528))))) = some (r1, r2, r3, r4) := H
      have A6 := Aside0.mk A60
      clear A60
      have H' := Aside0.mk H
      clear H
      go_wp2_with (first | ((with_reducible refine gate_callee (f := 28) rfl ?_); refine goesL_ (some 7) rfl rfl Tryd.func28 (by kernel_rfl) rfl #[.int .i64 (-9999)] rfl (by (try simp only [List.map_toArray, List.map_cons, List.map_nil]); first | done | rfl | (simp only [List.length_drop, List.length_take]; rfl)) ?_; (with_reducible refine (civil_start.calls (-9999) t112 _ A4.out).mono ?_); rintro e w' ⟨rfl, ⟨nd, rfl⟩⟩; refine ⟨_, rfl, ?_⟩) | (go_at_call 28; (with_reducible refine (civil_start.calls 10000 t113 _ A6.out).mono ?_); rintro e w' ⟨rfl, ⟨nd, rfl⟩⟩))
      go_meet
      case rel => exact ⟨_, (decide (a0 ≥ (wrap64 (t113 - 719528)))), (by first | rfl | (simp; done) | (simp [*]; done)), H', ⟨by first | omega | exact Nat.le_refl _⟩, ⟨by (with_reducible repeat (first | refine blk_drewN ?_ _ | refine blk_drew ?_ | refine blk_alloc ?_ _)); exact BK111.out⟩, ⟨by repeat (first | (with_reducible first | exact HB.out | apply below_alloc | apply pw_below_drewN | apply below_drew1 | refine below_set ?_ GE111.out) | exact HB.out)⟩⟩
  case rest =>
    clear HC2
    try clear c1
    try clear c2
    try clear p2
    try clear c5
    try clear c5b0
    try clear p6
    obtain ⟨kq, x15_1, rfl, HA, HJ1, BK111, HB⟩ := hcut
    cases kq with
    | zero => exact absurd HA.out (by simp [civil_Of.j0])
    | succ kj1 =>
      have H := HA.out
      clear HA
      simp only [civil_Of.j0] at H
      by_cases c7 : x15_1 = true
      · subst c7
        have H1 : (some (0, 0, 0, 1)) = some (r1, r2, r3, r4) := by rw [if_pos rfl] at H; exact H
        clear H
        have H := H1
        clear H1
        simp only [Option.some.injEq, Prod.mk.injEq] at H
        obtain ⟨rfl, rfl, rfl, rfl⟩ := H
        have hcz8_0 : wc.cell? ⟨gb111, 0, none⟩ = some (.int .i64 0) := (blk_cell BK111.out 0).trans rfl
        have hcz8_1 : wc.cell? ⟨gb111, 1, none⟩ = some (.int .i64 0) := (blk_cell BK111.out 1).trans rfl
        have hcz8_2 : wc.cell? ⟨gb111, 2, none⟩ = some (.int .i64 0) := (blk_cell BK111.out 2).trans rfl
        have hfz8_0 := blk_frozen BK111.out 0
        have hfz8_1 := blk_frozen BK111.out 1
        have hfz8_2 := blk_frozen BK111.out 2
        go_wp2
        refine bodyPost_ret (results_ct rfl _ _ gb111 23 #[.int .i64 0, .int .i64 0, .int .i64 0] (0, 0) _ rfl (by (with_reducible repeat (first | refine blk_drewN ?_ _ | refine blk_drew ?_ | refine blk_alloc ?_ _)); refine blk_put (cs := #[.int .i64 0, .int .i64 0, .int .i64 0]) ?_ 2 _ rfl; (with_reducible repeat (first | refine blk_drewN ?_ _ | refine blk_drew ?_ | refine blk_alloc ?_ _)); refine blk_put (cs := #[.int .i64 0, .int .i64 0, .int .i64 0]) ?_ 1 _ rfl; (with_reducible repeat (first | refine blk_drewN ?_ _ | refine blk_drew ?_ | refine blk_alloc ?_ _)); refine blk_put (cs := #[.int .i64 0, .int .i64 0, .int .i64 0]) ?_ 0 _ rfl; (with_reducible repeat (first | refine blk_drewN ?_ _ | refine blk_drew ?_ | refine blk_alloc ?_ _)); exact BK111.out) Tryd.underlying23 rfl (by kernel_rfl)) rfl ?_
        exact ⟨by first | rfl | (simp [errW_none, errW_some] <;> rfl) | (simp [*, errW_none, errW_some] <;> rfl), by repeat (first | (with_reducible first | exact HB.out | apply below_alloc | apply pw_below_drewN | apply below_drew1 | refine below_set ?_ GE111.out) | exact HB.out)⟩
      · replace c7 := Bool.eq_false_iff.mpr c7
        subst c7
        have H1 : ((civil_down.f (wrap64 (a0 + 719528)) 366).bind fun t114 => (if (wrap64 (a0 + 719528)) < 0 then ((civil_down.f (wrap64 (a0 + 719528)) 365).bind fun t116 => (civil_Of.j1 kj1 (wrap64 (a0 + 719528)) t116 1 0)) else (civil_Of.j1 kj1 (wrap64 (a0 + 719528)) t114 1 0))) = some (r1, r2, r3, r4) := by rw [if_neg (show ¬ (false = true) by decide)] at H; exact H
        clear H
        have H := H1
        clear H1
        replace H := Option.bind_eq_some_iff.mp H
        obtain ⟨t114, A90, H⟩ := H
        replace H : (if (wrap64 (a0 + 719528)) < 0 then ((civil_down.f (wrap64 (a0 + 719528)) 365).bind fun t116 => (civil_Of.j1 kj1 (wrap64 (a0 + 719528)) t116 1 0)) else (civil_Of.j1 kj1 (wrap64 (a0 + 719528)) t114 1 0)) = some (r1, r2, r3, r4) := H
        have A9 := Aside0.mk A90
        clear A90
        have HC10 := Aside0.mk H
        clear H
        go_upto_if 23 with (first | ((with_reducible refine gate_callee (f := 31) rfl ?_); refine goesL_ (some 20) rfl rfl Tryd.func31 (by kernel_rfl) rfl #[.int .i64 (wrap64 (a0 + 719528)), .int .i64 366] rfl (by (try simp only [List.map_toArray, List.map_cons, List.map_nil]); first | done | rfl | (simp only [List.length_drop, List.length_take]; rfl)) ?_; (with_reducible refine (civil_down.calls (wrap64 (a0 + 719528)) 366 t114 _ A9.out).mono ?_); rintro e w' ⟨rfl, ⟨nd, rfl⟩⟩; refine ⟨_, rfl, ?_⟩) | ((with_reducible refine gate_dst (N := 5) rfl ?_); refine box_event ?hg (N := 5) ?hd (cs := #[.int .i64 0, .int .i64 0, .int .i64 0]) (t := 23) ?hr ?_; (case hd => rfl); (case hg => rfl); (case hr => first | (go_simp; done) | (go_simp; rfl)); intro gb115 hg w11 hbox hb; have n0_ := Aside0.mk (blk_below (g := gb111) (o := .cells #[.int .i64 0, .int .i64 0, .int .i64 0] 23 (0, 0)) (by (with_reducible repeat (first | refine blk_drewN ?_ _ | refine blk_drew ?_ | refine blk_alloc ?_ _)); exact BK111.out) hb); have n1_ := Aside0.mk (below_step (by repeat (first | (with_reducible first | exact HB.out | apply below_alloc | apply pw_below_drewN | apply below_drew1 | refine below_set ?_ GE111.out) | exact HB.out)) hb); have n2_ := Aside0.mk (hbox); have n3_ := Aside0.mk ((by rw [hg]; exact (below_size (by repeat (first | (with_reducible first | exact HB.out | apply below_alloc | apply pw_below_drewN | apply below_drew1 | refine below_set ?_ GE111.out) | exact HB.out))) : w.heap.size ≤ gb115)); have n4_ := Aside0.mk ((by rw [hg]; exact (below_size (by repeat (first | (with_reducible first | exact HB.out | apply below_alloc | apply pw_below_drewN | apply below_drew1 | refine below_set ?_ GE111.out) | exact HB.out))) : w.heap.size ≤ gb115)); have n5_ := Aside0.mk ((by rw [hg]; exact Nat.ne_of_lt (blk_lt (g := gb111) (o := .cells #[.int .i64 0, .int .i64 0, .int .i64 0] 23 (0, 0)) (by (with_reducible repeat (first | refine blk_drewN ?_ _ | refine blk_drew ?_ | refine blk_alloc ?_ _)); exact BK111.out)) : gb111 ≠ gb115)); have n6_ := Aside0.mk ((by rw [hg]; exact Nat.ne_of_gt (blk_lt (g := gb111) (o := .cells #[.int .i64 0, .int .i64 0, .int .i64 0] 23 (0, 0)) (by (with_reducible repeat (first | refine blk_drewN ?_ _ | refine blk_drew ?_ | refine blk_alloc ?_ _)); exact BK111.out)) : gb115 ≠ gb111)); clear BK111; clear HB; have BK111 := n0_; have HB := n1_; have BK115 := n2_; have GW115 := n3_; have GE115 := n4_; have NB111_115 := n5_; have NB115_111 := n6_; clear n0_ n1_ n2_ n3_ n4_ n5_ n6_; clear hb hbox hg; have hnb12 := NB115_111.out; have hnc12 := NB111_115.out; have hcz13_0 : w11.cell? ⟨gb115, 0, none⟩ = some (.int .i64 0) := (blk_cell BK115.out 0).trans rfl; have hcz13_1 : w11.cell? ⟨gb115, 1, none⟩ = some (.int .i64 0) := (blk_cell BK115.out 1).trans rfl; have hcz13_2 : w11.cell? ⟨gb115, 2, none⟩ = some (.int .i64 0) := (blk_cell BK115.out 2).trans rfl; have hfz13_0 := blk_frozen BK115.out 0; have hfz13_1 := blk_frozen BK115.out 1; have hfz13_2 := blk_frozen BK115.out 2))
        (try simp only [Act.put, List.setIfInBounds_toArray, List.set_cons_zero, List.set_cons_succ])
        go_cut [] (fun wc => ∃ (kq : Nat) (x116000_9 : Int), Aside0 (civil_Of.j1 kq (wrap64 (a0 + 719528)) x116000_9 1 0 = some (r1, r2, r3, r4)) ∧ Aside0 (kq ≤ kj1) ∧ Aside0 (wc.heap[gb111]? = some (.cells #[.int .i64 0, .int .i64 0, .int .i64 0] 23 (0, 0))) ∧ Aside0 (wc.heap[gb115]? = some (.cells #[.int .i64 x116000_9, .int .i64 1, .int .i64 0] 23 (0, 0))) ∧ Aside0 (Below w.heap.size w wc))
        case first =>
          have H := HC10.out
          clear HC10
          by_cases c14 : (wrap64 (a0 + 719528)) < 0
          · rw [if_pos c14] at H
            have c14b0 : decide ((wrap64 (a0 + 719528)) < 0) = true := decide_eq_true c14
            clear c14
            (first | rw [c14b0] | (simp only [i64_w, i32_w]; rw [c14b0]) | skip)
            replace H := Option.bind_eq_some_iff.mp H
            obtain ⟨t116, A150, H⟩ := H
            replace H : (civil_Of.j1 kj1 (wrap64 (a0 + 719528)) t116 1 0) = some (r1, r2, r3, r4) := H
            have A15 := Aside0.mk A150
            clear A150
            have H' := Aside0.mk H
            clear H
            go_wp2_with (first | ((with_reducible refine gate_callee (f := 31) rfl ?_); refine goesL_ (some 25) rfl rfl Tryd.func31 (by kernel_rfl) rfl #[.int .i64 (wrap64 (a0 + 719528)), .int .i64 365] rfl (by (try simp only [List.map_toArray, List.map_cons, List.map_nil]); first | done | rfl | (simp only [List.length_drop, List.length_take]; rfl)) ?_; (with_reducible refine (civil_down.calls (wrap64 (a0 + 719528)) 365 t116 _ A15.out).mono ?_); rintro e w' ⟨rfl, ⟨nd, rfl⟩⟩; refine ⟨_, rfl, ?_⟩; have hnb16 := NB115_111.out; have hnc16 := NB111_115.out; have hcz17_0 : w11.cell? ⟨gb115, 0, none⟩ = some (.int .i64 0) := (blk_cell BK115.out 0).trans rfl; have hcz17_1 : w11.cell? ⟨gb115, 1, none⟩ = some (.int .i64 0) := (blk_cell BK115.out 1).trans rfl; have hcz17_2 : w11.cell? ⟨gb115, 2, none⟩ = some (.int .i64 0) := (blk_cell BK115.out 2).trans rfl; have hfz17_0 := blk_frozen BK115.out 0; have hfz17_1 := blk_frozen BK115.out 1; have hfz17_2 := blk_frozen BK115.out 2))
            go_meet
            case rel => exact ⟨_, (t116), H', ⟨by have := HJ1.out; first | omega | exact Nat.le_refl _⟩, ⟨by (with_reducible repeat (first | refine blk_drewN ?_ _ | refine blk_drew ?_ | refine blk_alloc ?_ _)); refine blk_far ?_ NB111_115.out _; (with_reducible repeat (first | refine blk_drewN ?_ _ | refine blk_drew ?_ | refine blk_alloc ?_ _)); refine blk_far ?_ NB111_115.out _; (with_reducible repeat (first | refine blk_drewN ?_ _ | refine blk_drew ?_ | refine blk_alloc ?_ _)); refine blk_far ?_ NB111_115.out _; (with_reducible repeat (first | refine blk_drewN ?_ _ | refine blk_drew ?_ | refine blk_alloc ?_ _)); refine blk_far ?_ NB111_115.out _; (with_reducible repeat (first | refine blk_drewN ?_ _ | refine blk_drew ?_ | refine blk_alloc ?_ _)); exact BK111.out⟩, ⟨by (with_reducible repeat (first | refine blk_drewN ?_ _ | refine blk_drew ?_ | refine blk_alloc ?_ _)); refine blk_put (cs := #[.int .i64 t114, .int .i64 1, .int .i64 0]) ?_ 0 _ rfl; (with_reducible repeat (first | refine blk_drewN ?_ _ | refine blk_drew ?_ | refine blk_alloc ?_ _)); refine blk_put (cs := #[.int .i64 t114, .int .i64 1, .int .i64 0]) ?_ 2 _ rfl; (with_reducible repeat (first | refine blk_drewN ?_ _ | refine blk_drew ?_ | refine blk_alloc ?_ _)); refine blk_put (cs := #[.int .i64 t114, .int .i64 0, .int .i64 0]) ?_ 1 _ rfl; (with_reducible repeat (first | refine blk_drewN ?_ _ | refine blk_drew ?_ | refine blk_alloc ?_ _)); refine blk_put (cs := #[.int .i64 0, .int .i64 0, .int .i64 0]) ?_ 0 _ rfl; (with_reducible repeat (first | refine blk_drewN ?_ _ | refine blk_drew ?_ | refine blk_alloc ?_ _)); exact BK115.out⟩, ⟨by repeat (first | (with_reducible first | exact HB.out | apply below_alloc | apply pw_below_drewN | apply below_drew1 | refine below_set ?_ GE111.out | refine below_set ?_ GE115.out) | exact HB.out)⟩⟩
          · rw [if_neg c14] at H
            have c14b0 : decide ((wrap64 (a0 + 719528)) < 0) = false := decide_eq_false c14
            clear c14
            (first | rw [c14b0] | (simp only [i64_w, i32_w]; rw [c14b0]) | skip)
            have H' := Aside0.mk H
            clear H
            go_wp2
            go_meet
            case rel => exact ⟨_, (t114), H', ⟨by have := HJ1.out; first | omega | exact Nat.le_refl _⟩, ⟨by (with_reducible repeat (first | refine blk_drewN ?_ _ | refine blk_drew ?_ | refine blk_alloc ?_ _)); refine blk_far ?_ NB111_115.out _; (with_reducible repeat (first | refine blk_drewN ?_ _ | refine blk_drew ?_ | refine blk_alloc ?_ _)); refine blk_far ?_ NB111_115.out _; (with_reducible repeat (first | refine blk_drewN ?_ _ | refine blk_drew ?_ | refine blk_alloc ?_ _)); refine blk_far ?_ NB111_115.out _; (with_reducible repeat (first | refine blk_drewN ?_ _ | refine blk_drew ?_ | refine blk_alloc ?_ _)); exact BK111.out⟩, ⟨by (with_reducible repeat (first | refine blk_drewN ?_ _ | refine blk_drew ?_ | refine blk_alloc ?_ _)); refine blk_put (cs := #[.int .i64 t114, .int .i64 1, .int .i64 0]) ?_ 2 _ rfl; (with_reducible repeat (first | refine blk_drewN ?_ _ | refine blk_drew ?_ | refine blk_alloc ?_ _)); refine blk_put (cs := #[.int .i64 t114, .int .i64 0, .int .i64 0]) ?_ 1 _ rfl; (with_reducible repeat (first | refine blk_drewN ?_ _ | refine blk_drew ?_ | refine blk_alloc ?_ _)); refine blk_put (cs := #[.int .i64 0, .int .i64 0, .int .i64 0]) ?_ 0 _ rfl; (with_reducible repeat (first | refine blk_drewN ?_ _ | refine blk_drew ?_ | refine blk_alloc ?_ _)); exact BK115.out⟩, ⟨by repeat (first | (with_reducible first | exact HB.out | apply below_alloc | apply pw_below_drewN | apply below_drew1 | refine below_set ?_ GE111.out | refine below_set ?_ GE115.out) | exact HB.out)⟩⟩
        case rest =>
          clear HC10
          try clear c1
          try clear c2
          try clear p2
          try clear c3
          try clear c5
          try clear c5b0
          try clear p6
          try clear c7
          try clear c12
          try clear c14
          try clear c14b0
          try clear c15
          try clear c16
          try clear hcz13_0
          try clear hcz13_1
          try clear hcz13_2
          try clear hcz17_0
          try clear hcz17_1
          try clear hcz17_2
          try clear hcz8_0
          try clear hcz8_1
          try clear hcz8_2
          try clear hfz13_0
          try clear hfz13_1
          try clear hfz13_2
          try clear hfz17_0
          try clear hfz17_1
          try clear hfz17_2
          try clear hfz8_0
          try clear hfz8_1
          try clear hfz8_2
          try clear p2
          try clear p6
          obtain ⟨kq, x116000_9, HA, HJ9, BK111, BK115, HB⟩ := hcut
          cases kq with
          | zero => exact absurd HA.out (by simp [civil_Of.j1])
          | succ kj9 =>
            have H := HA.out
            clear HA
            simp only [civil_Of.j1] at H
            have H' := Aside0.mk H
            clear H
            go_wp2
            go_loopg [] kj9 (fun kq w' => ∃ (x116000_3 : Int), Aside0 (civil_Of.l0 kq (wrap64 (a0 + 719528)) x116000_3 1 0 = some (r1, r2, r3, r4)) ∧ Aside0 (kq ≤ kj9) ∧ Aside0 (w'.heap[gb111]? = some (.cells #[.int .i64 0, .int .i64 0, .int .i64 0] 23 (0, 0))) ∧ Aside0 (w'.heap[gb115]? = some (.cells #[.int .i64 x116000_3, .int .i64 1, .int .i64 0] 23 (0, 0))) ∧ Aside0 (Below w.heap.size w w'))
            case atStart => exact ⟨(x116000_9), H', ⟨Nat.le_refl _⟩, ⟨by (with_reducible repeat (first | refine blk_drewN ?_ _ | refine blk_drew ?_ | refine blk_alloc ?_ _)); exact BK111.out⟩, ⟨by (with_reducible repeat (first | refine blk_drewN ?_ _ | refine blk_drew ?_ | refine blk_alloc ?_ _)); exact BK115.out⟩, ⟨by repeat (first | (with_reducible first | exact HB.out | apply below_alloc | apply pw_below_drewN | apply below_drew1 | refine below_set ?_ GE111.out | refine below_set ?_ GE115.out) | exact HB.out)⟩⟩
            case round =>
              clear H'
              try clear c1
              try clear c2
              try clear p2
              try clear c3
              try clear c5
              try clear c5b0
              try clear p6
              try clear c7
              try clear c12
              try clear c14
              try clear c14b0
              try clear c15
              try clear c16
              try clear hcz13_0
              try clear hcz13_1
              try clear hcz13_2
              try clear hcz17_0
              try clear hcz17_1
              try clear hcz17_2
              try clear hcz8_0
              try clear hcz8_1
              try clear hcz8_2
              try clear hfz13_0
              try clear hfz13_1
              try clear hfz13_2
              try clear hfz17_0
              try clear hfz17_1
              try clear hfz17_2
              try clear hfz8_0
              try clear hfz8_1
              try clear hfz8_2
              try clear p2
              try clear p6
              obtain ⟨x116000_3, HA, HK3, BK111, BK115, HB⟩ := hrel
              cases gk with
              | zero => exact absurd HA.out (by simp [civil_Of.l0])
              | succ k3 =>
                have H := HA.out
                clear HA
                simp only [civil_Of.l0] at H
                replace H := Option.bind_eq_some_iff.mp H
                obtain ⟨t117, A180, H⟩ := H
                replace H : (if t117 ≤ (wrap64 (a0 + 719528)) then (civil_Of.l0 k3 (wrap64 (a0 + 719528)) (wrap64 (x116000_3 + 1)) 1 0) else ((civil_start.f x116000_3).bind fun t118 => (civil_Of.l1 k3 (wrap64 ((wrap64 (a0 + 719528)) - t118)) x116000_3 1 0))) = some (r1, r2, r3, r4) := H
                have A18 := Aside0.mk A180
                clear A180
                by_cases c19 : t117 ≤ (wrap64 (a0 + 719528))
                · rw [if_pos c19] at H
                  have c19b0 : decide (t117 ≤ (wrap64 (a0 + 719528))) = true := decide_eq_true c19
                  clear c19
                  have H' := Aside0.mk H
                  clear H
                  have hnb20 := NB115_111.out
                  have hnc20 := NB111_115.out
                  have hcz21_0 : wr.cell? ⟨gb115, 0, none⟩ = some (.int .i64 x116000_3) := (blk_cell BK115.out 0).trans rfl
                  have hcz21_1 : wr.cell? ⟨gb115, 1, none⟩ = some (.int .i64 1) := (blk_cell BK115.out 1).trans rfl
                  have hcz21_2 : wr.cell? ⟨gb115, 2, none⟩ = some (.int .i64 0) := (blk_cell BK115.out 2).trans rfl
                  have hfz21_0 := blk_frozen BK115.out 0
                  have hfz21_1 := blk_frozen BK115.out 1
                  have hfz21_2 := blk_frozen BK115.out 2
                  go_wp2_with (first | ((with_reducible refine gate_callee (f := 28) rfl ?_); refine goesL_ (some 30) rfl rfl Tryd.func28 (by kernel_rfl) rfl #[.int .i64 (wrap64 (x116000_3 + 1))] rfl (by (try simp only [List.map_toArray, List.map_cons, List.map_nil]); first | done | rfl | (simp only [List.length_drop, List.length_take]; rfl)) ?_; (with_reducible refine (civil_start.calls (wrap64 (x116000_3 + 1)) t117 _ A18.out).mono ?_); rintro e w' ⟨rfl, ⟨nd, rfl⟩⟩; refine ⟨_, rfl, ?_⟩))
                  go_roundg k3
                  case measure => have := HJ1.out; have := HJ9.out; have := HK3.out; omega
                  case rel => exact ⟨(wrap64 (x116000_3 + 1)), H', ⟨by have := HJ1.out; have := HJ9.out; have := HK3.out; omega⟩, ⟨by (with_reducible repeat (first | refine blk_drewN ?_ _ | refine blk_drew ?_ | refine blk_alloc ?_ _)); refine blk_far ?_ NB111_115.out _; (with_reducible repeat (first | refine blk_drewN ?_ _ | refine blk_drew ?_ | refine blk_alloc ?_ _)); exact BK111.out⟩, ⟨by (with_reducible repeat (first | refine blk_drewN ?_ _ | refine blk_drew ?_ | refine blk_alloc ?_ _)); refine blk_put (cs := #[.int .i64 x116000_3, .int .i64 1, .int .i64 0]) ?_ 0 _ rfl; (with_reducible repeat (first | refine blk_drewN ?_ _ | refine blk_drew ?_ | refine blk_alloc ?_ _)); exact BK115.out⟩, ⟨by repeat (first | (with_reducible first | exact HB.out | apply below_alloc | apply pw_below_drewN | apply below_drew1 | refine below_set ?_ GE111.out | refine below_set ?_ GE115.out) | exact HB.out)⟩⟩
                · rw [if_neg c19] at H
                  have c19b0 : decide (t117 ≤ (wrap64 (a0 + 719528))) = false := decide_eq_false c19
                  clear c19
                  replace H := Option.bind_eq_some_iff.mp H
                  obtain ⟨t118, A220, H⟩ := H
                  replace H : (civil_Of.l1 k3 (wrap64 ((wrap64 (a0 + 719528)) - t118)) x116000_3 1 0) = some (r1, r2, r3, r4) := H
                  have A22 := Aside0.mk A220
                  clear A220
                  have H' := Aside0.mk H
                  clear H
                  have hnb23 := NB115_111.out
                  have hnc23 := NB111_115.out
                  have hcz24_0 : wr.cell? ⟨gb115, 0, none⟩ = some (.int .i64 x116000_3) := (blk_cell BK115.out 0).trans rfl
                  have hcz24_1 : wr.cell? ⟨gb115, 1, none⟩ = some (.int .i64 1) := (blk_cell BK115.out 1).trans rfl
                  have hcz24_2 : wr.cell? ⟨gb115, 2, none⟩ = some (.int .i64 0) := (blk_cell BK115.out 2).trans rfl
                  have hfz24_0 := blk_frozen BK115.out 0
                  have hfz24_1 := blk_frozen BK115.out 1
                  have hfz24_2 := blk_frozen BK115.out 2
                  go_wp2_with (first | ((with_reducible refine gate_callee (f := 28) rfl ?_); refine goesL_ (some 30) rfl rfl Tryd.func28 (by kernel_rfl) rfl #[.int .i64 (wrap64 (x116000_3 + 1))] rfl (by (try simp only [List.map_toArray, List.map_cons, List.map_nil]); first | done | rfl | (simp only [List.length_drop, List.length_take]; rfl)) ?_; (with_reducible refine (civil_start.calls (wrap64 (x116000_3 + 1)) t117 _ A18.out).mono ?_); rintro e w' ⟨rfl, ⟨nd, rfl⟩⟩; refine ⟨_, rfl, ?_⟩) | ((with_reducible refine gate_callee (f := 28) rfl ?_); refine goesL_ (some 40) rfl rfl Tryd.func28 (by kernel_rfl) rfl #[.int .i64 x116000_3] rfl (by (try simp only [List.map_toArray, List.map_cons, List.map_nil]); first | done | rfl | (simp only [List.length_drop, List.length_take]; rfl)) ?_; (with_reducible refine (civil_start.calls x116000_3 t118 _ A22.out).mono ?_); rintro e w' ⟨rfl, ⟨nd, rfl⟩⟩; refine ⟨_, rfl, ?_⟩))
                  go_loopg [4] k3 (fun kq v4 w' => ∃ (x4_4 : Int) (x116001_4 : Int), v4 = .int .i64 x4_4 ∧ Aside0 (civil_Of.l1 kq x4_4 x116000_3 x116001_4 0 = some (r1, r2, r3, r4)) ∧ Aside0 (kq ≤ k3) ∧ Aside0 (w'.heap[gb111]? = some (.cells #[.int .i64 0, .int .i64 0, .int .i64 0] 23 (0, 0))) ∧ Aside0 (w'.heap[gb115]? = some (.cells #[.int .i64 x116000_3, .int .i64 x116001_4, .int .i64 0] 23 (0, 0))) ∧ Aside0 (Below w.heap.size w w'))
                  case atStart => exact ⟨(wrap64 ((wrap64 (a0 + 719528)) - t118)), (1), (by first | rfl | (simp; done) | (simp [*]; done)), H', ⟨Nat.le_refl _⟩, ⟨by (with_reducible repeat (first | refine blk_drewN ?_ _ | refine blk_drew ?_ | refine blk_alloc ?_ _)); exact BK111.out⟩, ⟨by (with_reducible repeat (first | refine blk_drewN ?_ _ | refine blk_drew ?_ | refine blk_alloc ?_ _)); exact BK115.out⟩, ⟨by repeat (first | (with_reducible first | exact HB.out | apply below_alloc | apply pw_below_drewN | apply below_drew1 | refine below_set ?_ GE111.out | refine below_set ?_ GE115.out) | exact HB.out)⟩⟩
                  case round =>
                    clear H'
                    try clear c1
                    try clear c2
                    try clear p2
                    try clear c3
                    try clear c5
                    try clear c5b0
                    try clear p6
                    try clear c7
                    try clear c12
                    try clear c14
                    try clear c14b0
                    try clear c15
                    try clear c16
                    try clear c19
                    try clear c19b0
                    try clear c20
                    try clear c23
                    try clear hcz13_0
                    try clear hcz13_1
                    try clear hcz13_2
                    try clear hcz17_0
                    try clear hcz17_1
                    try clear hcz17_2
                    try clear hcz21_0
                    try clear hcz21_1
                    try clear hcz21_2
                    try clear hcz24_0
                    try clear hcz24_1
                    try clear hcz24_2
                    try clear hcz8_0
                    try clear hcz8_1
                    try clear hcz8_2
                    try clear hfz13_0
                    try clear hfz13_1
                    try clear hfz13_2
                    try clear hfz17_0
                    try clear hfz17_1
                    try clear hfz17_2
                    try clear hfz21_0
                    try clear hfz21_1
                    try clear hfz21_2
                    try clear hfz24_0
                    try clear hfz24_1
                    try clear hfz24_2
                    try clear hfz8_0
                    try clear hfz8_1
                    try clear hfz8_2
                    try clear p2
                    try clear p6
                    obtain ⟨x4_4, x116001_4, rfl, HA, HK4, BK111, BK115, HB⟩ := hrel
                    cases gk with
                    | zero => exact absurd HA.out (by simp [civil_Of.l1])
                    | succ k4 =>
                      have H := HA.out
                      clear HA
                      simp only [civil_Of.l1] at H
                      replace H := Option.bind_eq_some_iff.mp H
                      obtain ⟨t119, A250, H⟩ := H
                      replace H : (if x4_4 ≥ t119 then ((civil_Length.f k4 x116000_3 x116001_4).bind fun t120 => (civil_Of.l1 k4 (wrap64 (x4_4 - t120)) x116000_3 (wrap64 (x116001_4 + 1)) 0)) else (some (x116000_3, x116001_4, wrap64 (x4_4 + 1), 0))) = some (r1, r2, r3, r4) := H
                      have A25 := Aside0.mk A250
                      clear A250
                      by_cases c26 : x4_4 ≥ t119
                      · rw [if_pos c26] at H
                        have c26b0 : decide (t119 ≤ x4_4) = true := decide_eq_true c26
                        clear c26
                        replace H := Option.bind_eq_some_iff.mp H
                        obtain ⟨t120, A270, H⟩ := H
                        replace H : (civil_Of.l1 k4 (wrap64 (x4_4 - t120)) x116000_3 (wrap64 (x116001_4 + 1)) 0) = some (r1, r2, r3, r4) := H
                        have A27 := Aside0.mk A270
                        clear A270
                        have H' := Aside0.mk H
                        clear H
                        have hnb28 := NB115_111.out
                        have hnc28 := NB111_115.out
                        have hcz29_0 : wr.cell? ⟨gb115, 0, none⟩ = some (.int .i64 x116000_3) := (blk_cell BK115.out 0).trans rfl
                        have hcz29_1 : wr.cell? ⟨gb115, 1, none⟩ = some (.int .i64 x116001_4) := (blk_cell BK115.out 1).trans rfl
                        have hcz29_2 : wr.cell? ⟨gb115, 2, none⟩ = some (.int .i64 0) := (blk_cell BK115.out 2).trans rfl
                        have hfz29_0 := blk_frozen BK115.out 0
                        have hfz29_1 := blk_frozen BK115.out 1
                        have hfz29_2 := blk_frozen BK115.out 2
                        go_wp2_with (first | ((with_reducible refine gate_callee (f := 19) rfl ?_); refine goesL_ (some 47) rfl rfl Tryd.func19 (by kernel_rfl) rfl #[.int .i64 x116000_3, .int .i64 x116001_4] rfl (by (try simp only [List.map_toArray, List.map_cons, List.map_nil]); first | done | rfl | (simp only [List.length_drop, List.length_take]; rfl)) ?_; (with_reducible refine (civil_Length.calls k4 x116000_3 x116001_4 t119 _ A25.out).mono ?_); rintro e w' ⟨rfl, ⟨nd, rfl⟩⟩; refine ⟨_, rfl, ?_⟩) | ((with_reducible refine gate_callee (f := 19) rfl ?_); refine goesL_ (some 54) rfl rfl Tryd.func19 (by kernel_rfl) rfl #[.int .i64 x116000_3, .int .i64 x116001_4] rfl (by (try simp only [List.map_toArray, List.map_cons, List.map_nil]); first | done | rfl | (simp only [List.length_drop, List.length_take]; rfl)) ?_; (with_reducible refine (civil_Length.calls k4 x116000_3 x116001_4 t120 _ A27.out).mono ?_); rintro e w' ⟨rfl, ⟨nd, rfl⟩⟩; refine ⟨_, rfl, ?_⟩))
                        go_roundg k4
                        case measure => have := HJ1.out; have := HJ9.out; have := HK3.out; have := HK4.out; omega
                        case rel => exact ⟨(wrap64 (x4_4 - t120)), (wrap64 (x116001_4 + 1)), (by first | rfl | (simp; done) | (simp [*]; done)), H', ⟨by have := HJ1.out; have := HJ9.out; have := HK3.out; have := HK4.out; omega⟩, ⟨by (with_reducible repeat (first | refine blk_drewN ?_ _ | refine blk_drew ?_ | refine blk_alloc ?_ _)); refine blk_far ?_ NB111_115.out _; (with_reducible repeat (first | refine blk_drewN ?_ _ | refine blk_drew ?_ | refine blk_alloc ?_ _)); exact BK111.out⟩, ⟨by (with_reducible repeat (first | refine blk_drewN ?_ _ | refine blk_drew ?_ | refine blk_alloc ?_ _)); refine blk_put (cs := #[.int .i64 x116000_3, .int .i64 x116001_4, .int .i64 0]) ?_ 1 _ rfl; (with_reducible repeat (first | refine blk_drewN ?_ _ | refine blk_drew ?_ | refine blk_alloc ?_ _)); exact BK115.out⟩, ⟨by repeat (first | (with_reducible first | exact HB.out | apply below_alloc | apply pw_below_drewN | apply below_drew1 | refine below_set ?_ GE111.out | refine below_set ?_ GE115.out) | exact HB.out)⟩⟩
                      · rw [if_neg c26] at H
                        have c26b0 : decide (t119 ≤ x4_4) = false := decide_eq_false c26
                        clear c26
                        simp only [Option.some.injEq, Prod.mk.injEq] at H
                        obtain ⟨rfl, rfl, rfl, rfl⟩ := H
                        have hnb30 := NB115_111.out
                        have hnc30 := NB111_115.out
                        have hcz31_0 : wr.cell? ⟨gb115, 0, none⟩ = some (.int .i64 x116000_3) := (blk_cell BK115.out 0).trans rfl
                        have hcz31_1 : wr.cell? ⟨gb115, 1, none⟩ = some (.int .i64 x116001_4) := (blk_cell BK115.out 1).trans rfl
                        have hcz31_2 : wr.cell? ⟨gb115, 2, none⟩ = some (.int .i64 0) := (blk_cell BK115.out 2).trans rfl
                        have hfz31_0 := blk_frozen BK115.out 0
                        have hfz31_1 := blk_frozen BK115.out 1
                        have hfz31_2 := blk_frozen BK115.out 2
                        go_wp2_with (first | ((with_reducible refine gate_callee (f := 19) rfl ?_); refine goesL_ (some 47) rfl rfl Tryd.func19 (by kernel_rfl) rfl #[.int .i64 x116000_3, .int .i64 x116001_4] rfl (by (try simp only [List.map_toArray, List.map_cons, List.map_nil]); first | done | rfl | (simp only [List.length_drop, List.length_take]; rfl)) ?_; (with_reducible refine (civil_Length.calls k4 x116000_3 x116001_4 t119 _ A25.out).mono ?_); rintro e w' ⟨rfl, ⟨nd, rfl⟩⟩; refine ⟨_, rfl, ?_⟩; have hcz32_0 : wr.cell? ⟨gb111, 0, none⟩ = some (.int .i64 0) := (blk_cell BK111.out 0).trans rfl; have hcz32_1 : wr.cell? ⟨gb111, 1, none⟩ = some (.int .i64 0) := (blk_cell BK111.out 1).trans rfl; have hcz32_2 : wr.cell? ⟨gb111, 2, none⟩ = some (.int .i64 0) := (blk_cell BK111.out 2).trans rfl; have hfz32_0 := blk_frozen BK111.out 0; have hfz32_1 := blk_frozen BK111.out 1; have hfz32_2 := blk_frozen BK111.out 2))
                        refine bodyPost_ret (results_ct rfl _ _ gb111 23 #[.int .i64 x116000_3, .int .i64 x116001_4, .int .i64 (wrap64 (x4_4 + 1))] (0, 0) _ rfl (by (with_reducible repeat (first | refine blk_drewN ?_ _ | refine blk_drew ?_ | refine blk_alloc ?_ _)); refine blk_put (cs := #[.int .i64 x116000_3, .int .i64 x116001_4, .int .i64 0]) ?_ 2 _ rfl; (with_reducible repeat (first | refine blk_drewN ?_ _ | refine blk_drew ?_ | refine blk_alloc ?_ _)); refine blk_put (cs := #[.int .i64 x116000_3, .int .i64 0, .int .i64 0]) ?_ 1 _ rfl; (with_reducible repeat (first | refine blk_drewN ?_ _ | refine blk_drew ?_ | refine blk_alloc ?_ _)); refine blk_put (cs := #[.int .i64 0, .int .i64 0, .int .i64 0]) ?_ 0 _ rfl; (with_reducible repeat (first | refine blk_drewN ?_ _ | refine blk_drew ?_ | refine blk_alloc ?_ _)); refine blk_far ?_ NB111_115.out _; (with_reducible repeat (first | refine blk_drewN ?_ _ | refine blk_drew ?_ | refine blk_alloc ?_ _)); exact BK111.out) Tryd.underlying23 rfl (by kernel_rfl)) rfl ?_
                        exact ⟨by first | rfl | (simp [errW_none, errW_some] <;> rfl) | (simp [*, errW_none, errW_some] <;> rfl), by repeat (first | (with_reducible first | exact HB.out | apply below_alloc | apply pw_below_drewN | apply below_drew1 | refine below_set ?_ GE111.out | refine below_set ?_ GE115.out) | exact HB.out)⟩

/-! ### civil_Weekday: function 21 -/
def civil_Weekday.f (a0 : Int) : Option (Int) := some (Int.tmod (wrap64 ((wrap64 ((Int.tmod a0 7) + 3)) + 7)) 7)
set_option maxHeartbeats 8000000 in
set_option maxRecDepth 100000 in
theorem civil_Weekday.calls (a0 : Int) (r : Int) (w : World) (h : civil_Weekday.f a0 = some r) :
    Calls Tryd.prog 21 #[.int .i64 a0] w fun e w' => e = .returned (.int .i64 r) ∧ Drawn0 w w' := by
  have H : (some (Int.tmod (wrap64 ((wrap64 ((Int.tmod a0 7) + 3)) + 7)) 7)) = some r := h
  clear h
  obtain rfl := Option.some.inj H
  go_enter Tryd.func21, Tryd.ntmps21
  go_wp2
  go_ret
  exact ⟨by first | rfl | (simp; done) | (simp [*]; done), by repeat (first | exact Drawn0.refl _ | apply Drawn0.step)⟩

/-! ### strconv.Itoa below 100: function 36, by the shelf's contract -/
def strconv_Itoa.f (a0 : Int) : Option ByteArray := if 0 ≤ a0 then (if a0 < 100 then some ⟨(Lib.decDigits a0.toNat).toArray⟩ else none) else none
theorem strconv_Itoa.calls (a0 : Int) (r : ByteArray) (w : World) (h : strconv_Itoa.f a0 = some r) :
    Calls Tryd.prog 36 #[.int .i64 a0] w fun e w' => e = .returned (.string r) ∧ Drawn0 w w' := by
  unfold strconv_Itoa.f at h
  by_cases h0 : 0 ≤ a0
  · rw [if_pos h0] at h
    by_cases h1 : a0 < 100
    · rw [if_pos h1] at h
      obtain rfl := Option.some.inj h
      obtain ⟨n, rfl⟩ : ∃ n : Nat, a0 = n := ⟨a0.toNat, by omega⟩
      refine (Tryd.strconv_Itoa_small n (by omega) w).mono ?_
      rintro e w' ⟨rfl, rfl⟩
      exact ⟨by rw [Int.toNat_natCast], Drawn0.refl _⟩
    · rw [if_neg h1] at h
      cases h
  · rw [if_neg h0] at h
    cases h

/-! ### civil_two: function 32 -/
def civil_two.f (a0 : Int) : Option (ByteArray) := (strconv_Itoa.f (wrap64 (Int.tdiv a0 10))).bind fun t121 => ((strconv_Itoa.f (Int.tmod a0 10)).bind fun t122 => (if t121.size + t122.size ≤ 9223372036854775807 then (some (t121 ++ t122)) else (none)))
set_option maxHeartbeats 8000000 in
set_option maxRecDepth 100000 in
theorem civil_two.calls (a0 : Int) (r : ByteArray) (w : World) (h : civil_two.f a0 = some r) :
    Calls Tryd.prog 32 #[.int .i64 a0] w fun e w' => e = .returned (.string r) ∧ Drawn0 w w' := by
  have H : ((strconv_Itoa.f (wrap64 (Int.tdiv a0 10))).bind fun t121 => ((strconv_Itoa.f (Int.tmod a0 10)).bind fun t122 => (if t121.size + t122.size ≤ 9223372036854775807 then (some (t121 ++ t122)) else (none)))) = some r := h
  clear h
  replace H := Option.bind_eq_some_iff.mp H
  obtain ⟨t121, A20, H⟩ := H
  replace H : ((strconv_Itoa.f (Int.tmod a0 10)).bind fun t122 => (if t121.size + t122.size ≤ 9223372036854775807 then (some (t121 ++ t122)) else (none))) = some r := H
  have A2 := Aside0.mk A20
  clear A20
  replace H := Option.bind_eq_some_iff.mp H
  obtain ⟨t122, A30, H⟩ := H
  replace H : (if t121.size + t122.size ≤ 9223372036854775807 then (some (t121 ++ t122)) else (none)) = some r := H
  have A3 := Aside0.mk A30
  clear A30
  by_cases c4 : t121.size + t122.size ≤ 9223372036854775807
  · rw [if_pos c4] at H
    have c4b0 := eq_true c4
    have c4b1 : decide (t121.size + t122.size ≤ 9223372036854775807) = true := decide_eq_true c4
    try have c4b2 : (9223372036854775807 < t121.size + t122.size) = False := eq_false (Nat.not_lt.2 c4)
    obtain rfl := Option.some.inj H
    go_enter Tryd.func32, Tryd.ntmps32
    go_wp2_with (first | ((with_reducible refine gate_callee (f := 36) rfl ?_); refine goesL_ (some 5) rfl rfl Tryd.func36 (by kernel_rfl) rfl #[.int .i64 (wrap64 (Int.tdiv a0 10))] rfl (by (try simp only [List.map_toArray, List.map_cons, List.map_nil]); first | done | rfl | (simp only [List.length_drop, List.length_take]; rfl)) ?_; (with_reducible refine (strconv_Itoa.calls (wrap64 (Int.tdiv a0 10)) t121 _ A2.out).mono ?_); rintro e w' ⟨rfl, ⟨nd, rfl⟩⟩; refine ⟨_, rfl, ?_⟩) | ((with_reducible refine gate_callee (f := 36) rfl ?_); refine goesL_ (some 8) rfl rfl Tryd.func36 (by kernel_rfl) rfl #[.int .i64 (Int.tmod a0 10)] rfl (by (try simp only [List.map_toArray, List.map_cons, List.map_nil]); first | done | rfl | (simp only [List.length_drop, List.length_take]; rfl)) ?_; (with_reducible refine (strconv_Itoa.calls (Int.tmod a0 10) t122 _ A3.out).mono ?_); rintro e w' ⟨rfl, ⟨nd, rfl⟩⟩; refine ⟨_, rfl, ?_⟩))
    go_ret
    exact ⟨by first | rfl | (simp; done) | (simp [*]; done), by repeat (first | exact Drawn0.refl _ | apply Drawn0.step)⟩
  · rw [if_neg c4] at H
    exact absurd H (by simp)

/-! ### civil.Text: function 23, by hand -/
def tw (n : Int) : List UInt8 := Lib.decDigits (n / 10).toNat ++ Lib.decDigits (n % 10).toNat
def txl (y m d : Int) : List UInt8 := (if y < 0 then [45] else []) ++ tw ((if y < 0 then -y else y) / 100) ++ tw ((if y < 0 then -y else y) % 100) ++ [45] ++ tw m ++ [45] ++ tw d
def civil_Text.f (k : Nat) (a0_0 : Int) (a0_1 : Int) (a0_2 : Int) : Option ByteArray := (civil_good.f k a0_0 a0_1 a0_2).bind fun t => if t = true then (if -9999 ≤ a0_0 ∧ a0_0 ≤ 9999 ∧ 0 ≤ a0_1 ∧ a0_1 < 100 ∧ 0 ≤ a0_2 ∧ a0_2 < 100 then some ⟨(txl a0_0 a0_1 a0_2).toArray⟩ else none) else some (⟨#[]⟩ : ByteArray)
theorem civil_Text.mono : ∀ a0 a1 a2 k, LeO (civil_Text.f k a0 a1 a2) (civil_Text.f (k + 1) a0 a1 a2) := by
  intro a0 a1 a2 k
  unfold civil_Text.f
  exact LeO.bind (civil_good.mono a0 a1 a2 k) (fun _ => LeO.refl _)
theorem dec1 (n : Nat) (h : n < 10) : (Lib.decDigits n).length = 1 := by
  rw [Lib.decDigits_one h]; rfl
theorem tw_len (n : Int) (h0 : 0 ≤ n) (h1 : n < 100) : (tw n).length = 2 := by
  unfold tw
  rw [List.length_append, dec1 _ (by omega), dec1 _ (by omega)]
theorem two_is (n : Int) (h0 : 0 ≤ n) (h1 : n < 100) : civil_two.f n = some ⟨(tw n).toArray⟩ := by
  have l1 := dec1 (n / 10).toNat (by omega)
  have l2 := dec1 (n % 10).toNat (by omega)
  unfold civil_two.f strconv_Itoa.f tw
  rw [Int.tdiv_eq_ediv_of_nonneg h0, Int.tmod_eq_emod_of_nonneg h0, show wrap64 (n / 10) = n / 10 by unfold wrap64; omega, if_pos (by omega), if_pos (by omega), if_pos (by omega), if_pos (by omega)]
  simp only [Option.bind_some]
  rw [if_pos (by simp [ByteArray.size, l1, l2]), ByteArray.mk_append_mk]
set_option maxHeartbeats 2000000 in
theorem text_any (sl : List UInt8) (hsl : sl.length ≤ 1) (a y m d : Int) (hy0 : 0 ≤ a) (hy1 : a ≤ 9999) (hm0 : 0 ≤ m) (hm1 : m < 100) (hd0 : 0 ≤ d) (hd1 : d < 100)
    (hya : (y < 0 ∧ a = -y ∧ sl = [45]) ∨ (¬ y < 0 ∧ a = y ∧ sl = [])) (w : World) (HG : Hid (∀ w, Calls Tryd.prog 27 #[.agg #[.int .i64 y, .int .i64 m, .int .i64 d]] w fun e w' => e = .returned (.bool true) ∧ Below w.heap.size w w')) :
    Calls Tryd.prog 23 #[.agg #[.int .i64 y, .int .i64 m, .int .i64 d]] w fun e w' => e = .returned (.string ⟨(sl ++ tw (a / 100) ++ tw (a % 100) ++ [45] ++ tw m ++ [45] ++ tw d).toArray⟩) ∧ Below w.heap.size w w' := by
  have l1 := tw_len (a / 100) (by omega) (by omega)
  have l2 := tw_len (a % 100) (by omega) (by omega)
  have l3 := tw_len m hm0 hm1
  have l4 := tw_len d hd0 hd1
  have q1 : ∀ w : World, (Op.stringOp .add ⟨sl.toArray⟩ ⟨(tw (a / 100)).toArray⟩).run Tryd.prog w = .ok (.string ⟨(sl ++ tw (a / 100)).toArray⟩) w := fun w => run_string_add_lists w _ _ (by omega) (by omega)
  have q2 : ∀ w : World, (Op.stringOp .add ⟨(sl ++ tw (a / 100)).toArray⟩ ⟨(tw (a % 100)).toArray⟩).run Tryd.prog w = .ok (.string ⟨(sl ++ tw (a / 100) ++ tw (a % 100)).toArray⟩) w := fun w => run_string_add_lists w _ _ (by simp; omega) (by omega)
  have q3 : ∀ w : World, (Op.stringOp .add ⟨(sl ++ tw (a / 100) ++ tw (a % 100)).toArray⟩ ⟨#[45]⟩).run Tryd.prog w = .ok (.string ⟨(sl ++ tw (a / 100) ++ tw (a % 100) ++ [45]).toArray⟩) w := fun w => run_string_add_lists w _ [45] (by simp; omega) (by decide)
  have q4 : ∀ w : World, (Op.stringOp .add ⟨(sl ++ tw (a / 100) ++ tw (a % 100) ++ [45]).toArray⟩ ⟨(tw m).toArray⟩).run Tryd.prog w = .ok (.string ⟨(sl ++ tw (a / 100) ++ tw (a % 100) ++ [45] ++ tw m).toArray⟩) w := fun w => run_string_add_lists w _ _ (by simp; omega) (by omega)
  have q5 : ∀ w : World, (Op.stringOp .add ⟨(sl ++ tw (a / 100) ++ tw (a % 100) ++ [45] ++ tw m).toArray⟩ ⟨#[45]⟩).run Tryd.prog w = .ok (.string ⟨(sl ++ tw (a / 100) ++ tw (a % 100) ++ [45] ++ tw m ++ [45]).toArray⟩) w := fun w => run_string_add_lists w _ [45] (by simp; omega) (by decide)
  have q6 : ∀ w : World, (Op.stringOp .add ⟨(sl ++ tw (a / 100) ++ tw (a % 100) ++ [45] ++ tw m ++ [45]).toArray⟩ ⟨(tw d).toArray⟩).run Tryd.prog w = .ok (.string ⟨(sl ++ tw (a / 100) ++ tw (a % 100) ++ [45] ++ tw m ++ [45] ++ tw d).toArray⟩) w := fun w => run_string_add_lists w _ _ (by simp; omega) (by omega)
  have T1 := Lib.hid (fun w => civil_two.calls (a / 100) _ w (two_is (a / 100) (by omega) (by omega)))
  have T2 := Lib.hid (fun w => civil_two.calls (a % 100) _ w (two_is (a % 100) (by omega) (by omega)))
  have T3 := Lib.hid (fun w => civil_two.calls m _ w (two_is m hm0 hm1))
  have T4 := Lib.hid (fun w => civil_two.calls d _ w (two_is d hd0 hd1))
  obtain ⟨x1, e1⟩ : ∃ s : ByteArray, ⟨(tw (a / 100)).toArray⟩ = s := ⟨_, rfl⟩
  obtain ⟨x2, e2⟩ : ∃ s : ByteArray, ⟨(tw (a % 100)).toArray⟩ = s := ⟨_, rfl⟩
  obtain ⟨x3, e3⟩ : ∃ s : ByteArray, ⟨(tw m).toArray⟩ = s := ⟨_, rfl⟩
  obtain ⟨x4, e4⟩ : ∃ s : ByteArray, ⟨(tw d).toArray⟩ = s := ⟨_, rfl⟩
  obtain ⟨p6, f6⟩ : ∃ s : ByteArray, ⟨(sl ++ tw (a / 100) ++ tw (a % 100) ++ [45] ++ tw m ++ [45] ++ tw d).toArray⟩ = s := ⟨_, rfl⟩
  obtain ⟨p5, f5⟩ : ∃ s : ByteArray, ⟨(sl ++ tw (a / 100) ++ tw (a % 100) ++ [45] ++ tw m ++ [45]).toArray⟩ = s := ⟨_, rfl⟩
  obtain ⟨p4, f4⟩ : ∃ s : ByteArray, ⟨(sl ++ tw (a / 100) ++ tw (a % 100) ++ [45] ++ tw m).toArray⟩ = s := ⟨_, rfl⟩
  obtain ⟨p3, f3⟩ : ∃ s : ByteArray, ⟨(sl ++ tw (a / 100) ++ tw (a % 100) ++ [45]).toArray⟩ = s := ⟨_, rfl⟩
  obtain ⟨p2, f2⟩ : ∃ s : ByteArray, ⟨(sl ++ tw (a / 100) ++ tw (a % 100)).toArray⟩ = s := ⟨_, rfl⟩
  obtain ⟨p1, f1⟩ : ∃ s : ByteArray, ⟨(sl ++ tw (a / 100)).toArray⟩ = s := ⟨_, rfl⟩
  rw [e1, f1] at q1
  rw [e2, f1, f2] at q2
  rw [f2, f3] at q3
  rw [e3, f3, f4] at q4
  rw [f4, f5] at q5
  rw [e4, f5, f6] at q6
  rw [e1] at T1
  rw [e2] at T2
  rw [e3] at T3
  rw [e4] at T4
  rw [f6]
  clear e1 e2 e3 e4 f1 f2 f3 f4 f5 f6 l1 l2 l3 l4
  have Q1 := Lib.hid q1
  have Q2 := Lib.hid q2
  have Q3 := Lib.hid q3
  have Q4 := Lib.hid q4
  have Q5 := Lib.hid q5
  have Q6 := Lib.hid q6
  clear q1 q2 q3 q4 q5 q6
  have I0 := Lib.hid (isB_new w #[.int .i64 y, .int .i64 m, .int .i64 d] 23)
  have BA := Lib.hid ((Below.refl w.heap.size w).alloc (Nat.le_refl _) (.cells #[.int .i64 y, .int .i64 m, .int .i64 d] 23))
  rcases hya with ⟨hneg, rfl, rfl⟩ | ⟨hneg, rfl, rfl⟩
  · have hwr : IntKind.i64.wrap (-y) = -y := by rw [IntKind.wrap_i64]; omega
    have N1 := Lib.hid (show IntKind.i64.wrap (-(y.tdiv 100)) = -y / 100 by rw [← Int.neg_tdiv, Int.tdiv_eq_ediv_of_nonneg hy0, IntKind.wrap_i64]; omega)
    have N2 := Lib.hid (show -(y.tmod 100) = -y % 100 by rw [← Int.neg_tmod, Int.tmod_eq_emod_of_nonneg hy0])
    go_enter Tryd.func23, Tryd.ntmps23
    have C0 := (I0.out.at 0)
    have C1 := (I0.out.at 1)
    have C2 := (I0.out.at 2)
    clear C0 C1 C2
    go_wp2_with fail
    refine (HG.out _).mono ?_
    rintro e w1 ⟨rfl, hb⟩
    have J0 := Lib.hid (I0.out.to hb (by simp))
    have B1 := Lib.hid (BA.out.trans (hb.mono BA.out.size))
    have z1 : w.heap.size < w1.heap.size := by have := hb.size; simp at this; omega
    clear hb I0 BA
    have hc0 : w1.cell? ⟨w.heap.size, 0, none⟩ = some (.int .i64 y) := J0.out.at 0
    go_wp2_with fail
    clear hc0
    refine region_quiet_lit (C := fun w' => Below w1.heap.size w1 w') (by kernel_rfl) (by kernel_rfl) (Below.refl _ _).drew ?_
    refine BigFrame.wpQuiet_want rfl (fun K hK => ?_)
    refine quiet_val (.string ⟨#[45]⟩) (fun w2 hw => rfl) (hK _ ?_)
    clear hK K
    simp only [Act.put, List.setIfInBounds_toArray, List.set_cons_zero, List.set_cons_succ]
    refine BigFrame.wpQuiet_want rfl (fun K hK => ?_)
    refine quiet_val (.int .i64 (-y)) (fun w2 hw => rfl) (hK _ ?_)
    clear hK K
    simp only [Act.put, List.setIfInBounds_toArray, List.set_cons_zero, List.set_cons_succ]
    refine BigFrame.wpQuiet_want rfl (fun K hK => ?_)
    refine quiet_val (.int .i64 ((-y) / 100)) (fun w2 hw => by simp [go_sem, N1.out]) (hK _ ?_)
    clear hK K
    simp only [Act.put, List.setIfInBounds_toArray, List.set_cons_zero, List.set_cons_succ]
    refine BigFrame.wpQuiet_want rfl (fun K hK => ?_)
    refine quiet_call 32 #[.int .i64 ((-y) / 100)] (.string x1) (fun w2 => by simp [go_sem]) (fun w2 hw => (T1.out w2).mono fun e w3 hh => ⟨hh.1, by obtain ⟨nd, rfl⟩ := hh.2; exact hw.trans ((below_drewN w2 nd).mono hw.size)⟩) (hK _ ?_)
    clear hK K
    simp only [Act.put, List.setIfInBounds_toArray, List.set_cons_zero, List.set_cons_succ]
    refine BigFrame.wpQuiet_want rfl (fun K hK => ?_)
    refine quiet_val (.string p1) (fun w2 hw => by simp [go_sem, Q1.out]) (hK _ ?_)
    clear hK K
    simp only [Act.put, List.setIfInBounds_toArray, List.set_cons_zero, List.set_cons_succ]
    refine BigFrame.wpQuiet_want rfl (fun K hK => ?_)
    refine quiet_val (.int .i64 (-y)) (fun w2 hw => rfl) (hK _ ?_)
    clear hK K
    simp only [Act.put, List.setIfInBounds_toArray, List.set_cons_zero, List.set_cons_succ]
    refine BigFrame.wpQuiet_want rfl (fun K hK => ?_)
    refine quiet_val (.int .i64 ((-y) % 100)) (fun w2 hw => by simp [go_sem, N2.out]) (hK _ ?_)
    clear hK K
    simp only [Act.put, List.setIfInBounds_toArray, List.set_cons_zero, List.set_cons_succ]
    refine BigFrame.wpQuiet_want rfl (fun K hK => ?_)
    refine quiet_call 32 #[.int .i64 ((-y) % 100)] (.string x2) (fun w2 => by simp [go_sem]) (fun w2 hw => (T2.out w2).mono fun e w3 hh => ⟨hh.1, by obtain ⟨nd, rfl⟩ := hh.2; exact hw.trans ((below_drewN w2 nd).mono hw.size)⟩) (hK _ ?_)
    clear hK K
    simp only [Act.put, List.setIfInBounds_toArray, List.set_cons_zero, List.set_cons_succ]
    refine BigFrame.wpQuiet_want rfl (fun K hK => ?_)
    refine quiet_val (.string p2) (fun w2 hw => by simp [go_sem, Q2.out]) (hK _ ?_)
    clear hK K
    simp only [Act.put, List.setIfInBounds_toArray, List.set_cons_zero, List.set_cons_succ]
    refine BigFrame.wpQuiet_want rfl (fun K hK => ?_)
    refine quiet_val (.string p3) (fun w2 hw => by simp [go_sem, Q3.out]) (hK _ ?_)
    clear hK K
    simp only [Act.put, List.setIfInBounds_toArray, List.set_cons_zero, List.set_cons_succ]
    refine BigFrame.wpQuiet_want rfl (fun K hK => ?_)
    refine quiet_val (.pointer (some ⟨w.heap.size, 1, none⟩)) (fun w2 hw => by simp [go_sem]) (hK _ ?_)
    clear hK K
    simp only [Act.put, List.setIfInBounds_toArray, List.set_cons_zero, List.set_cons_succ]
    refine BigFrame.wpQuiet_want rfl (fun K hK => ?_)
    refine quiet_val (.int .i64 m) (fun w2 hw => by simp [go_sem, (J0.out.to hw z1).at]) (hK _ ?_)
    clear hK K
    simp only [Act.put, List.setIfInBounds_toArray, List.set_cons_zero, List.set_cons_succ]
    refine BigFrame.wpQuiet_want rfl (fun K hK => ?_)
    refine quiet_call 32 #[.int .i64 m] (.string x3) (fun w2 => by simp [go_sem]) (fun w2 hw => (T3.out w2).mono fun e w3 hh => ⟨hh.1, by obtain ⟨nd, rfl⟩ := hh.2; exact hw.trans ((below_drewN w2 nd).mono hw.size)⟩) (hK _ ?_)
    clear hK K
    simp only [Act.put, List.setIfInBounds_toArray, List.set_cons_zero, List.set_cons_succ]
    refine BigFrame.wpQuiet_want rfl (fun K hK => ?_)
    refine quiet_val (.string p4) (fun w2 hw => by simp [go_sem, Q4.out]) (hK _ ?_)
    clear hK K
    simp only [Act.put, List.setIfInBounds_toArray, List.set_cons_zero, List.set_cons_succ]
    refine BigFrame.wpQuiet_want rfl (fun K hK => ?_)
    refine quiet_val (.string p5) (fun w2 hw => by simp [go_sem, Q5.out]) (hK _ ?_)
    clear hK K
    simp only [Act.put, List.setIfInBounds_toArray, List.set_cons_zero, List.set_cons_succ]
    refine BigFrame.wpQuiet_want rfl (fun K hK => ?_)
    refine quiet_val (.pointer (some ⟨w.heap.size, 2, none⟩)) (fun w2 hw => by simp [go_sem]) (hK _ ?_)
    clear hK K
    simp only [Act.put, List.setIfInBounds_toArray, List.set_cons_zero, List.set_cons_succ]
    refine BigFrame.wpQuiet_want rfl (fun K hK => ?_)
    refine quiet_val (.int .i64 d) (fun w2 hw => by simp [go_sem, (J0.out.to hw z1).at]) (hK _ ?_)
    clear hK K
    simp only [Act.put, List.setIfInBounds_toArray, List.set_cons_zero, List.set_cons_succ]
    refine BigFrame.wpQuiet_want rfl (fun K hK => ?_)
    refine quiet_call 32 #[.int .i64 d] (.string x4) (fun w2 => by simp [go_sem]) (fun w2 hw => (T4.out w2).mono fun e w3 hh => ⟨hh.1, by obtain ⟨nd, rfl⟩ := hh.2; exact hw.trans ((below_drewN w2 nd).mono hw.size)⟩) (hK _ ?_)
    clear hK K
    simp only [Act.put, List.setIfInBounds_toArray, List.set_cons_zero, List.set_cons_succ]
    refine BigFrame.wpQuiet_want rfl (fun K hK => ?_)
    refine quiet_val (.string p6) (fun w2 hw => by simp [go_sem, Q6.out]) (hK _ ?_)
    clear hK K
    simp only [Act.put, List.setIfInBounds_toArray, List.set_cons_zero, List.set_cons_succ]
    refine BigFrame.wpQuiet_want rfl (fun K hK => ?_)
    refine quiet_val (.string p6) (fun w2 hw => rfl) (hK _ ?_)
    clear hK K
    simp only [Act.put, List.setIfInBounds_toArray, List.set_cons_zero, List.set_cons_succ]
    refine wpQuiet_nil ?_
    intro w9 hb9
    have B9 := Lib.hid (B1.out.trans (hb9.mono B1.out.size))
    clear hb9
    go_wp2_with fail
    go_ret
    exact ⟨rfl, B9.out⟩
  · have N1 := Lib.hid (show IntKind.i64.wrap (a.tdiv 100) = a / 100 by rw [Int.tdiv_eq_ediv_of_nonneg hy0, IntKind.wrap_i64]; omega)
    have N2 := Lib.hid (show a.tmod 100 = a % 100 by rw [Int.tmod_eq_emod_of_nonneg hy0])
    go_enter Tryd.func23, Tryd.ntmps23
    have C0 := (I0.out.at 0)
    have C1 := (I0.out.at 1)
    have C2 := (I0.out.at 2)
    clear C0 C1 C2
    go_wp2_with fail
    refine (HG.out _).mono ?_
    rintro e w1 ⟨rfl, hb⟩
    have J0 := Lib.hid (I0.out.to hb (by simp))
    have B1 := Lib.hid (BA.out.trans (hb.mono BA.out.size))
    have z1 : w.heap.size < w1.heap.size := by have := hb.size; simp at this; omega
    clear hb I0 BA
    have hc0 : w1.cell? ⟨w.heap.size, 0, none⟩ = some (.int .i64 a) := J0.out.at 0
    go_wp2_with fail
    clear hc0
    refine region_quiet_lit (C := fun w' => Below w1.heap.size w1 w') (by kernel_rfl) (by kernel_rfl) (Below.refl _ _).drew ?_
    refine BigFrame.wpQuiet_want rfl (fun K hK => ?_)
    refine quiet_val (.string ⟨#[]⟩) (fun w2 hw => rfl) (hK _ ?_)
    clear hK K
    simp only [Act.put, List.setIfInBounds_toArray, List.set_cons_zero, List.set_cons_succ]
    refine BigFrame.wpQuiet_want rfl (fun K hK => ?_)
    refine quiet_val (.int .i64 a) (fun w2 hw => rfl) (hK _ ?_)
    clear hK K
    simp only [Act.put, List.setIfInBounds_toArray, List.set_cons_zero, List.set_cons_succ]
    refine BigFrame.wpQuiet_want rfl (fun K hK => ?_)
    refine quiet_val (.int .i64 (a / 100)) (fun w2 hw => by simp [go_sem, N1.out]) (hK _ ?_)
    clear hK K
    simp only [Act.put, List.setIfInBounds_toArray, List.set_cons_zero, List.set_cons_succ]
    refine BigFrame.wpQuiet_want rfl (fun K hK => ?_)
    refine quiet_call 32 #[.int .i64 (a / 100)] (.string x1) (fun w2 => by simp [go_sem]) (fun w2 hw => (T1.out w2).mono fun e w3 hh => ⟨hh.1, by obtain ⟨nd, rfl⟩ := hh.2; exact hw.trans ((below_drewN w2 nd).mono hw.size)⟩) (hK _ ?_)
    clear hK K
    simp only [Act.put, List.setIfInBounds_toArray, List.set_cons_zero, List.set_cons_succ]
    refine BigFrame.wpQuiet_want rfl (fun K hK => ?_)
    refine quiet_val (.string p1) (fun w2 hw => by simp [go_sem, Q1.out]) (hK _ ?_)
    clear hK K
    simp only [Act.put, List.setIfInBounds_toArray, List.set_cons_zero, List.set_cons_succ]
    refine BigFrame.wpQuiet_want rfl (fun K hK => ?_)
    refine quiet_val (.int .i64 a) (fun w2 hw => rfl) (hK _ ?_)
    clear hK K
    simp only [Act.put, List.setIfInBounds_toArray, List.set_cons_zero, List.set_cons_succ]
    refine BigFrame.wpQuiet_want rfl (fun K hK => ?_)
    refine quiet_val (.int .i64 (a % 100)) (fun w2 hw => by simp [go_sem, N2.out]) (hK _ ?_)
    clear hK K
    simp only [Act.put, List.setIfInBounds_toArray, List.set_cons_zero, List.set_cons_succ]
    refine BigFrame.wpQuiet_want rfl (fun K hK => ?_)
    refine quiet_call 32 #[.int .i64 (a % 100)] (.string x2) (fun w2 => by simp [go_sem]) (fun w2 hw => (T2.out w2).mono fun e w3 hh => ⟨hh.1, by obtain ⟨nd, rfl⟩ := hh.2; exact hw.trans ((below_drewN w2 nd).mono hw.size)⟩) (hK _ ?_)
    clear hK K
    simp only [Act.put, List.setIfInBounds_toArray, List.set_cons_zero, List.set_cons_succ]
    refine BigFrame.wpQuiet_want rfl (fun K hK => ?_)
    refine quiet_val (.string p2) (fun w2 hw => by simp [go_sem, Q2.out]) (hK _ ?_)
    clear hK K
    simp only [Act.put, List.setIfInBounds_toArray, List.set_cons_zero, List.set_cons_succ]
    refine BigFrame.wpQuiet_want rfl (fun K hK => ?_)
    refine quiet_val (.string p3) (fun w2 hw => by simp [go_sem, Q3.out]) (hK _ ?_)
    clear hK K
    simp only [Act.put, List.setIfInBounds_toArray, List.set_cons_zero, List.set_cons_succ]
    refine BigFrame.wpQuiet_want rfl (fun K hK => ?_)
    refine quiet_val (.pointer (some ⟨w.heap.size, 1, none⟩)) (fun w2 hw => by simp [go_sem]) (hK _ ?_)
    clear hK K
    simp only [Act.put, List.setIfInBounds_toArray, List.set_cons_zero, List.set_cons_succ]
    refine BigFrame.wpQuiet_want rfl (fun K hK => ?_)
    refine quiet_val (.int .i64 m) (fun w2 hw => by simp [go_sem, (J0.out.to hw z1).at]) (hK _ ?_)
    clear hK K
    simp only [Act.put, List.setIfInBounds_toArray, List.set_cons_zero, List.set_cons_succ]
    refine BigFrame.wpQuiet_want rfl (fun K hK => ?_)
    refine quiet_call 32 #[.int .i64 m] (.string x3) (fun w2 => by simp [go_sem]) (fun w2 hw => (T3.out w2).mono fun e w3 hh => ⟨hh.1, by obtain ⟨nd, rfl⟩ := hh.2; exact hw.trans ((below_drewN w2 nd).mono hw.size)⟩) (hK _ ?_)
    clear hK K
    simp only [Act.put, List.setIfInBounds_toArray, List.set_cons_zero, List.set_cons_succ]
    refine BigFrame.wpQuiet_want rfl (fun K hK => ?_)
    refine quiet_val (.string p4) (fun w2 hw => by simp [go_sem, Q4.out]) (hK _ ?_)
    clear hK K
    simp only [Act.put, List.setIfInBounds_toArray, List.set_cons_zero, List.set_cons_succ]
    refine BigFrame.wpQuiet_want rfl (fun K hK => ?_)
    refine quiet_val (.string p5) (fun w2 hw => by simp [go_sem, Q5.out]) (hK _ ?_)
    clear hK K
    simp only [Act.put, List.setIfInBounds_toArray, List.set_cons_zero, List.set_cons_succ]
    refine BigFrame.wpQuiet_want rfl (fun K hK => ?_)
    refine quiet_val (.pointer (some ⟨w.heap.size, 2, none⟩)) (fun w2 hw => by simp [go_sem]) (hK _ ?_)
    clear hK K
    simp only [Act.put, List.setIfInBounds_toArray, List.set_cons_zero, List.set_cons_succ]
    refine BigFrame.wpQuiet_want rfl (fun K hK => ?_)
    refine quiet_val (.int .i64 d) (fun w2 hw => by simp [go_sem, (J0.out.to hw z1).at]) (hK _ ?_)
    clear hK K
    simp only [Act.put, List.setIfInBounds_toArray, List.set_cons_zero, List.set_cons_succ]
    refine BigFrame.wpQuiet_want rfl (fun K hK => ?_)
    refine quiet_call 32 #[.int .i64 d] (.string x4) (fun w2 => by simp [go_sem]) (fun w2 hw => (T4.out w2).mono fun e w3 hh => ⟨hh.1, by obtain ⟨nd, rfl⟩ := hh.2; exact hw.trans ((below_drewN w2 nd).mono hw.size)⟩) (hK _ ?_)
    clear hK K
    simp only [Act.put, List.setIfInBounds_toArray, List.set_cons_zero, List.set_cons_succ]
    refine BigFrame.wpQuiet_want rfl (fun K hK => ?_)
    refine quiet_val (.string p6) (fun w2 hw => by simp [go_sem, Q6.out]) (hK _ ?_)
    clear hK K
    simp only [Act.put, List.setIfInBounds_toArray, List.set_cons_zero, List.set_cons_succ]
    refine BigFrame.wpQuiet_want rfl (fun K hK => ?_)
    refine quiet_val (.string p6) (fun w2 hw => rfl) (hK _ ?_)
    clear hK K
    simp only [Act.put, List.setIfInBounds_toArray, List.set_cons_zero, List.set_cons_succ]
    refine wpQuiet_nil ?_
    intro w9 hb9
    have B9 := Lib.hid (B1.out.trans (hb9.mono B1.out.size))
    clear hb9
    go_wp2_with fail
    go_ret
    exact ⟨rfl, B9.out⟩
set_option maxHeartbeats 1000000 in
theorem text_no (y m d : Int) (w : World) (HG : Hid (∀ w, Calls Tryd.prog 27 #[.agg #[.int .i64 y, .int .i64 m, .int .i64 d]] w fun e w' => e = .returned (.bool false) ∧ Below w.heap.size w w')) :
    Calls Tryd.prog 23 #[.agg #[.int .i64 y, .int .i64 m, .int .i64 d]] w fun e w' => e = .returned (.string ⟨#[]⟩) ∧ Below w.heap.size w w' := by
  have BA := Lib.hid ((Below.refl w.heap.size w).alloc (Nat.le_refl _) (.cells #[.int .i64 y, .int .i64 m, .int .i64 d] 23))
  go_enter Tryd.func23, Tryd.ntmps23
  go_wp2_with fail
  refine (HG.out _).mono ?_
  rintro e w1 ⟨rfl, hb⟩
  have B1 := Lib.hid (BA.out.trans (hb.mono BA.out.size))
  clear hb BA
  go_wp2_with fail
  go_ret
  exact ⟨rfl, B1.out⟩
theorem civil_Text.calls (k : Nat) (a0_0 : Int) (a0_1 : Int) (a0_2 : Int) (r : ByteArray) (w : World) (h : civil_Text.f k a0_0 a0_1 a0_2 = some r) :
    Calls Tryd.prog 23 #[.agg #[.int .i64 a0_0, .int .i64 a0_1, .int .i64 a0_2]] w fun e w' => e = .returned (.string r) ∧ Below w.heap.size w w' := by
  unfold civil_Text.f at h
  obtain ⟨g, hg, h⟩ := Option.bind_eq_some_iff.mp h
  have HG := Lib.hid (fun w => civil_good.calls k a0_0 a0_1 a0_2 g w hg)
  cases g with
  | false =>
    obtain rfl := Option.some.inj h
    exact text_no _ _ _ w HG
  | true =>
    rw [if_pos rfl] at h
    by_cases hc : -9999 ≤ a0_0 ∧ a0_0 ≤ 9999 ∧ 0 ≤ a0_1 ∧ a0_1 < 100 ∧ 0 ≤ a0_2 ∧ a0_2 < 100
    · rw [if_pos hc] at h
      obtain rfl := Option.some.inj h
      obtain ⟨h1, h2, h3, h4, h5, h6⟩ := hc
      unfold txl
      by_cases hy : a0_0 < 0
      · simp only [if_pos hy]
        exact text_any [45] (by decide) (-a0_0) a0_0 a0_1 a0_2 (by omega) (by omega) h3 h4 h5 h6 (.inl ⟨hy, rfl, rfl⟩) w HG
      · simp only [if_neg hy]
        exact text_any [] (by decide) a0_0 a0_0 a0_1 a0_2 (by omega) (by omega) h3 h4 h5 h6 (.inr ⟨hy, rfl, rfl⟩) w HG
    · rw [if_neg hc] at h
      cases h

end Go.Proofs.YtbgdpkpljkcnfaaDoor.QCivil
