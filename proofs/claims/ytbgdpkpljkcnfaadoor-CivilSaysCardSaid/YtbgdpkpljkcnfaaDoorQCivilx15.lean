/- What the Go functions compute: each as a Lean function, with the proof that its call answers so; written by a program of this session over the kit's print. Conditions: each theorem's own. -/
import Derived.Test.YtbgdpkpljkcnfaaDoorQCivilx0
import Derived.Test.YtbgdpkpljkcnfaaDoorQCivilx11
import Derived.Test.YtbgdpkpljkcnfaaDoorQCivilx13
namespace Go.Proofs.YtbgdpkpljkcnfaaDoor.QCivil
open Go.RowKit Go.Proofs.YtbgdpkpljkcnfaaDoorW.PrintWords Go.Proofs.YtbgdpkpljkcnfaaDoorW.PrintLast Go.Proofs.YtbgdpkpljkcnfaaDoorW.PrintMore
attribute [local go_sem] max2_int min2_int max_two min_two max_three min_three max_four min_four   -- for this text's walks alone
set_option linter.unusedVariables false
set_option linter.unusedSimpArgs false

/-! ### hourglassref4_Of: function 16 -/
mutual
def hourglassref4_Of.j0 : Nat → Int → Bool → Option (Int × Int × Int × Bool)
  | 0, _, _ => none
  | k + 1, x0, x14 => if x14 = true then (some (0, 0, 0, false)) else (if x0 < 0 then (hourglassref4_Of.j1 k x0 (wrap64 ((wrap64 (1970 + (wrap64 (Int.tdiv x0 365)))) - 1))) else (hourglassref4_Of.j1 k x0 (wrap64 (1970 + (wrap64 (Int.tdiv x0 366))))))
def hourglassref4_Of.j1 : Nat → Int → Int → Option (Int × Int × Int × Bool)
  | 0, _, _ => none
  | k + 1, x0, x4 => hourglassref4_Of.l0 k x0 x4
def hourglassref4_Of.l0 : Nat → Int → Int → Option (Int × Int × Int × Bool)
  | 0, _, _ => none
  | k + 1, x0, x4 => (hourglassref4_first.f k (wrap64 (x4 + 1))).bind fun t145 => (if t145 ≤ x0 then (hourglassref4_Of.l0 k x0 (wrap64 (x4 + 1))) else (hourglassref4_Of.l1 k x0 x4))
def hourglassref4_Of.l1 : Nat → Int → Int → Option (Int × Int × Int × Bool)
  | 0, _, _ => none
  | k + 1, x0, x4 => (hourglassref4_first.f k x4).bind fun t146 => (if t146 > x0 then (hourglassref4_Of.l1 k x0 (wrap64 (x4 - 1))) else ((hourglassref4_first.f k x4).bind fun t147 => (hourglassref4_Of.l2 k x4 (wrap64 (x0 - t147)) 1)))
def hourglassref4_Of.l2 : Nat → Int → Int → Int → Option (Int × Int × Int × Bool)
  | 0, _, _, _ => none
  | k + 1, x4, x5, x6 => (hourglassref4_Length.f k x4 x6).bind fun t148 => (if x5 ≥ t148 then ((hourglassref4_Length.f k x4 x6).bind fun t149 => (hourglassref4_Of.l2 k x4 (wrap64 (x5 - t149)) (wrap64 (x6 + 1)))) else (some (x4, x6, wrap64 (x5 + 1), true)))
end
def hourglassref4_Of.f (k : Nat) (a0 : Int) : Option (Int × Int × Int × Bool) := (hourglassref4_first.f k (-9999)).bind fun t143 => (if a0 < t143 then (hourglassref4_Of.j0 k a0 true) else ((hourglassref4_first.f k 10000).bind fun t144 => (hourglassref4_Of.j0 k a0 (decide (a0 ≥ t144)))))
theorem hourglassref4_Of.mono_l : ∀ k, (∀ y0 y1, LeO (hourglassref4_Of.j0 k y0 y1) (hourglassref4_Of.j0 (k + 1) y0 y1)) ∧ (∀ y0 y1, LeO (hourglassref4_Of.j1 k y0 y1) (hourglassref4_Of.j1 (k + 1) y0 y1)) ∧ (∀ y0 y1, LeO (hourglassref4_Of.l0 k y0 y1) (hourglassref4_Of.l0 (k + 1) y0 y1)) ∧ (∀ y0 y1, LeO (hourglassref4_Of.l1 k y0 y1) (hourglassref4_Of.l1 (k + 1) y0 y1)) ∧ (∀ y0 y1 y2, LeO (hourglassref4_Of.l2 k y0 y1 y2) (hourglassref4_Of.l2 (k + 1) y0 y1 y2))
  | 0 => ⟨fun _ _ r h => by simp [hourglassref4_Of.j0] at h, fun _ _ r h => by simp [hourglassref4_Of.j1] at h, fun _ _ r h => by simp [hourglassref4_Of.l0] at h, fun _ _ r h => by simp [hourglassref4_Of.l1] at h, fun _ _ _ r h => by simp [hourglassref4_Of.l2] at h⟩
  | k + 1 => by
    obtain ⟨ih0, ih1, ih2, ih3, ih4⟩ := hourglassref4_Of.mono_l k
    refine ⟨?_, ?_, ?_, ?_, ?_⟩
    · intro y0 y1
      unfold hourglassref4_Of.j0
      repeat' first
      | (with_reducible exact ih0 _ _)
      | (with_reducible exact ih1 _ _)
      | (with_reducible exact ih2 _ _)
      | (with_reducible exact ih3 _ _)
      | (with_reducible exact ih4 _ _ _)
      | (with_reducible exact hourglassref4_Length.mono _ _ _)
      | (with_reducible exact hourglassref4_first.mono _ _)
      | (with_reducible exact LeO.refl _)
      | (with_reducible exact LeO.none _)
      | (with_reducible refine LeO.ite ?_ ?_)
      | (with_reducible refine LeO.bind ?_ (fun _ => ?_))
      | exact ih0 _ _
      | exact ih1 _ _
      | exact ih2 _ _
      | exact ih3 _ _
      | exact ih4 _ _ _
      | exact hourglassref4_Length.mono _ _ _
      | exact hourglassref4_first.mono _ _
      | exact LeO.none _
      | refine LeO.ite ?_ ?_
      | refine LeO.bind ?_ (fun _ => ?_)
    · intro y0 y1
      unfold hourglassref4_Of.j1
      repeat' first
      | (with_reducible exact ih0 _ _)
      | (with_reducible exact ih1 _ _)
      | (with_reducible exact ih2 _ _)
      | (with_reducible exact ih3 _ _)
      | (with_reducible exact ih4 _ _ _)
      | (with_reducible exact hourglassref4_Length.mono _ _ _)
      | (with_reducible exact hourglassref4_first.mono _ _)
      | (with_reducible exact LeO.refl _)
      | (with_reducible exact LeO.none _)
      | (with_reducible refine LeO.ite ?_ ?_)
      | (with_reducible refine LeO.bind ?_ (fun _ => ?_))
      | exact ih0 _ _
      | exact ih1 _ _
      | exact ih2 _ _
      | exact ih3 _ _
      | exact ih4 _ _ _
      | exact hourglassref4_Length.mono _ _ _
      | exact hourglassref4_first.mono _ _
      | exact LeO.none _
      | refine LeO.ite ?_ ?_
      | refine LeO.bind ?_ (fun _ => ?_)
    · intro y0 y1
      unfold hourglassref4_Of.l0
      repeat' first
      | (with_reducible exact ih0 _ _)
      | (with_reducible exact ih1 _ _)
      | (with_reducible exact ih2 _ _)
      | (with_reducible exact ih3 _ _)
      | (with_reducible exact ih4 _ _ _)
      | (with_reducible exact hourglassref4_Length.mono _ _ _)
      | (with_reducible exact hourglassref4_first.mono _ _)
      | (with_reducible exact LeO.refl _)
      | (with_reducible exact LeO.none _)
      | (with_reducible refine LeO.ite ?_ ?_)
      | (with_reducible refine LeO.bind ?_ (fun _ => ?_))
      | exact ih0 _ _
      | exact ih1 _ _
      | exact ih2 _ _
      | exact ih3 _ _
      | exact ih4 _ _ _
      | exact hourglassref4_Length.mono _ _ _
      | exact hourglassref4_first.mono _ _
      | exact LeO.none _
      | refine LeO.ite ?_ ?_
      | refine LeO.bind ?_ (fun _ => ?_)
    · intro y0 y1
      unfold hourglassref4_Of.l1
      repeat' first
      | (with_reducible exact ih0 _ _)
      | (with_reducible exact ih1 _ _)
      | (with_reducible exact ih2 _ _)
      | (with_reducible exact ih3 _ _)
      | (with_reducible exact ih4 _ _ _)
      | (with_reducible exact hourglassref4_Length.mono _ _ _)
      | (with_reducible exact hourglassref4_first.mono _ _)
      | (with_reducible exact LeO.refl _)
      | (with_reducible exact LeO.none _)
      | (with_reducible refine LeO.ite ?_ ?_)
      | (with_reducible refine LeO.bind ?_ (fun _ => ?_))
      | exact ih0 _ _
      | exact ih1 _ _
      | exact ih2 _ _
      | exact ih3 _ _
      | exact ih4 _ _ _
      | exact hourglassref4_Length.mono _ _ _
      | exact hourglassref4_first.mono _ _
      | exact LeO.none _
      | refine LeO.ite ?_ ?_
      | refine LeO.bind ?_ (fun _ => ?_)
    · intro y0 y1 y2
      unfold hourglassref4_Of.l2
      repeat' first
      | (with_reducible exact ih0 _ _)
      | (with_reducible exact ih1 _ _)
      | (with_reducible exact ih2 _ _)
      | (with_reducible exact ih3 _ _)
      | (with_reducible exact ih4 _ _ _)
      | (with_reducible exact hourglassref4_Length.mono _ _ _)
      | (with_reducible exact hourglassref4_first.mono _ _)
      | (with_reducible exact LeO.refl _)
      | (with_reducible exact LeO.none _)
      | (with_reducible refine LeO.ite ?_ ?_)
      | (with_reducible refine LeO.bind ?_ (fun _ => ?_))
      | exact ih0 _ _
      | exact ih1 _ _
      | exact ih2 _ _
      | exact ih3 _ _
      | exact ih4 _ _ _
      | exact hourglassref4_Length.mono _ _ _
      | exact hourglassref4_first.mono _ _
      | exact LeO.none _
      | refine LeO.ite ?_ ?_
      | refine LeO.bind ?_ (fun _ => ?_)
theorem hourglassref4_Of.mono : ∀ a0 k, LeO (hourglassref4_Of.f k a0) (hourglassref4_Of.f (k + 1) a0) := by
  intro a0 k
  obtain ⟨ih0, ih1, ih2, ih3, ih4⟩ := hourglassref4_Of.mono_l k
  unfold hourglassref4_Of.f
  repeat' first
      | (with_reducible exact ih0 _ _)
      | (with_reducible exact ih1 _ _)
      | (with_reducible exact ih2 _ _)
      | (with_reducible exact ih3 _ _)
      | (with_reducible exact ih4 _ _ _)
      | (with_reducible exact hourglassref4_Length.mono _ _ _)
      | (with_reducible exact hourglassref4_first.mono _ _)
      | (with_reducible exact LeO.refl _)
      | (with_reducible exact LeO.none _)
      | (with_reducible refine LeO.ite ?_ ?_)
      | (with_reducible refine LeO.bind ?_ (fun _ => ?_))
      | exact ih0 _ _
      | exact ih1 _ _
      | exact ih2 _ _
      | exact ih3 _ _
      | exact ih4 _ _ _
      | exact hourglassref4_Length.mono _ _ _
      | exact hourglassref4_first.mono _ _
      | exact LeO.none _
      | refine LeO.ite ?_ ?_
      | refine LeO.bind ?_ (fun _ => ?_)
set_option maxHeartbeats 8000000 in
set_option maxRecDepth 100000 in
theorem hourglassref4_Of.calls (k : Nat) (a0 : Int) (r1 : Int) (r2 : Int) (r3 : Int) (r4 : Bool) (w : World) (h : hourglassref4_Of.f k a0 = some (r1, r2, r3, r4)) :
    Calls Tryd.prog 16 #[.int .i64 a0] w fun e w' => e = .returned (.tuple #[.agg #[.int .i64 r1, .int .i64 r2, .int .i64 r3], .bool r4]) ∧ Below w.heap.size w w' := by
  have hu30 := Tryd.underlying30
  have HB := Aside0.mk (Below.refl w.heap.size w)
  have H : ((hourglassref4_first.f k (-9999)).bind fun t143 => (if a0 < t143 then (hourglassref4_Of.j0 k a0 true) else ((hourglassref4_first.f k 10000).bind fun t144 => (hourglassref4_Of.j0 k a0 (decide (a0 ≥ t144)))))) = some (r1, r2, r3, r4) := h
  clear h
  have HC2 := Aside0.mk H
  clear H
  go_enter Tryd.func16, Tryd.ntmps16
  go_upto_region 1 with (first | ((with_reducible refine gate_dst (N := 2) rfl ?_); refine box_event ?hg (N := 2) ?hd (cs := #[.int .i64 0, .int .i64 0, .int .i64 0]) (t := 30) ?hr ?_; (case hd => rfl); (case hg => rfl); (case hr => first | (go_simp; done) | (go_simp; rfl)); intro gb142 hg w3 hbox hb; have n0_ := Aside0.mk (below_step (by repeat (first | (with_reducible first | exact HB.out | apply below_alloc | apply pw_below_drewN | apply below_drew1) | exact HB.out)) hb); have n1_ := Aside0.mk (hbox); have n2_ := Aside0.mk ((by rw [hg]; exact (below_size (by repeat (first | (with_reducible first | exact HB.out | apply below_alloc | apply pw_below_drewN | apply below_drew1) | exact HB.out))) : w.heap.size ≤ gb142)); have n3_ := Aside0.mk ((by rw [hg]; exact (below_size (by repeat (first | (with_reducible first | exact HB.out | apply below_alloc | apply pw_below_drewN | apply below_drew1) | exact HB.out))) : w.heap.size ≤ gb142)); clear HB; have HB := n0_; have BK142 := n1_; have GW142 := n2_; have GE142 := n3_; clear n0_ n1_ n2_ n3_; clear hb hbox hg))
  (try simp only [Act.put, List.setIfInBounds_toArray, List.set_cons_zero, List.set_cons_succ])
  go_cut [14] (fun v14 wc => ∃ (kq : Nat) (x14_1 : Bool), v14 = .bool x14_1 ∧ Aside0 (hourglassref4_Of.j0 kq a0 x14_1 = some (r1, r2, r3, r4)) ∧ Aside0 (kq ≤ k) ∧ Aside0 (wc.heap[gb142]? = some (.cells #[.int .i64 0, .int .i64 0, .int .i64 0] 30 (0, 0))) ∧ Aside0 (Below w.heap.size w wc))
  case first =>
    have H := HC2.out
    clear HC2
    replace H := Option.bind_eq_some_iff.mp H
    obtain ⟨t143, A40, H⟩ := H
    replace H : (if a0 < t143 then (hourglassref4_Of.j0 k a0 true) else ((hourglassref4_first.f k 10000).bind fun t144 => (hourglassref4_Of.j0 k a0 (decide (a0 ≥ t144))))) = some (r1, r2, r3, r4) := H
    have A4 := Aside0.mk A40
    clear A40
    by_cases c5 : a0 < t143
    · rw [if_pos c5] at H
      have c5b0 : decide (a0 < t143) = true := decide_eq_true c5
      clear c5
      (first | rw [c5b0] | (simp only [i64_w, i32_w]; rw [c5b0]) | skip)
      have H' := Aside0.mk H
      clear H
      go_wp2_with (first | ((with_reducible refine gate_callee (f := 30) rfl ?_); refine goesL_ (some 8) rfl rfl Tryd.func30 (by kernel_rfl) rfl #[.int .i64 (-9999)] rfl (by (try simp only [List.map_toArray, List.map_cons, List.map_nil]); first | done | rfl | (simp only [List.length_drop, List.length_take]; rfl)) ?_; (with_reducible refine (hourglassref4_first.calls k (-9999) t143 _ A4.out).mono ?_); rintro e w' ⟨rfl, ⟨nd, rfl⟩⟩; refine ⟨_, rfl, ?_⟩))
      go_meet
      case rel => exact ⟨_, (true), (by first | rfl | (simp; done) | (simp [*]; done)), H', ⟨by first | omega | exact Nat.le_refl _⟩, ⟨by (with_reducible repeat (first | refine blk_drewN ?_ _ | refine blk_drew ?_ | refine blk_alloc ?_ _)); exact BK142.out⟩, ⟨by repeat (first | (with_reducible first | exact HB.out | apply below_alloc | apply pw_below_drewN | apply below_drew1 | refine below_set ?_ GE142.out) | exact HB.out)⟩⟩
    · rw [if_neg c5] at H
      have c5b0 : decide (a0 < t143) = false := decide_eq_false c5
      clear c5
      (first | rw [c5b0] | (simp only [i64_w, i32_w]; rw [c5b0]) | skip)
      replace H := Option.bind_eq_some_iff.mp H
      obtain ⟨t144, A60, H⟩ := H
      replace H : (hourglassref4_Of.j0 k a0 (decide (a0 ≥ t144))) = some (r1, r2, r3, r4) := H
      have A6 := Aside0.mk A60
      clear A60
      have H' := Aside0.mk H
      clear H
      go_wp2_with (first | ((with_reducible refine gate_callee (f := 30) rfl ?_); refine goesL_ (some 8) rfl rfl Tryd.func30 (by kernel_rfl) rfl #[.int .i64 (-9999)] rfl (by (try simp only [List.map_toArray, List.map_cons, List.map_nil]); first | done | rfl | (simp only [List.length_drop, List.length_take]; rfl)) ?_; (with_reducible refine (hourglassref4_first.calls k (-9999) t143 _ A4.out).mono ?_); rintro e w' ⟨rfl, ⟨nd, rfl⟩⟩; refine ⟨_, rfl, ?_⟩) | (go_at_call 30; (with_reducible refine (hourglassref4_first.calls k 10000 t144 _ A6.out).mono ?_); rintro e w' ⟨rfl, ⟨nd, rfl⟩⟩))
      go_meet
      case rel => exact ⟨_, (decide (a0 ≥ t144)), (by first | rfl | (simp; done) | (simp [*]; done)), H', ⟨by first | omega | exact Nat.le_refl _⟩, ⟨by (with_reducible repeat (first | refine blk_drewN ?_ _ | refine blk_drew ?_ | refine blk_alloc ?_ _)); exact BK142.out⟩, ⟨by repeat (first | (with_reducible first | exact HB.out | apply below_alloc | apply pw_below_drewN | apply below_drew1 | refine below_set ?_ GE142.out) | exact HB.out)⟩⟩
  case rest =>
    clear HC2
    try clear c1
    try clear p2
    try clear c3
    try clear c5
    try clear c5b0
    obtain ⟨kq, x14_1, rfl, HA, HJ1, BK142, HB⟩ := hcut
    cases kq with
    | zero => exact absurd HA.out (by simp [hourglassref4_Of.j0])
    | succ kj1 =>
      have H := HA.out
      clear HA
      simp only [hourglassref4_Of.j0] at H
      by_cases c7 : x14_1 = true
      · subst c7
        have H1 : (some (0, 0, 0, false)) = some (r1, r2, r3, r4) := by rw [if_pos rfl] at H; exact H
        clear H
        have H := H1
        clear H1
        simp only [Option.some.injEq, Prod.mk.injEq] at H
        obtain ⟨rfl, rfl, rfl, rfl⟩ := H
        have hcz8_0 : wc.cell? ⟨gb142, 0, none⟩ = some (.int .i64 0) := (blk_cell BK142.out 0).trans rfl
        have hcz8_1 : wc.cell? ⟨gb142, 1, none⟩ = some (.int .i64 0) := (blk_cell BK142.out 1).trans rfl
        have hcz8_2 : wc.cell? ⟨gb142, 2, none⟩ = some (.int .i64 0) := (blk_cell BK142.out 2).trans rfl
        have hfz8_0 := blk_frozen BK142.out 0
        have hfz8_1 := blk_frozen BK142.out 1
        have hfz8_2 := blk_frozen BK142.out 2
        go_wp2
        refine bodyPost_ret (results_ct rfl _ _ gb142 30 #[.int .i64 0, .int .i64 0, .int .i64 0] (0, 0) _ rfl (by (with_reducible repeat (first | refine blk_drewN ?_ _ | refine blk_drew ?_ | refine blk_alloc ?_ _)); refine blk_put (cs := #[.int .i64 0, .int .i64 0, .int .i64 0]) ?_ 2 _ rfl; (with_reducible repeat (first | refine blk_drewN ?_ _ | refine blk_drew ?_ | refine blk_alloc ?_ _)); refine blk_put (cs := #[.int .i64 0, .int .i64 0, .int .i64 0]) ?_ 1 _ rfl; (with_reducible repeat (first | refine blk_drewN ?_ _ | refine blk_drew ?_ | refine blk_alloc ?_ _)); refine blk_put (cs := #[.int .i64 0, .int .i64 0, .int .i64 0]) ?_ 0 _ rfl; (with_reducible repeat (first | refine blk_drewN ?_ _ | refine blk_drew ?_ | refine blk_alloc ?_ _)); exact BK142.out) Tryd.underlying30 rfl (by kernel_rfl)) rfl ?_
        exact ⟨by first | rfl | (simp [errW_none, errW_some] <;> rfl) | (simp [*, errW_none, errW_some] <;> rfl), by repeat (first | (with_reducible first | exact HB.out | apply below_alloc | apply pw_below_drewN | apply below_drew1 | refine below_set ?_ GE142.out) | exact HB.out)⟩
      · replace c7 := Bool.eq_false_iff.mpr c7
        subst c7
        have H1 : (if a0 < 0 then (hourglassref4_Of.j1 kj1 a0 (wrap64 ((wrap64 (1970 + (wrap64 (Int.tdiv a0 365)))) - 1))) else (hourglassref4_Of.j1 kj1 a0 (wrap64 (1970 + (wrap64 (Int.tdiv a0 366)))))) = some (r1, r2, r3, r4) := by rw [if_neg (show ¬ (false = true) by decide)] at H; exact H
        clear H
        have H := H1
        clear H1
        have HC9 := Aside0.mk H
        clear H
        go_upto_if 20 with (fail)
        go_cut [4] (fun v4 wc => ∃ (kq : Nat) (x4_8 : Int), v4 = .int .i64 x4_8 ∧ Aside0 (hourglassref4_Of.j1 kq a0 x4_8 = some (r1, r2, r3, r4)) ∧ Aside0 (kq ≤ kj1) ∧ Aside0 (wc.heap[gb142]? = some (.cells #[.int .i64 0, .int .i64 0, .int .i64 0] 30 (0, 0))) ∧ Aside0 (Below w.heap.size w wc))
        case first =>
          have H := HC9.out
          clear HC9
          by_cases c10 : a0 < 0
          · rw [if_pos c10] at H
            have c10b0 : decide (a0 < 0) = true := decide_eq_true c10
            clear c10
            (first | rw [c10b0] | (simp only [i64_w, i32_w]; rw [c10b0]) | skip)
            have H' := Aside0.mk H
            clear H
            go_wp2
            go_meet
            case rel => exact ⟨_, (wrap64 ((wrap64 (1970 + (wrap64 (Int.tdiv a0 365)))) - 1)), (by first | rfl | (simp; done) | (simp [*]; done)), H', ⟨by have := HJ1.out; first | omega | exact Nat.le_refl _⟩, ⟨by (with_reducible repeat (first | refine blk_drewN ?_ _ | refine blk_drew ?_ | refine blk_alloc ?_ _)); exact BK142.out⟩, ⟨by repeat (first | (with_reducible first | exact HB.out | apply below_alloc | apply pw_below_drewN | apply below_drew1 | refine below_set ?_ GE142.out) | exact HB.out)⟩⟩
          · rw [if_neg c10] at H
            have c10b0 : decide (a0 < 0) = false := decide_eq_false c10
            clear c10
            (first | rw [c10b0] | (simp only [i64_w, i32_w]; rw [c10b0]) | skip)
            have H' := Aside0.mk H
            clear H
            go_wp2
            go_meet
            case rel => exact ⟨_, (wrap64 (1970 + (wrap64 (Int.tdiv a0 366)))), (by first | rfl | (simp; done) | (simp [*]; done)), H', ⟨by have := HJ1.out; first | omega | exact Nat.le_refl _⟩, ⟨by (with_reducible repeat (first | refine blk_drewN ?_ _ | refine blk_drew ?_ | refine blk_alloc ?_ _)); exact BK142.out⟩, ⟨by repeat (first | (with_reducible first | exact HB.out | apply below_alloc | apply pw_below_drewN | apply below_drew1 | refine below_set ?_ GE142.out) | exact HB.out)⟩⟩
        case rest =>
          clear HC9
          try clear c1
          try clear p2
          try clear c3
          try clear c5
          try clear c5b0
          try clear p6
          try clear c7
          try clear c10
          try clear c10b0
          try clear hcz8_0
          try clear hcz8_1
          try clear hcz8_2
          try clear hfz8_0
          try clear hfz8_1
          try clear hfz8_2
          try clear p2
          obtain ⟨kq, x4_8, rfl, HA, HJ8, BK142, HB⟩ := hcut
          cases kq with
          | zero => exact absurd HA.out (by simp [hourglassref4_Of.j1])
          | succ kj8 =>
            have H := HA.out
            clear HA
            simp only [hourglassref4_Of.j1] at H
            have H' := Aside0.mk H
            clear H
            go_wp2
            go_loopg [4] kj8 (fun kq v4 w' => ∃ (x4_3 : Int), v4 = .int .i64 x4_3 ∧ Aside0 (hourglassref4_Of.l0 kq a0 x4_3 = some (r1, r2, r3, r4)) ∧ Aside0 (kq ≤ kj8) ∧ Aside0 (w'.heap[gb142]? = some (.cells #[.int .i64 0, .int .i64 0, .int .i64 0] 30 (0, 0))) ∧ Aside0 (Below w.heap.size w w'))
            case atStart => exact ⟨(x4_8), (by first | rfl | (simp; done) | (simp [*]; done)), H', ⟨Nat.le_refl _⟩, ⟨by (with_reducible repeat (first | refine blk_drewN ?_ _ | refine blk_drew ?_ | refine blk_alloc ?_ _)); exact BK142.out⟩, ⟨by repeat (first | (with_reducible first | exact HB.out | apply below_alloc | apply pw_below_drewN | apply below_drew1 | refine below_set ?_ GE142.out) | exact HB.out)⟩⟩
            case round =>
              clear H'
              try clear c1
              try clear p2
              try clear c3
              try clear c5
              try clear c5b0
              try clear p6
              try clear c7
              try clear c10
              try clear c10b0
              try clear hcz8_0
              try clear hcz8_1
              try clear hcz8_2
              try clear hfz8_0
              try clear hfz8_1
              try clear hfz8_2
              try clear p2
              try clear p6
              obtain ⟨x4_3, rfl, HA, HK3, BK142, HB⟩ := hrel
              cases gk with
              | zero => exact absurd HA.out (by simp [hourglassref4_Of.l0])
              | succ k3 =>
                have H := HA.out
                clear HA
                simp only [hourglassref4_Of.l0] at H
                replace H := Option.bind_eq_some_iff.mp H
                obtain ⟨t145, A110, H⟩ := H
                replace H : (if t145 ≤ a0 then (hourglassref4_Of.l0 k3 a0 (wrap64 (x4_3 + 1))) else (hourglassref4_Of.l1 k3 a0 x4_3)) = some (r1, r2, r3, r4) := H
                have A11 := Aside0.mk A110
                clear A110
                by_cases c12 : t145 ≤ a0
                · rw [if_pos c12] at H
                  have c12b0 : decide (t145 ≤ a0) = true := decide_eq_true c12
                  clear c12
                  have H' := Aside0.mk H
                  clear H
                  go_wp2_with (first | ((with_reducible refine gate_callee (f := 30) rfl ?_); refine goesL_ (some 27) rfl rfl Tryd.func30 (by kernel_rfl) rfl #[.int .i64 (wrap64 (x4_3 + 1))] rfl (by (try simp only [List.map_toArray, List.map_cons, List.map_nil]); first | done | rfl | (simp only [List.length_drop, List.length_take]; rfl)) ?_; (with_reducible refine (hourglassref4_first.calls k3 (wrap64 (x4_3 + 1)) t145 _ A11.out).mono ?_); rintro e w' ⟨rfl, ⟨nd, rfl⟩⟩; refine ⟨_, rfl, ?_⟩))
                  go_roundg k3
                  case measure => have := HJ1.out; have := HJ8.out; have := HK3.out; omega
                  case rel => exact ⟨(wrap64 (x4_3 + 1)), (by first | rfl | (simp; done) | (simp [*]; done)), H', ⟨by have := HJ1.out; have := HJ8.out; have := HK3.out; omega⟩, ⟨by (with_reducible repeat (first | refine blk_drewN ?_ _ | refine blk_drew ?_ | refine blk_alloc ?_ _)); exact BK142.out⟩, ⟨by repeat (first | (with_reducible first | exact HB.out | apply below_alloc | apply pw_below_drewN | apply below_drew1 | refine below_set ?_ GE142.out) | exact HB.out)⟩⟩
                · rw [if_neg c12] at H
                  have c12b0 : decide (t145 ≤ a0) = false := decide_eq_false c12
                  clear c12
                  have H' := Aside0.mk H
                  clear H
                  go_wp2_with (first | ((with_reducible refine gate_callee (f := 30) rfl ?_); refine goesL_ (some 27) rfl rfl Tryd.func30 (by kernel_rfl) rfl #[.int .i64 (wrap64 (x4_3 + 1))] rfl (by (try simp only [List.map_toArray, List.map_cons, List.map_nil]); first | done | rfl | (simp only [List.length_drop, List.length_take]; rfl)) ?_; (with_reducible refine (hourglassref4_first.calls k3 (wrap64 (x4_3 + 1)) t145 _ A11.out).mono ?_); rintro e w' ⟨rfl, ⟨nd, rfl⟩⟩; refine ⟨_, rfl, ?_⟩))
                  go_loopg [4] k3 (fun kq v4 w' => ∃ (x4_4 : Int), v4 = .int .i64 x4_4 ∧ Aside0 (hourglassref4_Of.l1 kq a0 x4_4 = some (r1, r2, r3, r4)) ∧ Aside0 (kq ≤ k3) ∧ Aside0 (w'.heap[gb142]? = some (.cells #[.int .i64 0, .int .i64 0, .int .i64 0] 30 (0, 0))) ∧ Aside0 (Below w.heap.size w w'))
                  case atStart => exact ⟨(x4_3), (by first | rfl | (simp; done) | (simp [*]; done)), H', ⟨Nat.le_refl _⟩, ⟨by (with_reducible repeat (first | refine blk_drewN ?_ _ | refine blk_drew ?_ | refine blk_alloc ?_ _)); exact BK142.out⟩, ⟨by repeat (first | (with_reducible first | exact HB.out | apply below_alloc | apply pw_below_drewN | apply below_drew1 | refine below_set ?_ GE142.out) | exact HB.out)⟩⟩
                  case round =>
                    clear H'
                    try clear c1
                    try clear p2
                    try clear c3
                    try clear c5
                    try clear c5b0
                    try clear p6
                    try clear c7
                    try clear c10
                    try clear c10b0
                    try clear c12
                    try clear c12b0
                    try clear hcz8_0
                    try clear hcz8_1
                    try clear hcz8_2
                    try clear hfz8_0
                    try clear hfz8_1
                    try clear hfz8_2
                    try clear p2
                    try clear p6
                    obtain ⟨x4_4, rfl, HA, HK4, BK142, HB⟩ := hrel
                    cases gk with
                    | zero => exact absurd HA.out (by simp [hourglassref4_Of.l1])
                    | succ k4 =>
                      have H := HA.out
                      clear HA
                      simp only [hourglassref4_Of.l1] at H
                      replace H := Option.bind_eq_some_iff.mp H
                      obtain ⟨t146, A130, H⟩ := H
                      replace H : (if t146 > a0 then (hourglassref4_Of.l1 k4 a0 (wrap64 (x4_4 - 1))) else ((hourglassref4_first.f k4 x4_4).bind fun t147 => (hourglassref4_Of.l2 k4 x4_4 (wrap64 (a0 - t147)) 1))) = some (r1, r2, r3, r4) := H
                      have A13 := Aside0.mk A130
                      clear A130
                      by_cases c14 : t146 > a0
                      · rw [if_pos c14] at H
                        have c14b0 : decide (a0 < t146) = true := decide_eq_true c14
                        clear c14
                        have H' := Aside0.mk H
                        clear H
                        go_wp2_with (first | ((with_reducible refine gate_callee (f := 30) rfl ?_); refine goesL_ (some 33) rfl rfl Tryd.func30 (by kernel_rfl) rfl #[.int .i64 x4_4] rfl (by (try simp only [List.map_toArray, List.map_cons, List.map_nil]); first | done | rfl | (simp only [List.length_drop, List.length_take]; rfl)) ?_; (with_reducible refine (hourglassref4_first.calls k4 x4_4 t146 _ A13.out).mono ?_); rintro e w' ⟨rfl, ⟨nd, rfl⟩⟩; refine ⟨_, rfl, ?_⟩))
                        go_roundg k4
                        case measure => have := HJ1.out; have := HJ8.out; have := HK3.out; have := HK4.out; omega
                        case rel => exact ⟨(wrap64 (x4_4 - 1)), (by first | rfl | (simp; done) | (simp [*]; done)), H', ⟨by have := HJ1.out; have := HJ8.out; have := HK3.out; have := HK4.out; omega⟩, ⟨by (with_reducible repeat (first | refine blk_drewN ?_ _ | refine blk_drew ?_ | refine blk_alloc ?_ _)); exact BK142.out⟩, ⟨by repeat (first | (with_reducible first | exact HB.out | apply below_alloc | apply pw_below_drewN | apply below_drew1 | refine below_set ?_ GE142.out) | exact HB.out)⟩⟩
                      · rw [if_neg c14] at H
                        have c14b0 : decide (a0 < t146) = false := decide_eq_false c14
                        clear c14
                        replace H := Option.bind_eq_some_iff.mp H
                        obtain ⟨t147, A150, H⟩ := H
                        replace H : (hourglassref4_Of.l2 k4 x4_4 (wrap64 (a0 - t147)) 1) = some (r1, r2, r3, r4) := H
                        have A15 := Aside0.mk A150
                        clear A150
                        have H' := Aside0.mk H
                        clear H
                        go_wp2_with (first | ((with_reducible refine gate_callee (f := 30) rfl ?_); refine goesL_ (some 33) rfl rfl Tryd.func30 (by kernel_rfl) rfl #[.int .i64 x4_4] rfl (by (try simp only [List.map_toArray, List.map_cons, List.map_nil]); first | done | rfl | (simp only [List.length_drop, List.length_take]; rfl)) ?_; (with_reducible refine (hourglassref4_first.calls k4 x4_4 t146 _ A13.out).mono ?_); rintro e w' ⟨rfl, ⟨nd, rfl⟩⟩; refine ⟨_, rfl, ?_⟩) | ((with_reducible refine gate_callee (f := 30) rfl ?_); refine goesL_ (some 40) rfl rfl Tryd.func30 (by kernel_rfl) rfl #[.int .i64 x4_4] rfl (by (try simp only [List.map_toArray, List.map_cons, List.map_nil]); first | done | rfl | (simp only [List.length_drop, List.length_take]; rfl)) ?_; (with_reducible refine (hourglassref4_first.calls k4 x4_4 t147 _ A15.out).mono ?_); rintro e w' ⟨rfl, ⟨nd, rfl⟩⟩; refine ⟨_, rfl, ?_⟩))
                        go_loopg [5, 6] k4 (fun kq v5 v6 w' => ∃ (x5_5 : Int) (x6_5 : Int), v5 = .int .i64 x5_5 ∧ v6 = .int .i64 x6_5 ∧ Aside0 (hourglassref4_Of.l2 kq x4_4 x5_5 x6_5 = some (r1, r2, r3, r4)) ∧ Aside0 (kq ≤ k4) ∧ Aside0 (w'.heap[gb142]? = some (.cells #[.int .i64 0, .int .i64 0, .int .i64 0] 30 (0, 0))) ∧ Aside0 (Below w.heap.size w w'))
                        case atStart => exact ⟨(wrap64 (a0 - t147)), (1), (by first | rfl | (simp; done) | (simp [*]; done)), (by first | rfl | (simp; done) | (simp [*]; done)), H', ⟨Nat.le_refl _⟩, ⟨by (with_reducible repeat (first | refine blk_drewN ?_ _ | refine blk_drew ?_ | refine blk_alloc ?_ _)); exact BK142.out⟩, ⟨by repeat (first | (with_reducible first | exact HB.out | apply below_alloc | apply pw_below_drewN | apply below_drew1 | refine below_set ?_ GE142.out) | exact HB.out)⟩⟩
                        case round =>
                          clear H'
                          try clear c1
                          try clear p2
                          try clear c3
                          try clear c5
                          try clear c5b0
                          try clear p6
                          try clear c7
                          try clear c10
                          try clear c10b0
                          try clear c12
                          try clear c12b0
                          try clear c14
                          try clear c14b0
                          try clear hcz8_0
                          try clear hcz8_1
                          try clear hcz8_2
                          try clear hfz8_0
                          try clear hfz8_1
                          try clear hfz8_2
                          try clear p2
                          try clear p6
                          obtain ⟨x5_5, x6_5, rfl, rfl, HA, HK5, BK142, HB⟩ := hrel
                          cases gk with
                          | zero => exact absurd HA.out (by simp [hourglassref4_Of.l2])
                          | succ k5 =>
                            have H := HA.out
                            clear HA
                            simp only [hourglassref4_Of.l2] at H
                            replace H := Option.bind_eq_some_iff.mp H
                            obtain ⟨t148, A160, H⟩ := H
                            replace H : (if x5_5 ≥ t148 then ((hourglassref4_Length.f k5 x4_4 x6_5).bind fun t149 => (hourglassref4_Of.l2 k5 x4_4 (wrap64 (x5_5 - t149)) (wrap64 (x6_5 + 1)))) else (some (x4_4, x6_5, wrap64 (x5_5 + 1), true))) = some (r1, r2, r3, r4) := H
                            have A16 := Aside0.mk A160
                            clear A160
                            by_cases c17 : x5_5 ≥ t148
                            · rw [if_pos c17] at H
                              have c17b0 : decide (t148 ≤ x5_5) = true := decide_eq_true c17
                              clear c17
                              replace H := Option.bind_eq_some_iff.mp H
                              obtain ⟨t149, A180, H⟩ := H
                              replace H : (hourglassref4_Of.l2 k5 x4_4 (wrap64 (x5_5 - t149)) (wrap64 (x6_5 + 1))) = some (r1, r2, r3, r4) := H
                              have A18 := Aside0.mk A180
                              clear A180
                              have H' := Aside0.mk H
                              clear H
                              go_wp2_with (first | ((with_reducible refine gate_callee (f := 20) rfl ?_); refine goesL_ (some 45) rfl rfl Tryd.func20 (by kernel_rfl) rfl #[.int .i64 x4_4, .int .i64 x6_5] rfl (by (try simp only [List.map_toArray, List.map_cons, List.map_nil]); first | done | rfl | (simp only [List.length_drop, List.length_take]; rfl)) ?_; (with_reducible refine (hourglassref4_Length.calls k5 x4_4 x6_5 t148 _ A16.out).mono ?_); rintro e w' ⟨rfl, ⟨nd, rfl⟩⟩; refine ⟨_, rfl, ?_⟩) | ((with_reducible refine gate_callee (f := 20) rfl ?_); refine goesL_ (some 50) rfl rfl Tryd.func20 (by kernel_rfl) rfl #[.int .i64 x4_4, .int .i64 x6_5] rfl (by (try simp only [List.map_toArray, List.map_cons, List.map_nil]); first | done | rfl | (simp only [List.length_drop, List.length_take]; rfl)) ?_; (with_reducible refine (hourglassref4_Length.calls k5 x4_4 x6_5 t149 _ A18.out).mono ?_); rintro e w' ⟨rfl, ⟨nd, rfl⟩⟩; refine ⟨_, rfl, ?_⟩))
                              go_roundg k5
                              case measure => have := HJ1.out; have := HJ8.out; have := HK3.out; have := HK4.out; have := HK5.out; omega
                              case rel => exact ⟨(wrap64 (x5_5 - t149)), (wrap64 (x6_5 + 1)), (by first | rfl | (simp; done) | (simp [*]; done)), (by first | rfl | (simp; done) | (simp [*]; done)), H', ⟨by have := HJ1.out; have := HJ8.out; have := HK3.out; have := HK4.out; have := HK5.out; omega⟩, ⟨by (with_reducible repeat (first | refine blk_drewN ?_ _ | refine blk_drew ?_ | refine blk_alloc ?_ _)); exact BK142.out⟩, ⟨by repeat (first | (with_reducible first | exact HB.out | apply below_alloc | apply pw_below_drewN | apply below_drew1 | refine below_set ?_ GE142.out) | exact HB.out)⟩⟩
                            · rw [if_neg c17] at H
                              have c17b0 : decide (t148 ≤ x5_5) = false := decide_eq_false c17
                              clear c17
                              simp only [Option.some.injEq, Prod.mk.injEq] at H
                              obtain ⟨rfl, rfl, rfl, rfl⟩ := H
                              go_wp2_with (first | ((with_reducible refine gate_callee (f := 20) rfl ?_); refine goesL_ (some 45) rfl rfl Tryd.func20 (by kernel_rfl) rfl #[.int .i64 x4_4, .int .i64 x6_5] rfl (by (try simp only [List.map_toArray, List.map_cons, List.map_nil]); first | done | rfl | (simp only [List.length_drop, List.length_take]; rfl)) ?_; (with_reducible refine (hourglassref4_Length.calls k5 x4_4 x6_5 t148 _ A16.out).mono ?_); rintro e w' ⟨rfl, ⟨nd, rfl⟩⟩; refine ⟨_, rfl, ?_⟩; have hcz19_0 : wr.cell? ⟨gb142, 0, none⟩ = some (.int .i64 0) := (blk_cell BK142.out 0).trans rfl; have hcz19_1 : wr.cell? ⟨gb142, 1, none⟩ = some (.int .i64 0) := (blk_cell BK142.out 1).trans rfl; have hcz19_2 : wr.cell? ⟨gb142, 2, none⟩ = some (.int .i64 0) := (blk_cell BK142.out 2).trans rfl; have hfz19_0 := blk_frozen BK142.out 0; have hfz19_1 := blk_frozen BK142.out 1; have hfz19_2 := blk_frozen BK142.out 2))
                              refine bodyPost_ret (results_ct rfl _ _ gb142 30 #[.int .i64 x4_4, .int .i64 x6_5, .int .i64 (wrap64 (x5_5 + 1))] (0, 0) _ rfl (by (with_reducible repeat (first | refine blk_drewN ?_ _ | refine blk_drew ?_ | refine blk_alloc ?_ _)); refine blk_put (cs := #[.int .i64 x4_4, .int .i64 x6_5, .int .i64 0]) ?_ 2 _ rfl; (with_reducible repeat (first | refine blk_drewN ?_ _ | refine blk_drew ?_ | refine blk_alloc ?_ _)); refine blk_put (cs := #[.int .i64 x4_4, .int .i64 0, .int .i64 0]) ?_ 1 _ rfl; (with_reducible repeat (first | refine blk_drewN ?_ _ | refine blk_drew ?_ | refine blk_alloc ?_ _)); refine blk_put (cs := #[.int .i64 0, .int .i64 0, .int .i64 0]) ?_ 0 _ rfl; (with_reducible repeat (first | refine blk_drewN ?_ _ | refine blk_drew ?_ | refine blk_alloc ?_ _)); exact BK142.out) Tryd.underlying30 rfl (by kernel_rfl)) rfl ?_
                              exact ⟨by first | rfl | (simp [errW_none, errW_some] <;> rfl) | (simp [*, errW_none, errW_some] <;> rfl), by repeat (first | (with_reducible first | exact HB.out | apply below_alloc | apply pw_below_drewN | apply below_drew1 | refine below_set ?_ GE142.out) | exact HB.out)⟩

end Go.Proofs.YtbgdpkpljkcnfaaDoor.QCivil
