/- What the Go functions compute: each as a Lean function, with the proof that its call answers so; written by a program of this session over the kit's print. Conditions: each theorem's own. -/
import Derived.Test.YtbgdpkpljkcnfaaDoorQCivilx0
import Derived.Test.YtbgdpkpljkcnfaaDoorQCivilx1
import Derived.Test.YtbgdpkpljkcnfaaDoorQCivilx3
import Derived.Test.YtbgdpkpljkcnfaaDoorQCivilx4
import Derived.Test.YtbgdpkpljkcnfaaDoorQCivilx5
import Derived.Test.YtbgdpkpljkcnfaaDoorQCivilx10
namespace Go.Proofs.YtbgdpkpljkcnfaaDoor.QCivil
open Go.RowKit Go.Proofs.YtbgdpkpljkcnfaaDoorW.PrintWords Go.Proofs.YtbgdpkpljkcnfaaDoorW.PrintLast Go.Proofs.YtbgdpkpljkcnfaaDoorW.PrintMore
attribute [local go_sem] max2_int min2_int max_two min_two max_three min_three max_four min_four   -- for this text's walks alone
set_option linter.unusedVariables false
set_option linter.unusedSimpArgs false

attribute [local go_sem high] eqA23
/-! ### civil_Parse: function 25 -/
mutual
def civil_Parse.j0 : Nat → ByteArray → ByteArray → Option (Int × Int × Int × Int)
  | 0, _, _ => none
  | k + 1, x0, x4 => if (x4.size : Int) = 10 then (if 0 ≤ 4 then (if 4 ≤ (x4.size : Int) then ((civil_number.f k (x4.extract 0 4)).bind fun bt272 => (if 5 ≤ 7 then (if 7 ≤ (x4.size : Int) then ((civil_number.f k (x4.extract 5 7)).bind fun bt274 => (if 8 ≤ (x4.size : Int) then ((civil_number.f k (x4.extract 8 x4.size)).bind fun bt276 => (if (x4.size : Int) < (x0.size : Int) then (civil_Parse.j1 k x0 (wrap64 (-bt272.1)) bt272.2 bt274.1 bt274.2 bt276.1 bt276.2) else (civil_Parse.j1 k x0 bt272.1 bt272.2 bt274.1 bt274.2 bt276.1 bt276.2))) else (none))) else (none)) else (none))) else (none)) else (none)) else (some (0, 0, 0, 3))
def civil_Parse.j1 : Nat → ByteArray → Int → Bool → Int → Bool → Int → Bool → Option (Int × Int × Int × Int)
  | 0, _, _, _, _, _, _, _ => none
  | k + 1, x0, x5, x6, x7, x8, x9, x10 => if x6 = true then (if x8 = true then (if x10 = true then ((civil_Text.f k x5 x7 x9).bind fun t279 => (civil_Parse.j2 k (t279.toList != x0.toList) x5 x7 x9)) else (civil_Parse.j2 k true x5 x7 x9)) else (civil_Parse.j2 k true x5 x7 x9)) else (civil_Parse.j2 k true x5 x7 x9)
def civil_Parse.j2 : Nat → Bool → Int → Int → Int → Option (Int × Int × Int × Int)
  | 0, _, _, _, _ => none
  | k + 1, x66, x279000, x279001, x279002 => if x66 = true then (some (0, 0, 0, 3)) else (some (x279000, x279001, x279002, 0))
end
def civil_Parse.f (k : Nat) (a0 : ByteArray) : Option (Int × Int × Int × Int) := if (a0.size : Int) = 11 then (if 1 ≤ (a0.size : Int) then (civil_Parse.j0 k a0 (a0.extract 1 a0.size)) else (none)) else (civil_Parse.j0 k a0 a0)
theorem civil_Parse.mono_l : ∀ k, (∀ y0 y1, LeO (civil_Parse.j0 k y0 y1) (civil_Parse.j0 (k + 1) y0 y1)) ∧ (∀ y0 y1 y2 y3 y4 y5 y6, LeO (civil_Parse.j1 k y0 y1 y2 y3 y4 y5 y6) (civil_Parse.j1 (k + 1) y0 y1 y2 y3 y4 y5 y6)) ∧ (∀ y0 y1 y2 y3, LeO (civil_Parse.j2 k y0 y1 y2 y3) (civil_Parse.j2 (k + 1) y0 y1 y2 y3))
  | 0 => ⟨fun _ _ r h => by simp [civil_Parse.j0] at h, fun _ _ _ _ _ _ _ r h => by simp [civil_Parse.j1] at h, fun _ _ _ _ r h => by simp [civil_Parse.j2] at h⟩
  | k + 1 => by
    obtain ⟨ih0, ih1, ih2⟩ := civil_Parse.mono_l k
    refine ⟨?_, ?_, ?_⟩
    · intro y0 y1
      unfold civil_Parse.j0
      repeat' first
      | (with_reducible exact ih0 _ _)
      | (with_reducible exact ih1 _ _ _ _ _ _ _)
      | (with_reducible exact ih2 _ _ _ _)
      | (with_reducible exact civil_Text.mono _ _ _ _)
      | (with_reducible exact civil_number.mono _ _)
      | (with_reducible exact LeO.refl _)
      | (with_reducible exact LeO.none _)
      | (with_reducible refine LeO.ite ?_ ?_)
      | (with_reducible refine LeO.bind ?_ (fun _ => ?_))
      | exact ih0 _ _
      | exact ih1 _ _ _ _ _ _ _
      | exact ih2 _ _ _ _
      | exact civil_Text.mono _ _ _ _
      | exact civil_number.mono _ _
      | exact LeO.none _
      | refine LeO.ite ?_ ?_
      | refine LeO.bind ?_ (fun _ => ?_)
    · intro y0 y1 y2 y3 y4 y5 y6
      unfold civil_Parse.j1
      repeat' first
      | (with_reducible exact ih0 _ _)
      | (with_reducible exact ih1 _ _ _ _ _ _ _)
      | (with_reducible exact ih2 _ _ _ _)
      | (with_reducible exact civil_Text.mono _ _ _ _)
      | (with_reducible exact civil_number.mono _ _)
      | (with_reducible exact LeO.refl _)
      | (with_reducible exact LeO.none _)
      | (with_reducible refine LeO.ite ?_ ?_)
      | (with_reducible refine LeO.bind ?_ (fun _ => ?_))
      | exact ih0 _ _
      | exact ih1 _ _ _ _ _ _ _
      | exact ih2 _ _ _ _
      | exact civil_Text.mono _ _ _ _
      | exact civil_number.mono _ _
      | exact LeO.none _
      | refine LeO.ite ?_ ?_
      | refine LeO.bind ?_ (fun _ => ?_)
    · intro y0 y1 y2 y3
      unfold civil_Parse.j2
      repeat' first
      | (with_reducible exact ih0 _ _)
      | (with_reducible exact ih1 _ _ _ _ _ _ _)
      | (with_reducible exact ih2 _ _ _ _)
      | (with_reducible exact civil_Text.mono _ _ _ _)
      | (with_reducible exact civil_number.mono _ _)
      | (with_reducible exact LeO.refl _)
      | (with_reducible exact LeO.none _)
      | (with_reducible refine LeO.ite ?_ ?_)
      | (with_reducible refine LeO.bind ?_ (fun _ => ?_))
      | exact ih0 _ _
      | exact ih1 _ _ _ _ _ _ _
      | exact ih2 _ _ _ _
      | exact civil_Text.mono _ _ _ _
      | exact civil_number.mono _ _
      | exact LeO.none _
      | refine LeO.ite ?_ ?_
      | refine LeO.bind ?_ (fun _ => ?_)
theorem civil_Parse.mono : ∀ a0 k, LeO (civil_Parse.f k a0) (civil_Parse.f (k + 1) a0) := by
  intro a0 k
  obtain ⟨ih0, ih1, ih2⟩ := civil_Parse.mono_l k
  unfold civil_Parse.f
  repeat' first
      | (with_reducible exact ih0 _ _)
      | (with_reducible exact ih1 _ _ _ _ _ _ _)
      | (with_reducible exact ih2 _ _ _ _)
      | (with_reducible exact civil_Text.mono _ _ _ _)
      | (with_reducible exact civil_number.mono _ _)
      | (with_reducible exact LeO.refl _)
      | (with_reducible exact LeO.none _)
      | (with_reducible refine LeO.ite ?_ ?_)
      | (with_reducible refine LeO.bind ?_ (fun _ => ?_))
      | exact ih0 _ _
      | exact ih1 _ _ _ _ _ _ _
      | exact ih2 _ _ _ _
      | exact civil_Text.mono _ _ _ _
      | exact civil_number.mono _ _
      | exact LeO.none _
      | refine LeO.ite ?_ ?_
      | refine LeO.bind ?_ (fun _ => ?_)
set_option maxHeartbeats 8000000 in
set_option maxRecDepth 100000 in
theorem civil_Parse.calls (k : Nat) (a0 : ByteArray) (r1 : Int) (r2 : Int) (r3 : Int) (r4 : Int) (w : World) (h : civil_Parse.f k a0 = some (r1, r2, r3, r4)) :
    Calls Tryd.prog 25 #[.string a0] w fun e w' => e = .returned (.tuple #[.agg #[.int .i64 r1, .int .i64 r2, .int .i64 r3], .int .i64 r4]) ∧ Below w.heap.size w w' := by
  have hu23 := Tryd.underlying23
  have HB := Aside0.mk (Below.refl w.heap.size w)
  have H : (if (a0.size : Int) = 11 then (if 1 ≤ (a0.size : Int) then (civil_Parse.j0 k a0 (a0.extract 1 a0.size)) else (none)) else (civil_Parse.j0 k a0 a0)) = some (r1, r2, r3, r4) := h
  clear h
  have HC2 := Aside0.mk H
  clear H
  go_enter Tryd.func25, Tryd.ntmps25
  go_upto_if 15 with (first | ((with_reducible refine gate_dst (N := 2) rfl ?_); refine box_event ?hg (N := 2) ?hd (cs := #[.int .i64 0, .int .i64 0, .int .i64 0]) (t := 23) ?hr ?_; (case hd => rfl); (case hg => rfl); (case hr => first | (go_simp; done) | (go_simp; rfl)); intro gb271 hg w3 hbox hb; have n0_ := Aside0.mk (below_step (by repeat (first | (with_reducible first | exact HB.out | apply below_alloc | apply pw_below_drewN | apply below_drew1) | exact HB.out)) hb); have n1_ := Aside0.mk (hbox); have n2_ := Aside0.mk ((by rw [hg]; exact (below_size (by repeat (first | (with_reducible first | exact HB.out | apply below_alloc | apply pw_below_drewN | apply below_drew1) | exact HB.out))) : w.heap.size ≤ gb271)); have n3_ := Aside0.mk ((by rw [hg]; exact (below_size (by repeat (first | (with_reducible first | exact HB.out | apply below_alloc | apply pw_below_drewN | apply below_drew1) | exact HB.out))) : w.heap.size ≤ gb271)); clear HB; have HB := n0_; have BK271 := n1_; have GW271 := n2_; have GE271 := n3_; clear n0_ n1_ n2_ n3_; clear hb hbox hg))
  (try simp only [Act.put, List.setIfInBounds_toArray, List.set_cons_zero, List.set_cons_succ])
  go_cut [4] (fun v4 wc => ∃ (kq : Nat) (x4_1 : ByteArray), v4 = .string x4_1 ∧ Aside0 (civil_Parse.j0 kq a0 x4_1 = some (r1, r2, r3, r4)) ∧ Aside0 (kq ≤ k) ∧ Aside0 (wc.heap[gb271]? = some (.cells #[.int .i64 0, .int .i64 0, .int .i64 0] 23 (0, 0))) ∧ Aside0 (Below w.heap.size w wc))
  case first =>
    have H := HC2.out
    clear HC2
    by_cases c4 : (a0.size : Int) = 11
    · rw [if_pos c4] at H
      have c4b0 : ((a0.size : Int) == 11) = true := beq_iff_eq.mpr c4
      have c4b1 : ((a0.size : Int) != 11) = false := bne_eq_false_iff_eq.mpr c4
      clear c4
      (first | rw [c4b0] | (simp only [i64_w, i32_w]; rw [c4b0]) | skip)
      by_cases c5 : 1 ≤ (a0.size : Int)
      · rw [if_pos c5] at H
        have c5b0 := eq_true c5
        have c5b1 : decide (1 ≤ (a0.size : Int)) = true := decide_eq_true c5
        clear c5
        have H' := Aside0.mk H
        clear H
        go_wp2
        go_meet
        case rel => exact ⟨_, (a0.extract 1 a0.size), (by first | rfl | (simp; done) | (simp [*]; done)), H', ⟨by first | omega | exact Nat.le_refl _⟩, ⟨by (with_reducible repeat (first | refine blk_drewN ?_ _ | refine blk_drew ?_ | refine blk_alloc ?_ _)); exact BK271.out⟩, ⟨by repeat (first | (with_reducible first | exact HB.out | apply below_alloc | apply pw_below_drewN | apply below_drew1 | refine below_set ?_ GE271.out) | exact HB.out)⟩⟩
      · rw [if_neg c5] at H
        exact absurd H (by simp)
    · rw [if_neg c4] at H
      have c4b0 : ((a0.size : Int) == 11) = false := beq_eq_false_iff_ne.mpr c4
      have c4b1 : ((a0.size : Int) != 11) = true := bne_iff_ne.mpr c4
      (first | rw [c4b0] | (simp only [i64_w, i32_w]; rw [c4b0]) | skip)
      have H' := Aside0.mk H
      clear H
      go_wp2
      go_meet
      case rel => exact ⟨_, (a0), (by first | rfl | (simp; done) | (simp [*]; done)), H', ⟨by first | omega | exact Nat.le_refl _⟩, ⟨by (with_reducible repeat (first | refine blk_drewN ?_ _ | refine blk_drew ?_ | refine blk_alloc ?_ _)); exact BK271.out⟩, ⟨by repeat (first | (with_reducible first | exact HB.out | apply below_alloc | apply pw_below_drewN | apply below_drew1 | refine below_set ?_ GE271.out) | exact HB.out)⟩⟩
  case rest =>
    clear HC2
    try clear c2
    try clear p2
    try clear c4
    try clear c4b0
    try clear c4b1
    try clear c5
    try clear c5b0
    try clear c5b1
    obtain ⟨kq, x4_1, rfl, HA, HJ1, BK271, HB⟩ := hcut
    cases kq with
    | zero => exact absurd HA.out (by simp [civil_Parse.j0])
    | succ kj1 =>
      have H := HA.out
      clear HA
      simp only [civil_Parse.j0] at H
      by_cases c6 : (x4_1.size : Int) = 10
      · rw [if_pos c6] at H
        have c6b0 : ((x4_1.size : Int) == 10) = true := beq_iff_eq.mpr c6
        have c6b1 : ((x4_1.size : Int) != 10) = false := bne_eq_false_iff_eq.mpr c6
        clear c6
        by_cases c7 : 0 ≤ 4
        · rw [if_pos c7] at H
          have c7b0 := eq_true c7
          have c7b1 : decide (0 ≤ 4) = true := decide_eq_true c7
          clear c7
          by_cases c8 : 4 ≤ (x4_1.size : Int)
          · rw [if_pos c8] at H
            have c8b0 := eq_true c8
            have c8b1 : decide (4 ≤ (x4_1.size : Int)) = true := decide_eq_true c8
            clear c8
            replace H := Option.bind_eq_some_iff.mp H
            obtain ⟨⟨t272, t273⟩, A90, H⟩ := H
            replace H : (if 5 ≤ 7 then (if 7 ≤ (x4_1.size : Int) then ((civil_number.f kj1 (x4_1.extract 5 7)).bind fun bt274 => (if 8 ≤ (x4_1.size : Int) then ((civil_number.f kj1 (x4_1.extract 8 x4_1.size)).bind fun bt276 => (if (x4_1.size : Int) < (a0.size : Int) then (civil_Parse.j1 kj1 a0 (wrap64 (-t272)) t273 bt274.1 bt274.2 bt276.1 bt276.2) else (civil_Parse.j1 kj1 a0 t272 t273 bt274.1 bt274.2 bt276.1 bt276.2))) else (none))) else (none)) else (none)) = some (r1, r2, r3, r4) := H
            have A9 := Aside0.mk A90
            clear A90
            by_cases c10 : 5 ≤ 7
            · rw [if_pos c10] at H
              have c10b0 := eq_true c10
              have c10b1 : decide (5 ≤ 7) = true := decide_eq_true c10
              clear c10
              by_cases c11 : 7 ≤ (x4_1.size : Int)
              · rw [if_pos c11] at H
                have c11b0 := eq_true c11
                have c11b1 : decide (7 ≤ (x4_1.size : Int)) = true := decide_eq_true c11
                clear c11
                replace H := Option.bind_eq_some_iff.mp H
                obtain ⟨⟨t274, t275⟩, A120, H⟩ := H
                replace H : (if 8 ≤ (x4_1.size : Int) then ((civil_number.f kj1 (x4_1.extract 8 x4_1.size)).bind fun bt276 => (if (x4_1.size : Int) < (a0.size : Int) then (civil_Parse.j1 kj1 a0 (wrap64 (-t272)) t273 t274 t275 bt276.1 bt276.2) else (civil_Parse.j1 kj1 a0 t272 t273 t274 t275 bt276.1 bt276.2))) else (none)) = some (r1, r2, r3, r4) := H
                have A12 := Aside0.mk A120
                clear A120
                by_cases c13 : 8 ≤ (x4_1.size : Int)
                · rw [if_pos c13] at H
                  have c13b0 := eq_true c13
                  have c13b1 : decide (8 ≤ (x4_1.size : Int)) = true := decide_eq_true c13
                  clear c13
                  replace H := Option.bind_eq_some_iff.mp H
                  obtain ⟨⟨t276, t277⟩, A140, H⟩ := H
                  replace H : (if (x4_1.size : Int) < (a0.size : Int) then (civil_Parse.j1 kj1 a0 (wrap64 (-t272)) t273 t274 t275 t276 t277) else (civil_Parse.j1 kj1 a0 t272 t273 t274 t275 t276 t277)) = some (r1, r2, r3, r4) := H
                  have A14 := Aside0.mk A140
                  clear A140
                  have HC15 := Aside0.mk H
                  clear H
                  go_upto_if 44 with (first | ((with_reducible refine gate_callee (f := 34) rfl ?_); refine goesL_ (some 25) rfl rfl Tryd.func34 (by kernel_rfl) rfl #[.string (x4_1.extract 0 4)] rfl (by (try simp only [List.map_toArray, List.map_cons, List.map_nil]); first | done | rfl | (simp only [List.length_drop, List.length_take]; rfl)) ?_; (with_reducible refine (civil_number.calls kj1 (x4_1.extract 0 4) t272 t273 _ A9.out).mono ?_); rintro e w' ⟨rfl, ⟨nd, rfl⟩⟩; refine ⟨_, rfl, ?_⟩) | ((with_reducible refine gate_callee (f := 34) rfl ?_); refine goesL_ (some 31) rfl rfl Tryd.func34 (by kernel_rfl) rfl #[.string (x4_1.extract 5 7)] rfl (by (try simp only [List.map_toArray, List.map_cons, List.map_nil]); first | done | rfl | (simp only [List.length_drop, List.length_take]; rfl)) ?_; (with_reducible refine (civil_number.calls kj1 (x4_1.extract 5 7) t274 t275 _ A12.out).mono ?_); rintro e w' ⟨rfl, ⟨nd, rfl⟩⟩; refine ⟨_, rfl, ?_⟩) | ((with_reducible refine gate_callee (f := 34) rfl ?_); refine goesL_ (some 37) rfl rfl Tryd.func34 (by kernel_rfl) rfl #[.string (x4_1.extract 8 x4_1.size)] rfl (by (try simp only [List.map_toArray, List.map_cons, List.map_nil]); first | done | rfl | (simp only [List.length_drop, List.length_take]; rfl)) ?_; (with_reducible refine (civil_number.calls kj1 (x4_1.extract 8 x4_1.size) t276 t277 _ A14.out).mono ?_); rintro e w' ⟨rfl, ⟨nd, rfl⟩⟩; refine ⟨_, rfl, ?_⟩))
                  (try simp only [Act.put, List.setIfInBounds_toArray, List.set_cons_zero, List.set_cons_succ])
                  go_cut [5] (fun v5 wc => ∃ (kq : Nat) (x5_14 : Int), v5 = .int .i64 x5_14 ∧ Aside0 (civil_Parse.j1 kq a0 x5_14 t273 t274 t275 t276 t277 = some (r1, r2, r3, r4)) ∧ Aside0 (kq ≤ kj1) ∧ Aside0 (wc.heap[gb271]? = some (.cells #[.int .i64 0, .int .i64 0, .int .i64 0] 23 (0, 0))) ∧ Aside0 (Below w.heap.size w wc))
                  case first =>
                    have H := HC15.out
                    clear HC15
                    by_cases c16 : (x4_1.size : Int) < (a0.size : Int)
                    · rw [if_pos c16] at H
                      have c16b0 : decide ((x4_1.size : Int) < (a0.size : Int)) = true := decide_eq_true c16
                      have c16b1 : decide (x4_1.size < a0.size) = true := decide_eq_true (Int.ofNat_lt.mp c16)
                      have c16b2 : x4_1.size < a0.size := Int.ofNat_lt.mp c16
                      clear c16
                      (first | rw [c16b0] | (simp only [i64_w, i32_w]; rw [c16b0]) | skip)
                      have H' := Aside0.mk H
                      clear H
                      go_wp2
                      go_meet
                      case rel => exact ⟨_, (wrap64 (-t272)), (by first | rfl | (simp; done) | (simp [*]; done)), H', ⟨by have := HJ1.out; first | omega | exact Nat.le_refl _⟩, ⟨by (with_reducible repeat (first | refine blk_drewN ?_ _ | refine blk_drew ?_ | refine blk_alloc ?_ _)); exact BK271.out⟩, ⟨by repeat (first | (with_reducible first | exact HB.out | apply below_alloc | apply pw_below_drewN | apply below_drew1 | refine below_set ?_ GE271.out) | exact HB.out)⟩⟩
                    · rw [if_neg c16] at H
                      have c16b0 : decide ((x4_1.size : Int) < (a0.size : Int)) = false := decide_eq_false c16
                      have c16b1 : decide (x4_1.size < a0.size) = false := decide_eq_false (fun h => c16 (Int.ofNat_lt.mpr h))
                      have c16b2 : ¬ (x4_1.size < a0.size) := fun h => c16 (Int.ofNat_lt.mpr h)
                      clear c16
                      (first | rw [c16b0] | (simp only [i64_w, i32_w]; rw [c16b0]) | skip)
                      have H' := Aside0.mk H
                      clear H
                      go_wp2
                      go_meet
                      case rel => exact ⟨_, (t272), (by first | rfl | (simp; done) | (simp [*]; done)), H', ⟨by have := HJ1.out; first | omega | exact Nat.le_refl _⟩, ⟨by (with_reducible repeat (first | refine blk_drewN ?_ _ | refine blk_drew ?_ | refine blk_alloc ?_ _)); exact BK271.out⟩, ⟨by repeat (first | (with_reducible first | exact HB.out | apply below_alloc | apply pw_below_drewN | apply below_drew1 | refine below_set ?_ GE271.out) | exact HB.out)⟩⟩
                  case rest =>
                    clear HC15
                    try clear c1
                    try clear c2
                    try clear p2
                    try clear c3
                    try clear c4
                    try clear c4b0
                    try clear c4b1
                    try clear c5
                    try clear c5b0
                    try clear c5b1
                    try clear c6
                    try clear c6b0
                    try clear c6b1
                    try clear p6
                    try clear c7
                    try clear c7b0
                    try clear c7b1
                    try clear c8
                    try clear c8b0
                    try clear c8b1
                    try clear c10
                    try clear c10b0
                    try clear c10b1
                    try clear c11
                    try clear c11b0
                    try clear c11b1
                    try clear c13
                    try clear c13b0
                    try clear c13b1
                    try clear c16
                    try clear c16b0
                    try clear c16b1
                    try clear c16b2
                    try clear p2
                    obtain ⟨kq, x5_14, rfl, HA, HJ14, BK271, HB⟩ := hcut
                    cases kq with
                    | zero => exact absurd HA.out (by simp [civil_Parse.j1])
                    | succ kj14 =>
                      have H := HA.out
                      clear HA
                      simp only [civil_Parse.j1] at H
                      have HC17 := Aside0.mk H
                      clear H
                      go_upto_region 12 with (first | ((with_reducible refine gate_dst (N := 11) rfl ?_); refine box_event ?hg (N := 11) ?hd (cs := #[.int .i64 0, .int .i64 0, .int .i64 0]) (t := 23) ?hr ?_; (case hd => rfl); (case hg => rfl); (case hr => first | (go_simp; done) | (go_simp; rfl)); intro gb278 hg w18 hbox hb; have n0_ := Aside0.mk (blk_below (g := gb271) (o := .cells #[.int .i64 0, .int .i64 0, .int .i64 0] 23 (0, 0)) (by (with_reducible repeat (first | refine blk_drewN ?_ _ | refine blk_drew ?_ | refine blk_alloc ?_ _)); exact BK271.out) hb); have n1_ := Aside0.mk (below_step (by repeat (first | (with_reducible first | exact HB.out | apply below_alloc | apply pw_below_drewN | apply below_drew1 | refine below_set ?_ GE271.out) | exact HB.out)) hb); have n2_ := Aside0.mk (hbox); have n3_ := Aside0.mk ((by rw [hg]; exact (below_size (by repeat (first | (with_reducible first | exact HB.out | apply below_alloc | apply pw_below_drewN | apply below_drew1 | refine below_set ?_ GE271.out) | exact HB.out))) : w.heap.size ≤ gb278)); have n4_ := Aside0.mk ((by rw [hg]; exact (below_size (by repeat (first | (with_reducible first | exact HB.out | apply below_alloc | apply pw_below_drewN | apply below_drew1 | refine below_set ?_ GE271.out) | exact HB.out))) : w.heap.size ≤ gb278)); have n5_ := Aside0.mk ((by rw [hg]; exact Nat.ne_of_lt (blk_lt (g := gb271) (o := .cells #[.int .i64 0, .int .i64 0, .int .i64 0] 23 (0, 0)) (by (with_reducible repeat (first | refine blk_drewN ?_ _ | refine blk_drew ?_ | refine blk_alloc ?_ _)); exact BK271.out)) : gb271 ≠ gb278)); have n6_ := Aside0.mk ((by rw [hg]; exact Nat.ne_of_gt (blk_lt (g := gb271) (o := .cells #[.int .i64 0, .int .i64 0, .int .i64 0] 23 (0, 0)) (by (with_reducible repeat (first | refine blk_drewN ?_ _ | refine blk_drew ?_ | refine blk_alloc ?_ _)); exact BK271.out)) : gb278 ≠ gb271)); clear BK271; clear HB; have BK271 := n0_; have HB := n1_; have BK278 := n2_; have GW278 := n3_; have GE278 := n4_; have NB271_278 := n5_; have NB278_271 := n6_; clear n0_ n1_ n2_ n3_ n4_ n5_ n6_; clear hb hbox hg; have hnb19 := NB278_271.out; have hnc19 := NB271_278.out; have hcz20_0 : w18.cell? ⟨gb278, 0, none⟩ = some (.int .i64 0) := (blk_cell BK278.out 0).trans rfl; have hcz20_1 : w18.cell? ⟨gb278, 1, none⟩ = some (.int .i64 0) := (blk_cell BK278.out 1).trans rfl; have hcz20_2 : w18.cell? ⟨gb278, 2, none⟩ = some (.int .i64 0) := (blk_cell BK278.out 2).trans rfl; have hfz20_0 := blk_frozen BK278.out 0; have hfz20_1 := blk_frozen BK278.out 1; have hfz20_2 := blk_frozen BK278.out 2))
                      (try simp only [Act.put, List.setIfInBounds_toArray, List.set_cons_zero, List.set_cons_succ])
                      go_cut [66] (fun v66 wc => ∃ (kq : Nat) (x66_16 : Bool), v66 = .bool x66_16 ∧ Aside0 (civil_Parse.j2 kq x66_16 x5_14 t274 t276 = some (r1, r2, r3, r4)) ∧ Aside0 (kq ≤ kj14) ∧ Aside0 (wc.heap[gb271]? = some (.cells #[.int .i64 0, .int .i64 0, .int .i64 0] 23 (0, 0))) ∧ Aside0 (wc.heap[gb278]? = some (.cells #[.int .i64 x5_14, .int .i64 t274, .int .i64 t276] 23 (0, 0))) ∧ Aside0 (Below w.heap.size w wc))
                      case first =>
                        have H := HC17.out
                        clear HC17
                        by_cases c21 : t273 = true
                        · subst c21
                          have H1 : (if t275 = true then (if t277 = true then ((civil_Text.f kj14 x5_14 t274 t276).bind fun t279 => (civil_Parse.j2 kj14 (t279.toList != a0.toList) x5_14 t274 t276)) else (civil_Parse.j2 kj14 true x5_14 t274 t276)) else (civil_Parse.j2 kj14 true x5_14 t274 t276)) = some (r1, r2, r3, r4) := by rw [if_pos rfl] at H; exact H
                          clear H
                          have H := H1
                          clear H1
                          by_cases c22 : t275 = true
                          · subst c22
                            have H1 : (if t277 = true then ((civil_Text.f kj14 x5_14 t274 t276).bind fun t279 => (civil_Parse.j2 kj14 (t279.toList != a0.toList) x5_14 t274 t276)) else (civil_Parse.j2 kj14 true x5_14 t274 t276)) = some (r1, r2, r3, r4) := by rw [if_pos rfl] at H; exact H
                            clear H
                            have H := H1
                            clear H1
                            by_cases c23 : t277 = true
                            · subst c23
                              have H1 : ((civil_Text.f kj14 x5_14 t274 t276).bind fun t279 => (civil_Parse.j2 kj14 (t279.toList != a0.toList) x5_14 t274 t276)) = some (r1, r2, r3, r4) := by rw [if_pos rfl] at H; exact H
                              clear H
                              have H := H1
                              clear H1
                              replace H := Option.bind_eq_some_iff.mp H
                              obtain ⟨t279, A240, H⟩ := H
                              replace H : (civil_Parse.j2 kj14 (t279.toList != a0.toList) x5_14 t274 t276) = some (r1, r2, r3, r4) := H
                              have A24 := Aside0.mk A240
                              clear A240
                              have H' := Aside0.mk H
                              clear H
                              have hnb25 := NB278_271.out
                              have hnc25 := NB271_278.out
                              have hcz26_0 : w18.cell? ⟨gb278, 0, none⟩ = some (.int .i64 0) := (blk_cell BK278.out 0).trans rfl
                              have hcz26_1 : w18.cell? ⟨gb278, 1, none⟩ = some (.int .i64 0) := (blk_cell BK278.out 1).trans rfl
                              have hcz26_2 : w18.cell? ⟨gb278, 2, none⟩ = some (.int .i64 0) := (blk_cell BK278.out 2).trans rfl
                              have hfz26_0 := blk_frozen BK278.out 0
                              have hfz26_1 := blk_frozen BK278.out 1
                              have hfz26_2 := blk_frozen BK278.out 2
                              go_wp2_with (first | (go_at_call 23; (with_reducible refine (civil_Text.calls kj14 x5_14 t274 t276 t279 _ A24.out).mono ?_); rintro e w27 ⟨rfl, hb⟩; have n0_ := Aside0.mk (blk_below (g := gb271) (o := .cells #[.int .i64 0, .int .i64 0, .int .i64 0] 23 (0, 0)) (by (with_reducible repeat (first | refine blk_drewN ?_ _ | refine blk_drew ?_ | refine blk_alloc ?_ _)); refine blk_far ?_ NB271_278.out _; (with_reducible repeat (first | refine blk_drewN ?_ _ | refine blk_drew ?_ | refine blk_alloc ?_ _)); refine blk_far ?_ NB271_278.out _; (with_reducible repeat (first | refine blk_drewN ?_ _ | refine blk_drew ?_ | refine blk_alloc ?_ _)); refine blk_far ?_ NB271_278.out _; (with_reducible repeat (first | refine blk_drewN ?_ _ | refine blk_drew ?_ | refine blk_alloc ?_ _)); exact BK271.out) hb); have n1_ := Aside0.mk (blk_below (g := gb278) (o := .cells #[.int .i64 x5_14, .int .i64 t274, .int .i64 t276] 23 (0, 0)) (by (with_reducible repeat (first | refine blk_drewN ?_ _ | refine blk_drew ?_ | refine blk_alloc ?_ _)); refine blk_put (cs := #[.int .i64 x5_14, .int .i64 t274, .int .i64 0]) ?_ 2 _ rfl; (with_reducible repeat (first | refine blk_drewN ?_ _ | refine blk_drew ?_ | refine blk_alloc ?_ _)); refine blk_put (cs := #[.int .i64 x5_14, .int .i64 0, .int .i64 0]) ?_ 1 _ rfl; (with_reducible repeat (first | refine blk_drewN ?_ _ | refine blk_drew ?_ | refine blk_alloc ?_ _)); refine blk_put (cs := #[.int .i64 0, .int .i64 0, .int .i64 0]) ?_ 0 _ rfl; (with_reducible repeat (first | refine blk_drewN ?_ _ | refine blk_drew ?_ | refine blk_alloc ?_ _)); exact BK278.out) hb); have n2_ := Aside0.mk (below_step (by repeat (first | (with_reducible first | exact HB.out | apply below_alloc | apply pw_below_drewN | apply below_drew1 | refine below_set ?_ GE271.out | refine below_set ?_ GE278.out) | exact HB.out)) hb); clear BK271; clear BK278; clear HB; have BK271 := n0_; have BK278 := n1_; have HB := n2_; clear n0_ n1_ n2_; (try clear hb); (try clear hb2); (try clear hk); (try clear hi)))
                              go_meet
                              case rel => exact ⟨_, ((t279.toList != a0.toList)), (by first | rfl | (simp; done) | (simp [*]; done)), H', ⟨by have := HJ1.out; have := HJ14.out; first | omega | exact Nat.le_refl _⟩, ⟨by (with_reducible repeat (first | refine blk_drewN ?_ _ | refine blk_drew ?_ | refine blk_alloc ?_ _)); exact BK271.out⟩, ⟨by (with_reducible repeat (first | refine blk_drewN ?_ _ | refine blk_drew ?_ | refine blk_alloc ?_ _)); exact BK278.out⟩, ⟨by repeat (first | (with_reducible first | exact HB.out | apply below_alloc | apply pw_below_drewN | apply below_drew1 | refine below_set ?_ GE271.out | refine below_set ?_ GE278.out) | exact HB.out)⟩⟩
                            · replace c23 := Bool.eq_false_iff.mpr c23
                              subst c23
                              have H1 : (civil_Parse.j2 kj14 true x5_14 t274 t276) = some (r1, r2, r3, r4) := by rw [if_neg (show ¬ (false = true) by decide)] at H; exact H
                              clear H
                              have H := H1
                              clear H1
                              have H' := Aside0.mk H
                              clear H
                              go_wp2
                              go_meet
                              case rel => exact ⟨_, (true), (by first | rfl | (simp; done) | (simp [*]; done)), H', ⟨by have := HJ1.out; have := HJ14.out; first | omega | exact Nat.le_refl _⟩, ⟨by (with_reducible repeat (first | refine blk_drewN ?_ _ | refine blk_drew ?_ | refine blk_alloc ?_ _)); refine blk_far ?_ NB271_278.out _; (with_reducible repeat (first | refine blk_drewN ?_ _ | refine blk_drew ?_ | refine blk_alloc ?_ _)); refine blk_far ?_ NB271_278.out _; (with_reducible repeat (first | refine blk_drewN ?_ _ | refine blk_drew ?_ | refine blk_alloc ?_ _)); refine blk_far ?_ NB271_278.out _; (with_reducible repeat (first | refine blk_drewN ?_ _ | refine blk_drew ?_ | refine blk_alloc ?_ _)); exact BK271.out⟩, ⟨by (with_reducible repeat (first | refine blk_drewN ?_ _ | refine blk_drew ?_ | refine blk_alloc ?_ _)); refine blk_put (cs := #[.int .i64 x5_14, .int .i64 t274, .int .i64 0]) ?_ 2 _ rfl; (with_reducible repeat (first | refine blk_drewN ?_ _ | refine blk_drew ?_ | refine blk_alloc ?_ _)); refine blk_put (cs := #[.int .i64 x5_14, .int .i64 0, .int .i64 0]) ?_ 1 _ rfl; (with_reducible repeat (first | refine blk_drewN ?_ _ | refine blk_drew ?_ | refine blk_alloc ?_ _)); refine blk_put (cs := #[.int .i64 0, .int .i64 0, .int .i64 0]) ?_ 0 _ rfl; (with_reducible repeat (first | refine blk_drewN ?_ _ | refine blk_drew ?_ | refine blk_alloc ?_ _)); exact BK278.out⟩, ⟨by repeat (first | (with_reducible first | exact HB.out | apply below_alloc | apply pw_below_drewN | apply below_drew1 | refine below_set ?_ GE271.out | refine below_set ?_ GE278.out) | exact HB.out)⟩⟩
                          · replace c22 := Bool.eq_false_iff.mpr c22
                            subst c22
                            have H1 : (civil_Parse.j2 kj14 true x5_14 t274 t276) = some (r1, r2, r3, r4) := by rw [if_neg (show ¬ (false = true) by decide)] at H; exact H
                            clear H
                            have H := H1
                            clear H1
                            have H' := Aside0.mk H
                            clear H
                            go_wp2
                            go_meet
                            case rel => exact ⟨_, (true), (by first | rfl | (simp; done) | (simp [*]; done)), H', ⟨by have := HJ1.out; have := HJ14.out; first | omega | exact Nat.le_refl _⟩, ⟨by (with_reducible repeat (first | refine blk_drewN ?_ _ | refine blk_drew ?_ | refine blk_alloc ?_ _)); refine blk_far ?_ NB271_278.out _; (with_reducible repeat (first | refine blk_drewN ?_ _ | refine blk_drew ?_ | refine blk_alloc ?_ _)); refine blk_far ?_ NB271_278.out _; (with_reducible repeat (first | refine blk_drewN ?_ _ | refine blk_drew ?_ | refine blk_alloc ?_ _)); refine blk_far ?_ NB271_278.out _; (with_reducible repeat (first | refine blk_drewN ?_ _ | refine blk_drew ?_ | refine blk_alloc ?_ _)); exact BK271.out⟩, ⟨by (with_reducible repeat (first | refine blk_drewN ?_ _ | refine blk_drew ?_ | refine blk_alloc ?_ _)); refine blk_put (cs := #[.int .i64 x5_14, .int .i64 t274, .int .i64 0]) ?_ 2 _ rfl; (with_reducible repeat (first | refine blk_drewN ?_ _ | refine blk_drew ?_ | refine blk_alloc ?_ _)); refine blk_put (cs := #[.int .i64 x5_14, .int .i64 0, .int .i64 0]) ?_ 1 _ rfl; (with_reducible repeat (first | refine blk_drewN ?_ _ | refine blk_drew ?_ | refine blk_alloc ?_ _)); refine blk_put (cs := #[.int .i64 0, .int .i64 0, .int .i64 0]) ?_ 0 _ rfl; (with_reducible repeat (first | refine blk_drewN ?_ _ | refine blk_drew ?_ | refine blk_alloc ?_ _)); exact BK278.out⟩, ⟨by repeat (first | (with_reducible first | exact HB.out | apply below_alloc | apply pw_below_drewN | apply below_drew1 | refine below_set ?_ GE271.out | refine below_set ?_ GE278.out) | exact HB.out)⟩⟩
                        · replace c21 := Bool.eq_false_iff.mpr c21
                          subst c21
                          have H1 : (civil_Parse.j2 kj14 true x5_14 t274 t276) = some (r1, r2, r3, r4) := by rw [if_neg (show ¬ (false = true) by decide)] at H; exact H
                          clear H
                          have H := H1
                          clear H1
                          have H' := Aside0.mk H
                          clear H
                          go_wp2
                          go_meet
                          case rel => exact ⟨_, (true), (by first | rfl | (simp; done) | (simp [*]; done)), H', ⟨by have := HJ1.out; have := HJ14.out; first | omega | exact Nat.le_refl _⟩, ⟨by (with_reducible repeat (first | refine blk_drewN ?_ _ | refine blk_drew ?_ | refine blk_alloc ?_ _)); refine blk_far ?_ NB271_278.out _; (with_reducible repeat (first | refine blk_drewN ?_ _ | refine blk_drew ?_ | refine blk_alloc ?_ _)); refine blk_far ?_ NB271_278.out _; (with_reducible repeat (first | refine blk_drewN ?_ _ | refine blk_drew ?_ | refine blk_alloc ?_ _)); refine blk_far ?_ NB271_278.out _; (with_reducible repeat (first | refine blk_drewN ?_ _ | refine blk_drew ?_ | refine blk_alloc ?_ _)); exact BK271.out⟩, ⟨by (with_reducible repeat (first | refine blk_drewN ?_ _ | refine blk_drew ?_ | refine blk_alloc ?_ _)); refine blk_put (cs := #[.int .i64 x5_14, .int .i64 t274, .int .i64 0]) ?_ 2 _ rfl; (with_reducible repeat (first | refine blk_drewN ?_ _ | refine blk_drew ?_ | refine blk_alloc ?_ _)); refine blk_put (cs := #[.int .i64 x5_14, .int .i64 0, .int .i64 0]) ?_ 1 _ rfl; (with_reducible repeat (first | refine blk_drewN ?_ _ | refine blk_drew ?_ | refine blk_alloc ?_ _)); refine blk_put (cs := #[.int .i64 0, .int .i64 0, .int .i64 0]) ?_ 0 _ rfl; (with_reducible repeat (first | refine blk_drewN ?_ _ | refine blk_drew ?_ | refine blk_alloc ?_ _)); exact BK278.out⟩, ⟨by repeat (first | (with_reducible first | exact HB.out | apply below_alloc | apply pw_below_drewN | apply below_drew1 | refine below_set ?_ GE271.out | refine below_set ?_ GE278.out) | exact HB.out)⟩⟩
                      case rest =>
                        clear HC17
                        try clear c1
                        try clear c2
                        try clear p2
                        try clear c3
                        try clear c4
                        try clear c4b0
                        try clear c4b1
                        try clear c5
                        try clear c5b0
                        try clear c5b1
                        try clear c6
                        try clear c6b0
                        try clear c6b1
                        try clear p6
                        try clear c7
                        try clear c7b0
                        try clear c7b1
                        try clear c8
                        try clear c8b0
                        try clear c8b1
                        try clear c10
                        try clear c10b0
                        try clear c10b1
                        try clear c11
                        try clear c11b0
                        try clear c11b1
                        try clear c13
                        try clear c13b0
                        try clear c13b1
                        try clear c16
                        try clear c16b0
                        try clear c16b1
                        try clear c16b2
                        try clear c19
                        try clear c21
                        try clear c22
                        try clear c23
                        try clear c25
                        try clear hcz20_0
                        try clear hcz20_1
                        try clear hcz20_2
                        try clear hcz26_0
                        try clear hcz26_1
                        try clear hcz26_2
                        try clear hfz20_0
                        try clear hfz20_1
                        try clear hfz20_2
                        try clear hfz26_0
                        try clear hfz26_1
                        try clear hfz26_2
                        try clear p2
                        try clear p6
                        obtain ⟨kq, x66_16, rfl, HA, HJ16, BK271, BK278, HB⟩ := hcut
                        cases kq with
                        | zero => exact absurd HA.out (by simp [civil_Parse.j2])
                        | succ kj16 =>
                          have H := HA.out
                          clear HA
                          simp only [civil_Parse.j2] at H
                          by_cases c28 : x66_16 = true
                          · subst c28
                            have H1 : (some (0, 0, 0, 3)) = some (r1, r2, r3, r4) := by rw [if_pos rfl] at H; exact H
                            clear H
                            have H := H1
                            clear H1
                            simp only [Option.some.injEq, Prod.mk.injEq] at H
                            obtain ⟨rfl, rfl, rfl, rfl⟩ := H
                            have hnb29 := NB271_278.out
                            have hnc29 := NB278_271.out
                            have hcz30_0 : wc.cell? ⟨gb271, 0, none⟩ = some (.int .i64 0) := (blk_cell BK271.out 0).trans rfl
                            have hcz30_1 : wc.cell? ⟨gb271, 1, none⟩ = some (.int .i64 0) := (blk_cell BK271.out 1).trans rfl
                            have hcz30_2 : wc.cell? ⟨gb271, 2, none⟩ = some (.int .i64 0) := (blk_cell BK271.out 2).trans rfl
                            have hfz30_0 := blk_frozen BK271.out 0
                            have hfz30_1 := blk_frozen BK271.out 1
                            have hfz30_2 := blk_frozen BK271.out 2
                            go_wp2
                            refine bodyPost_ret (results_ct rfl _ _ gb271 23 #[.int .i64 0, .int .i64 0, .int .i64 0] (0, 0) _ rfl (by (with_reducible repeat (first | refine blk_drewN ?_ _ | refine blk_drew ?_ | refine blk_alloc ?_ _)); refine blk_put (cs := #[.int .i64 0, .int .i64 0, .int .i64 0]) ?_ 2 _ rfl; (with_reducible repeat (first | refine blk_drewN ?_ _ | refine blk_drew ?_ | refine blk_alloc ?_ _)); refine blk_put (cs := #[.int .i64 0, .int .i64 0, .int .i64 0]) ?_ 1 _ rfl; (with_reducible repeat (first | refine blk_drewN ?_ _ | refine blk_drew ?_ | refine blk_alloc ?_ _)); refine blk_put (cs := #[.int .i64 0, .int .i64 0, .int .i64 0]) ?_ 0 _ rfl; (with_reducible repeat (first | refine blk_drewN ?_ _ | refine blk_drew ?_ | refine blk_alloc ?_ _)); exact BK271.out) Tryd.underlying23 rfl (by kernel_rfl)) rfl ?_
                            exact ⟨by first | rfl | (simp [errW_none, errW_some] <;> rfl) | (simp [*, errW_none, errW_some] <;> rfl), by repeat (first | (with_reducible first | exact HB.out | apply below_alloc | apply pw_below_drewN | apply below_drew1 | refine below_set ?_ GE271.out | refine below_set ?_ GE278.out) | exact HB.out)⟩
                          · replace c28 := Bool.eq_false_iff.mpr c28
                            subst c28
                            have H1 : (some (x5_14, t274, t276, 0)) = some (r1, r2, r3, r4) := by rw [if_neg (show ¬ (false = true) by decide)] at H; exact H
                            clear H
                            have H := H1
                            clear H1
                            simp only [Option.some.injEq, Prod.mk.injEq] at H
                            obtain ⟨rfl, rfl, rfl, rfl⟩ := H
                            have hnb31 := NB278_271.out
                            have hnc31 := NB271_278.out
                            have hcz32_0 : wc.cell? ⟨gb278, 0, none⟩ = some (.int .i64 x5_14) := (blk_cell BK278.out 0).trans rfl
                            have hcz32_1 : wc.cell? ⟨gb278, 1, none⟩ = some (.int .i64 t274) := (blk_cell BK278.out 1).trans rfl
                            have hcz32_2 : wc.cell? ⟨gb278, 2, none⟩ = some (.int .i64 t276) := (blk_cell BK278.out 2).trans rfl
                            have hfz32_0 := blk_frozen BK278.out 0
                            have hfz32_1 := blk_frozen BK278.out 1
                            have hfz32_2 := blk_frozen BK278.out 2
                            have hcz33_0 : wc.cell? ⟨gb271, 0, none⟩ = some (.int .i64 0) := (blk_cell BK271.out 0).trans rfl
                            have hcz33_1 : wc.cell? ⟨gb271, 1, none⟩ = some (.int .i64 0) := (blk_cell BK271.out 1).trans rfl
                            have hcz33_2 : wc.cell? ⟨gb271, 2, none⟩ = some (.int .i64 0) := (blk_cell BK271.out 2).trans rfl
                            have hfz33_0 := blk_frozen BK271.out 0
                            have hfz33_1 := blk_frozen BK271.out 1
                            have hfz33_2 := blk_frozen BK271.out 2
                            go_wp2
                            refine bodyPost_ret (results_ct rfl _ _ gb271 23 #[.int .i64 x5_14, .int .i64 t274, .int .i64 t276] (0, 0) _ rfl (by (with_reducible repeat (first | refine blk_drewN ?_ _ | refine blk_drew ?_ | refine blk_alloc ?_ _)); refine blk_put (cs := #[.int .i64 x5_14, .int .i64 t274, .int .i64 0]) ?_ 2 _ rfl; (with_reducible repeat (first | refine blk_drewN ?_ _ | refine blk_drew ?_ | refine blk_alloc ?_ _)); refine blk_put (cs := #[.int .i64 x5_14, .int .i64 0, .int .i64 0]) ?_ 1 _ rfl; (with_reducible repeat (first | refine blk_drewN ?_ _ | refine blk_drew ?_ | refine blk_alloc ?_ _)); refine blk_put (cs := #[.int .i64 0, .int .i64 0, .int .i64 0]) ?_ 0 _ rfl; (with_reducible repeat (first | refine blk_drewN ?_ _ | refine blk_drew ?_ | refine blk_alloc ?_ _)); exact BK271.out) Tryd.underlying23 rfl (by kernel_rfl)) rfl ?_
                            exact ⟨by first | rfl | (simp [errW_none, errW_some] <;> rfl) | (simp [*, errW_none, errW_some] <;> rfl), by repeat (first | (with_reducible first | exact HB.out | apply below_alloc | apply pw_below_drewN | apply below_drew1 | refine below_set ?_ GE271.out | refine below_set ?_ GE278.out) | exact HB.out)⟩
                · rw [if_neg c13] at H
                  exact absurd H (by simp)
              · rw [if_neg c11] at H
                exact absurd H (by simp)
            · rw [if_neg c10] at H
              exact absurd H (by simp)
          · rw [if_neg c8] at H
            exact absurd H (by simp)
        · rw [if_neg c7] at H
          exact absurd H (by simp)
      · rw [if_neg c6] at H
        have c6b0 : ((x4_1.size : Int) == 10) = false := beq_eq_false_iff_ne.mpr c6
        have c6b1 : ((x4_1.size : Int) != 10) = true := bne_iff_ne.mpr c6
        simp only [Option.some.injEq, Prod.mk.injEq] at H
        obtain ⟨rfl, rfl, rfl, rfl⟩ := H
        have hcz34_0 : wc.cell? ⟨gb271, 0, none⟩ = some (.int .i64 0) := (blk_cell BK271.out 0).trans rfl
        have hcz34_1 : wc.cell? ⟨gb271, 1, none⟩ = some (.int .i64 0) := (blk_cell BK271.out 1).trans rfl
        have hcz34_2 : wc.cell? ⟨gb271, 2, none⟩ = some (.int .i64 0) := (blk_cell BK271.out 2).trans rfl
        have hfz34_0 := blk_frozen BK271.out 0
        have hfz34_1 := blk_frozen BK271.out 1
        have hfz34_2 := blk_frozen BK271.out 2
        go_wp2
        refine bodyPost_ret (results_ct rfl _ _ gb271 23 #[.int .i64 0, .int .i64 0, .int .i64 0] (0, 0) _ rfl (by (with_reducible repeat (first | refine blk_drewN ?_ _ | refine blk_drew ?_ | refine blk_alloc ?_ _)); refine blk_put (cs := #[.int .i64 0, .int .i64 0, .int .i64 0]) ?_ 2 _ rfl; (with_reducible repeat (first | refine blk_drewN ?_ _ | refine blk_drew ?_ | refine blk_alloc ?_ _)); refine blk_put (cs := #[.int .i64 0, .int .i64 0, .int .i64 0]) ?_ 1 _ rfl; (with_reducible repeat (first | refine blk_drewN ?_ _ | refine blk_drew ?_ | refine blk_alloc ?_ _)); refine blk_put (cs := #[.int .i64 0, .int .i64 0, .int .i64 0]) ?_ 0 _ rfl; (with_reducible repeat (first | refine blk_drewN ?_ _ | refine blk_drew ?_ | refine blk_alloc ?_ _)); exact BK271.out) Tryd.underlying23 rfl (by kernel_rfl)) rfl ?_
        exact ⟨by first | rfl | (simp [errW_none, errW_some] <;> rfl) | (simp [*, errW_none, errW_some] <;> rfl), by repeat (first | (with_reducible first | exact HB.out | apply below_alloc | apply pw_below_drewN | apply below_drew1 | refine below_set ?_ GE271.out) | exact HB.out)⟩

/-! ### hourglasslaw4_CivilKnown: function 8 -/
def hourglasslaw4_CivilKnown.f (k : Nat)  : Option (Bool) := (hourglasslaw4_awake.f k).bind fun t280 => (if t280 = true then ((civil_Days.f k 2001 2 29).bind fun bt281 => ((civil_Days.f k 9999 12 31).bind fun bt283 => ((civil_Of.f k (wrap64 (bt283.1 + 1))).bind fun bt285 => ((civil_Days.f k (-9999) 1 1).bind fun bt290 => ((civil_Of.f k (wrap64 (bt290.1 - 1))).bind fun bt292 => ((civil_Parse.f k (⟨#[45, 48, 48, 48, 49, 45, 49, 50, 45, 51, 49]⟩ : ByteArray)).bind fun bt297 => ((civil_Parse.f k (⟨#[45, 48, 48, 48, 48, 45, 48, 49, 45, 48, 49]⟩ : ByteArray)).bind fun bt302 => ((civil_Parse.f k (⟨#[50, 48, 48, 48, 45, 49, 45, 49]⟩ : ByteArray)).bind fun bt307 => ((civil_Parse.f k (⟨#[49, 48, 48, 48, 48, 45, 48, 49, 45, 48, 49]⟩ : ByteArray)).bind fun bt312 => (if bt281.2 = 1 then (if bt283.2 = 0 then (if bt283.1 = 2932896 then (if bt285.2.2.2 = 1 then (if bt290.2 = 0 then (if bt292.2.2.2 = 1 then (if bt297.2.2.2 = 0 then (if (bt297.1 == (-1) && (bt297.2.1 == 12 && (bt297.2.2.1 == 31))) = true then (if bt302.2.2.2 = 3 then (if bt307.2.2.2 = 3 then (if bt312.2.2.2 = 3 then ((civil_Leap.f 2000).bind fun t317 => (if t317 = true then ((civil_Leap.f 1900).bind fun t318 => (if t318 = true then (some false) else ((civil_Leap.f 0).bind fun t319 => (if t319 = true then ((civil_Leap.f (-4)).bind fun t320 => (if t320 = true then ((civil_Length.f k 2000 2).bind fun t321 => (if t321 = 29 then ((civil_Length.f k 2000 13).bind fun t322 => (if t322 = 0 then ((civil_Weekday.f (-1)).bind fun t323 => (if t323 = 2 then ((civil_Text.f k 2001 2 29).bind fun t324 => (some (t324.toList == ([] : List UInt8)))) else (some false))) else (some false))) else (some false))) else (some false))) else (some false))))) else (some false))) else (some false)) else (some false)) else (some false)) else (some false)) else (some false)) else (some false)) else (some false)) else (some false)) else (some false)) else (some false)) else (some false))))))))))) else (some false))
theorem hourglasslaw4_CivilKnown.mono : ∀ k, LeO (hourglasslaw4_CivilKnown.f k ) (hourglasslaw4_CivilKnown.f (k + 1) ) := by
  intro  k
  unfold hourglasslaw4_CivilKnown.f
  repeat' first
      | (with_reducible exact civil_Days.mono _ _ _ _)
      | (with_reducible exact civil_Length.mono _ _ _)
      | (with_reducible exact civil_Of.mono _ _)
      | (with_reducible exact civil_Parse.mono _ _)
      | (with_reducible exact civil_Text.mono _ _ _ _)
      | (with_reducible exact hourglasslaw4_awake.mono _)
      | (with_reducible exact LeO.refl _)
      | (with_reducible exact LeO.none _)
      | (with_reducible refine LeO.ite ?_ ?_)
      | (with_reducible refine LeO.bind ?_ (fun _ => ?_))
      | exact civil_Days.mono _ _ _ _
      | exact civil_Length.mono _ _ _
      | exact civil_Of.mono _ _
      | exact civil_Parse.mono _ _
      | exact civil_Text.mono _ _ _ _
      | exact hourglasslaw4_awake.mono _
      | exact LeO.none _
      | refine LeO.ite ?_ ?_
      | refine LeO.bind ?_ (fun _ => ?_)
set_option maxHeartbeats 8000000 in
set_option maxRecDepth 100000 in
theorem hourglasslaw4_CivilKnown.calls (k : Nat)  (r : Bool) (w : World) (h : hourglasslaw4_CivilKnown.f k  = some r) (hlaw_ : Aside0 (r = true)) :
    Calls Tryd.prog 8 #[] w fun e w' => e = .returned (.bool r) ∧ Below w.heap.size w w' := by
  have hu23 := Tryd.underlying23
  have HB := Aside0.mk (Below.refl w.heap.size w)
  have H : ((hourglasslaw4_awake.f k).bind fun t280 => (if t280 = true then ((civil_Days.f k 2001 2 29).bind fun bt281 => ((civil_Days.f k 9999 12 31).bind fun bt283 => ((civil_Of.f k (wrap64 (bt283.1 + 1))).bind fun bt285 => ((civil_Days.f k (-9999) 1 1).bind fun bt290 => ((civil_Of.f k (wrap64 (bt290.1 - 1))).bind fun bt292 => ((civil_Parse.f k (⟨#[45, 48, 48, 48, 49, 45, 49, 50, 45, 51, 49]⟩ : ByteArray)).bind fun bt297 => ((civil_Parse.f k (⟨#[45, 48, 48, 48, 48, 45, 48, 49, 45, 48, 49]⟩ : ByteArray)).bind fun bt302 => ((civil_Parse.f k (⟨#[50, 48, 48, 48, 45, 49, 45, 49]⟩ : ByteArray)).bind fun bt307 => ((civil_Parse.f k (⟨#[49, 48, 48, 48, 48, 45, 48, 49, 45, 48, 49]⟩ : ByteArray)).bind fun bt312 => (if bt281.2 = 1 then (if bt283.2 = 0 then (if bt283.1 = 2932896 then (if bt285.2.2.2 = 1 then (if bt290.2 = 0 then (if bt292.2.2.2 = 1 then (if bt297.2.2.2 = 0 then (if (bt297.1 == (-1) && (bt297.2.1 == 12 && (bt297.2.2.1 == 31))) = true then (if bt302.2.2.2 = 3 then (if bt307.2.2.2 = 3 then (if bt312.2.2.2 = 3 then ((civil_Leap.f 2000).bind fun t317 => (if t317 = true then ((civil_Leap.f 1900).bind fun t318 => (if t318 = true then (some false) else ((civil_Leap.f 0).bind fun t319 => (if t319 = true then ((civil_Leap.f (-4)).bind fun t320 => (if t320 = true then ((civil_Length.f k 2000 2).bind fun t321 => (if t321 = 29 then ((civil_Length.f k 2000 13).bind fun t322 => (if t322 = 0 then ((civil_Weekday.f (-1)).bind fun t323 => (if t323 = 2 then ((civil_Text.f k 2001 2 29).bind fun t324 => (some (t324.toList == ([] : List UInt8)))) else (some false))) else (some false))) else (some false))) else (some false))) else (some false))))) else (some false))) else (some false)) else (some false)) else (some false)) else (some false)) else (some false)) else (some false)) else (some false)) else (some false)) else (some false)) else (some false)) else (some false))))))))))) else (some false))) = some r := h
  clear h
  replace H := Option.bind_eq_some_iff.mp H
  obtain ⟨t280, A10, H⟩ := H
  replace H : (if t280 = true then ((civil_Days.f k 2001 2 29).bind fun bt281 => ((civil_Days.f k 9999 12 31).bind fun bt283 => ((civil_Of.f k (wrap64 (bt283.1 + 1))).bind fun bt285 => ((civil_Days.f k (-9999) 1 1).bind fun bt290 => ((civil_Of.f k (wrap64 (bt290.1 - 1))).bind fun bt292 => ((civil_Parse.f k (⟨#[45, 48, 48, 48, 49, 45, 49, 50, 45, 51, 49]⟩ : ByteArray)).bind fun bt297 => ((civil_Parse.f k (⟨#[45, 48, 48, 48, 48, 45, 48, 49, 45, 48, 49]⟩ : ByteArray)).bind fun bt302 => ((civil_Parse.f k (⟨#[50, 48, 48, 48, 45, 49, 45, 49]⟩ : ByteArray)).bind fun bt307 => ((civil_Parse.f k (⟨#[49, 48, 48, 48, 48, 45, 48, 49, 45, 48, 49]⟩ : ByteArray)).bind fun bt312 => (if bt281.2 = 1 then (if bt283.2 = 0 then (if bt283.1 = 2932896 then (if bt285.2.2.2 = 1 then (if bt290.2 = 0 then (if bt292.2.2.2 = 1 then (if bt297.2.2.2 = 0 then (if (bt297.1 == (-1) && (bt297.2.1 == 12 && (bt297.2.2.1 == 31))) = true then (if bt302.2.2.2 = 3 then (if bt307.2.2.2 = 3 then (if bt312.2.2.2 = 3 then ((civil_Leap.f 2000).bind fun t317 => (if t317 = true then ((civil_Leap.f 1900).bind fun t318 => (if t318 = true then (some false) else ((civil_Leap.f 0).bind fun t319 => (if t319 = true then ((civil_Leap.f (-4)).bind fun t320 => (if t320 = true then ((civil_Length.f k 2000 2).bind fun t321 => (if t321 = 29 then ((civil_Length.f k 2000 13).bind fun t322 => (if t322 = 0 then ((civil_Weekday.f (-1)).bind fun t323 => (if t323 = 2 then ((civil_Text.f k 2001 2 29).bind fun t324 => (some (t324.toList == ([] : List UInt8)))) else (some false))) else (some false))) else (some false))) else (some false))) else (some false))))) else (some false))) else (some false)) else (some false)) else (some false)) else (some false)) else (some false)) else (some false)) else (some false)) else (some false)) else (some false)) else (some false)) else (some false))))))))))) else (some false)) = some r := H
  have A1 := Aside0.mk A10
  clear A10
  by_cases c2 : t280 = true
  · subst c2
    have H1 : ((civil_Days.f k 2001 2 29).bind fun bt281 => ((civil_Days.f k 9999 12 31).bind fun bt283 => ((civil_Of.f k (wrap64 (bt283.1 + 1))).bind fun bt285 => ((civil_Days.f k (-9999) 1 1).bind fun bt290 => ((civil_Of.f k (wrap64 (bt290.1 - 1))).bind fun bt292 => ((civil_Parse.f k (⟨#[45, 48, 48, 48, 49, 45, 49, 50, 45, 51, 49]⟩ : ByteArray)).bind fun bt297 => ((civil_Parse.f k (⟨#[45, 48, 48, 48, 48, 45, 48, 49, 45, 48, 49]⟩ : ByteArray)).bind fun bt302 => ((civil_Parse.f k (⟨#[50, 48, 48, 48, 45, 49, 45, 49]⟩ : ByteArray)).bind fun bt307 => ((civil_Parse.f k (⟨#[49, 48, 48, 48, 48, 45, 48, 49, 45, 48, 49]⟩ : ByteArray)).bind fun bt312 => (if bt281.2 = 1 then (if bt283.2 = 0 then (if bt283.1 = 2932896 then (if bt285.2.2.2 = 1 then (if bt290.2 = 0 then (if bt292.2.2.2 = 1 then (if bt297.2.2.2 = 0 then (if (bt297.1 == (-1) && (bt297.2.1 == 12 && (bt297.2.2.1 == 31))) = true then (if bt302.2.2.2 = 3 then (if bt307.2.2.2 = 3 then (if bt312.2.2.2 = 3 then ((civil_Leap.f 2000).bind fun t317 => (if t317 = true then ((civil_Leap.f 1900).bind fun t318 => (if t318 = true then (some false) else ((civil_Leap.f 0).bind fun t319 => (if t319 = true then ((civil_Leap.f (-4)).bind fun t320 => (if t320 = true then ((civil_Length.f k 2000 2).bind fun t321 => (if t321 = 29 then ((civil_Length.f k 2000 13).bind fun t322 => (if t322 = 0 then ((civil_Weekday.f (-1)).bind fun t323 => (if t323 = 2 then ((civil_Text.f k 2001 2 29).bind fun t324 => (some (t324.toList == ([] : List UInt8)))) else (some false))) else (some false))) else (some false))) else (some false))) else (some false))))) else (some false))) else (some false)) else (some false)) else (some false)) else (some false)) else (some false)) else (some false)) else (some false)) else (some false)) else (some false)) else (some false)) else (some false))))))))))) = some r := by rw [if_pos rfl] at H; exact H
    clear H
    have H := H1
    clear H1
    replace H := Option.bind_eq_some_iff.mp H
    obtain ⟨⟨t281, t282⟩, A30, H⟩ := H
    replace H : ((civil_Days.f k 9999 12 31).bind fun bt283 => ((civil_Of.f k (wrap64 (bt283.1 + 1))).bind fun bt285 => ((civil_Days.f k (-9999) 1 1).bind fun bt290 => ((civil_Of.f k (wrap64 (bt290.1 - 1))).bind fun bt292 => ((civil_Parse.f k (⟨#[45, 48, 48, 48, 49, 45, 49, 50, 45, 51, 49]⟩ : ByteArray)).bind fun bt297 => ((civil_Parse.f k (⟨#[45, 48, 48, 48, 48, 45, 48, 49, 45, 48, 49]⟩ : ByteArray)).bind fun bt302 => ((civil_Parse.f k (⟨#[50, 48, 48, 48, 45, 49, 45, 49]⟩ : ByteArray)).bind fun bt307 => ((civil_Parse.f k (⟨#[49, 48, 48, 48, 48, 45, 48, 49, 45, 48, 49]⟩ : ByteArray)).bind fun bt312 => (if t282 = 1 then (if bt283.2 = 0 then (if bt283.1 = 2932896 then (if bt285.2.2.2 = 1 then (if bt290.2 = 0 then (if bt292.2.2.2 = 1 then (if bt297.2.2.2 = 0 then (if (bt297.1 == (-1) && (bt297.2.1 == 12 && (bt297.2.2.1 == 31))) = true then (if bt302.2.2.2 = 3 then (if bt307.2.2.2 = 3 then (if bt312.2.2.2 = 3 then ((civil_Leap.f 2000).bind fun t317 => (if t317 = true then ((civil_Leap.f 1900).bind fun t318 => (if t318 = true then (some false) else ((civil_Leap.f 0).bind fun t319 => (if t319 = true then ((civil_Leap.f (-4)).bind fun t320 => (if t320 = true then ((civil_Length.f k 2000 2).bind fun t321 => (if t321 = 29 then ((civil_Length.f k 2000 13).bind fun t322 => (if t322 = 0 then ((civil_Weekday.f (-1)).bind fun t323 => (if t323 = 2 then ((civil_Text.f k 2001 2 29).bind fun t324 => (some (t324.toList == ([] : List UInt8)))) else (some false))) else (some false))) else (some false))) else (some false))) else (some false))))) else (some false))) else (some false)) else (some false)) else (some false)) else (some false)) else (some false)) else (some false)) else (some false)) else (some false)) else (some false)) else (some false)) else (some false)))))))))) = some r := H
    have A3 := Aside0.mk A30
    clear A30
    replace H := Option.bind_eq_some_iff.mp H
    obtain ⟨⟨t283, t284⟩, A40, H⟩ := H
    replace H : ((civil_Of.f k (wrap64 (t283 + 1))).bind fun bt285 => ((civil_Days.f k (-9999) 1 1).bind fun bt290 => ((civil_Of.f k (wrap64 (bt290.1 - 1))).bind fun bt292 => ((civil_Parse.f k (⟨#[45, 48, 48, 48, 49, 45, 49, 50, 45, 51, 49]⟩ : ByteArray)).bind fun bt297 => ((civil_Parse.f k (⟨#[45, 48, 48, 48, 48, 45, 48, 49, 45, 48, 49]⟩ : ByteArray)).bind fun bt302 => ((civil_Parse.f k (⟨#[50, 48, 48, 48, 45, 49, 45, 49]⟩ : ByteArray)).bind fun bt307 => ((civil_Parse.f k (⟨#[49, 48, 48, 48, 48, 45, 48, 49, 45, 48, 49]⟩ : ByteArray)).bind fun bt312 => (if t282 = 1 then (if t284 = 0 then (if t283 = 2932896 then (if bt285.2.2.2 = 1 then (if bt290.2 = 0 then (if bt292.2.2.2 = 1 then (if bt297.2.2.2 = 0 then (if (bt297.1 == (-1) && (bt297.2.1 == 12 && (bt297.2.2.1 == 31))) = true then (if bt302.2.2.2 = 3 then (if bt307.2.2.2 = 3 then (if bt312.2.2.2 = 3 then ((civil_Leap.f 2000).bind fun t317 => (if t317 = true then ((civil_Leap.f 1900).bind fun t318 => (if t318 = true then (some false) else ((civil_Leap.f 0).bind fun t319 => (if t319 = true then ((civil_Leap.f (-4)).bind fun t320 => (if t320 = true then ((civil_Length.f k 2000 2).bind fun t321 => (if t321 = 29 then ((civil_Length.f k 2000 13).bind fun t322 => (if t322 = 0 then ((civil_Weekday.f (-1)).bind fun t323 => (if t323 = 2 then ((civil_Text.f k 2001 2 29).bind fun t324 => (some (t324.toList == ([] : List UInt8)))) else (some false))) else (some false))) else (some false))) else (some false))) else (some false))))) else (some false))) else (some false)) else (some false)) else (some false)) else (some false)) else (some false)) else (some false)) else (some false)) else (some false)) else (some false)) else (some false)) else (some false))))))))) = some r := H
    have A4 := Aside0.mk A40
    clear A40
    replace H := Option.bind_eq_some_iff.mp H
    obtain ⟨⟨t285, t286, t287, t288⟩, A50, H⟩ := H
    replace H : ((civil_Days.f k (-9999) 1 1).bind fun bt290 => ((civil_Of.f k (wrap64 (bt290.1 - 1))).bind fun bt292 => ((civil_Parse.f k (⟨#[45, 48, 48, 48, 49, 45, 49, 50, 45, 51, 49]⟩ : ByteArray)).bind fun bt297 => ((civil_Parse.f k (⟨#[45, 48, 48, 48, 48, 45, 48, 49, 45, 48, 49]⟩ : ByteArray)).bind fun bt302 => ((civil_Parse.f k (⟨#[50, 48, 48, 48, 45, 49, 45, 49]⟩ : ByteArray)).bind fun bt307 => ((civil_Parse.f k (⟨#[49, 48, 48, 48, 48, 45, 48, 49, 45, 48, 49]⟩ : ByteArray)).bind fun bt312 => (if t282 = 1 then (if t284 = 0 then (if t283 = 2932896 then (if t288 = 1 then (if bt290.2 = 0 then (if bt292.2.2.2 = 1 then (if bt297.2.2.2 = 0 then (if (bt297.1 == (-1) && (bt297.2.1 == 12 && (bt297.2.2.1 == 31))) = true then (if bt302.2.2.2 = 3 then (if bt307.2.2.2 = 3 then (if bt312.2.2.2 = 3 then ((civil_Leap.f 2000).bind fun t317 => (if t317 = true then ((civil_Leap.f 1900).bind fun t318 => (if t318 = true then (some false) else ((civil_Leap.f 0).bind fun t319 => (if t319 = true then ((civil_Leap.f (-4)).bind fun t320 => (if t320 = true then ((civil_Length.f k 2000 2).bind fun t321 => (if t321 = 29 then ((civil_Length.f k 2000 13).bind fun t322 => (if t322 = 0 then ((civil_Weekday.f (-1)).bind fun t323 => (if t323 = 2 then ((civil_Text.f k 2001 2 29).bind fun t324 => (some (t324.toList == ([] : List UInt8)))) else (some false))) else (some false))) else (some false))) else (some false))) else (some false))))) else (some false))) else (some false)) else (some false)) else (some false)) else (some false)) else (some false)) else (some false)) else (some false)) else (some false)) else (some false)) else (some false)) else (some false)))))))) = some r := H
    have A5 := Aside0.mk A50
    clear A50
    replace H := Option.bind_eq_some_iff.mp H
    obtain ⟨⟨t290, t291⟩, A60, H⟩ := H
    replace H : ((civil_Of.f k (wrap64 (t290 - 1))).bind fun bt292 => ((civil_Parse.f k (⟨#[45, 48, 48, 48, 49, 45, 49, 50, 45, 51, 49]⟩ : ByteArray)).bind fun bt297 => ((civil_Parse.f k (⟨#[45, 48, 48, 48, 48, 45, 48, 49, 45, 48, 49]⟩ : ByteArray)).bind fun bt302 => ((civil_Parse.f k (⟨#[50, 48, 48, 48, 45, 49, 45, 49]⟩ : ByteArray)).bind fun bt307 => ((civil_Parse.f k (⟨#[49, 48, 48, 48, 48, 45, 48, 49, 45, 48, 49]⟩ : ByteArray)).bind fun bt312 => (if t282 = 1 then (if t284 = 0 then (if t283 = 2932896 then (if t288 = 1 then (if t291 = 0 then (if bt292.2.2.2 = 1 then (if bt297.2.2.2 = 0 then (if (bt297.1 == (-1) && (bt297.2.1 == 12 && (bt297.2.2.1 == 31))) = true then (if bt302.2.2.2 = 3 then (if bt307.2.2.2 = 3 then (if bt312.2.2.2 = 3 then ((civil_Leap.f 2000).bind fun t317 => (if t317 = true then ((civil_Leap.f 1900).bind fun t318 => (if t318 = true then (some false) else ((civil_Leap.f 0).bind fun t319 => (if t319 = true then ((civil_Leap.f (-4)).bind fun t320 => (if t320 = true then ((civil_Length.f k 2000 2).bind fun t321 => (if t321 = 29 then ((civil_Length.f k 2000 13).bind fun t322 => (if t322 = 0 then ((civil_Weekday.f (-1)).bind fun t323 => (if t323 = 2 then ((civil_Text.f k 2001 2 29).bind fun t324 => (some (t324.toList == ([] : List UInt8)))) else (some false))) else (some false))) else (some false))) else (some false))) else (some false))))) else (some false))) else (some false)) else (some false)) else (some false)) else (some false)) else (some false)) else (some false)) else (some false)) else (some false)) else (some false)) else (some false)) else (some false))))))) = some r := H
    have A6 := Aside0.mk A60
    clear A60
    replace H := Option.bind_eq_some_iff.mp H
    obtain ⟨⟨t292, t293, t294, t295⟩, A70, H⟩ := H
    replace H : ((civil_Parse.f k (⟨#[45, 48, 48, 48, 49, 45, 49, 50, 45, 51, 49]⟩ : ByteArray)).bind fun bt297 => ((civil_Parse.f k (⟨#[45, 48, 48, 48, 48, 45, 48, 49, 45, 48, 49]⟩ : ByteArray)).bind fun bt302 => ((civil_Parse.f k (⟨#[50, 48, 48, 48, 45, 49, 45, 49]⟩ : ByteArray)).bind fun bt307 => ((civil_Parse.f k (⟨#[49, 48, 48, 48, 48, 45, 48, 49, 45, 48, 49]⟩ : ByteArray)).bind fun bt312 => (if t282 = 1 then (if t284 = 0 then (if t283 = 2932896 then (if t288 = 1 then (if t291 = 0 then (if t295 = 1 then (if bt297.2.2.2 = 0 then (if (bt297.1 == (-1) && (bt297.2.1 == 12 && (bt297.2.2.1 == 31))) = true then (if bt302.2.2.2 = 3 then (if bt307.2.2.2 = 3 then (if bt312.2.2.2 = 3 then ((civil_Leap.f 2000).bind fun t317 => (if t317 = true then ((civil_Leap.f 1900).bind fun t318 => (if t318 = true then (some false) else ((civil_Leap.f 0).bind fun t319 => (if t319 = true then ((civil_Leap.f (-4)).bind fun t320 => (if t320 = true then ((civil_Length.f k 2000 2).bind fun t321 => (if t321 = 29 then ((civil_Length.f k 2000 13).bind fun t322 => (if t322 = 0 then ((civil_Weekday.f (-1)).bind fun t323 => (if t323 = 2 then ((civil_Text.f k 2001 2 29).bind fun t324 => (some (t324.toList == ([] : List UInt8)))) else (some false))) else (some false))) else (some false))) else (some false))) else (some false))))) else (some false))) else (some false)) else (some false)) else (some false)) else (some false)) else (some false)) else (some false)) else (some false)) else (some false)) else (some false)) else (some false)) else (some false)))))) = some r := H
    have A7 := Aside0.mk A70
    clear A70
    replace H := Option.bind_eq_some_iff.mp H
    obtain ⟨⟨t297, t298, t299, t300⟩, A80, H⟩ := H
    replace H : ((civil_Parse.f k (⟨#[45, 48, 48, 48, 48, 45, 48, 49, 45, 48, 49]⟩ : ByteArray)).bind fun bt302 => ((civil_Parse.f k (⟨#[50, 48, 48, 48, 45, 49, 45, 49]⟩ : ByteArray)).bind fun bt307 => ((civil_Parse.f k (⟨#[49, 48, 48, 48, 48, 45, 48, 49, 45, 48, 49]⟩ : ByteArray)).bind fun bt312 => (if t282 = 1 then (if t284 = 0 then (if t283 = 2932896 then (if t288 = 1 then (if t291 = 0 then (if t295 = 1 then (if t300 = 0 then (if (t297 == (-1) && (t298 == 12 && (t299 == 31))) = true then (if bt302.2.2.2 = 3 then (if bt307.2.2.2 = 3 then (if bt312.2.2.2 = 3 then ((civil_Leap.f 2000).bind fun t317 => (if t317 = true then ((civil_Leap.f 1900).bind fun t318 => (if t318 = true then (some false) else ((civil_Leap.f 0).bind fun t319 => (if t319 = true then ((civil_Leap.f (-4)).bind fun t320 => (if t320 = true then ((civil_Length.f k 2000 2).bind fun t321 => (if t321 = 29 then ((civil_Length.f k 2000 13).bind fun t322 => (if t322 = 0 then ((civil_Weekday.f (-1)).bind fun t323 => (if t323 = 2 then ((civil_Text.f k 2001 2 29).bind fun t324 => (some (t324.toList == ([] : List UInt8)))) else (some false))) else (some false))) else (some false))) else (some false))) else (some false))))) else (some false))) else (some false)) else (some false)) else (some false)) else (some false)) else (some false)) else (some false)) else (some false)) else (some false)) else (some false)) else (some false)) else (some false))))) = some r := H
    have A8 := Aside0.mk A80
    clear A80
    replace H := Option.bind_eq_some_iff.mp H
    obtain ⟨⟨t302, t303, t304, t305⟩, A90, H⟩ := H
    replace H : ((civil_Parse.f k (⟨#[50, 48, 48, 48, 45, 49, 45, 49]⟩ : ByteArray)).bind fun bt307 => ((civil_Parse.f k (⟨#[49, 48, 48, 48, 48, 45, 48, 49, 45, 48, 49]⟩ : ByteArray)).bind fun bt312 => (if t282 = 1 then (if t284 = 0 then (if t283 = 2932896 then (if t288 = 1 then (if t291 = 0 then (if t295 = 1 then (if t300 = 0 then (if (t297 == (-1) && (t298 == 12 && (t299 == 31))) = true then (if t305 = 3 then (if bt307.2.2.2 = 3 then (if bt312.2.2.2 = 3 then ((civil_Leap.f 2000).bind fun t317 => (if t317 = true then ((civil_Leap.f 1900).bind fun t318 => (if t318 = true then (some false) else ((civil_Leap.f 0).bind fun t319 => (if t319 = true then ((civil_Leap.f (-4)).bind fun t320 => (if t320 = true then ((civil_Length.f k 2000 2).bind fun t321 => (if t321 = 29 then ((civil_Length.f k 2000 13).bind fun t322 => (if t322 = 0 then ((civil_Weekday.f (-1)).bind fun t323 => (if t323 = 2 then ((civil_Text.f k 2001 2 29).bind fun t324 => (some (t324.toList == ([] : List UInt8)))) else (some false))) else (some false))) else (some false))) else (some false))) else (some false))))) else (some false))) else (some false)) else (some false)) else (some false)) else (some false)) else (some false)) else (some false)) else (some false)) else (some false)) else (some false)) else (some false)) else (some false)))) = some r := H
    have A9 := Aside0.mk A90
    clear A90
    replace H := Option.bind_eq_some_iff.mp H
    obtain ⟨⟨t307, t308, t309, t310⟩, A100, H⟩ := H
    replace H : ((civil_Parse.f k (⟨#[49, 48, 48, 48, 48, 45, 48, 49, 45, 48, 49]⟩ : ByteArray)).bind fun bt312 => (if t282 = 1 then (if t284 = 0 then (if t283 = 2932896 then (if t288 = 1 then (if t291 = 0 then (if t295 = 1 then (if t300 = 0 then (if (t297 == (-1) && (t298 == 12 && (t299 == 31))) = true then (if t305 = 3 then (if t310 = 3 then (if bt312.2.2.2 = 3 then ((civil_Leap.f 2000).bind fun t317 => (if t317 = true then ((civil_Leap.f 1900).bind fun t318 => (if t318 = true then (some false) else ((civil_Leap.f 0).bind fun t319 => (if t319 = true then ((civil_Leap.f (-4)).bind fun t320 => (if t320 = true then ((civil_Length.f k 2000 2).bind fun t321 => (if t321 = 29 then ((civil_Length.f k 2000 13).bind fun t322 => (if t322 = 0 then ((civil_Weekday.f (-1)).bind fun t323 => (if t323 = 2 then ((civil_Text.f k 2001 2 29).bind fun t324 => (some (t324.toList == ([] : List UInt8)))) else (some false))) else (some false))) else (some false))) else (some false))) else (some false))))) else (some false))) else (some false)) else (some false)) else (some false)) else (some false)) else (some false)) else (some false)) else (some false)) else (some false)) else (some false)) else (some false)) else (some false))) = some r := H
    have A10 := Aside0.mk A100
    clear A100
    replace H := Option.bind_eq_some_iff.mp H
    obtain ⟨⟨t312, t313, t314, t315⟩, A110, H⟩ := H
    replace H : (if t282 = 1 then (if t284 = 0 then (if t283 = 2932896 then (if t288 = 1 then (if t291 = 0 then (if t295 = 1 then (if t300 = 0 then (if (t297 == (-1) && (t298 == 12 && (t299 == 31))) = true then (if t305 = 3 then (if t310 = 3 then (if t315 = 3 then ((civil_Leap.f 2000).bind fun t317 => (if t317 = true then ((civil_Leap.f 1900).bind fun t318 => (if t318 = true then (some false) else ((civil_Leap.f 0).bind fun t319 => (if t319 = true then ((civil_Leap.f (-4)).bind fun t320 => (if t320 = true then ((civil_Length.f k 2000 2).bind fun t321 => (if t321 = 29 then ((civil_Length.f k 2000 13).bind fun t322 => (if t322 = 0 then ((civil_Weekday.f (-1)).bind fun t323 => (if t323 = 2 then ((civil_Text.f k 2001 2 29).bind fun t324 => (some (t324.toList == ([] : List UInt8)))) else (some false))) else (some false))) else (some false))) else (some false))) else (some false))))) else (some false))) else (some false)) else (some false)) else (some false)) else (some false)) else (some false)) else (some false)) else (some false)) else (some false)) else (some false)) else (some false)) else (some false)) = some r := H
    have A11 := Aside0.mk A110
    clear A110
    by_cases c12 : t282 = 1
    · rw [if_pos c12] at H
      have c12b0 : (t282 == 1) = true := beq_iff_eq.mpr c12
      have c12b1 : (t282 != 1) = false := bne_eq_false_iff_eq.mpr c12
      clear c12
      by_cases c13 : t284 = 0
      · rw [if_pos c13] at H
        have c13b0 : (t284 == 0) = true := beq_iff_eq.mpr c13
        have c13b1 : (t284 != 0) = false := bne_eq_false_iff_eq.mpr c13
        clear c13
        by_cases c14 : t283 = 2932896
        · rw [if_pos c14] at H
          have c14b0 : (t283 == 2932896) = true := beq_iff_eq.mpr c14
          have c14b1 : (t283 != 2932896) = false := bne_eq_false_iff_eq.mpr c14
          clear c14
          by_cases c15 : t288 = 1
          · rw [if_pos c15] at H
            have c15b0 : (t288 == 1) = true := beq_iff_eq.mpr c15
            have c15b1 : (t288 != 1) = false := bne_eq_false_iff_eq.mpr c15
            clear c15
            by_cases c16 : t291 = 0
            · rw [if_pos c16] at H
              have c16b0 : (t291 == 0) = true := beq_iff_eq.mpr c16
              have c16b1 : (t291 != 0) = false := bne_eq_false_iff_eq.mpr c16
              clear c16
              by_cases c17 : t295 = 1
              · rw [if_pos c17] at H
                have c17b0 : (t295 == 1) = true := beq_iff_eq.mpr c17
                have c17b1 : (t295 != 1) = false := bne_eq_false_iff_eq.mpr c17
                clear c17
                by_cases c18 : t300 = 0
                · rw [if_pos c18] at H
                  have c18b0 : (t300 == 0) = true := beq_iff_eq.mpr c18
                  have c18b1 : (t300 != 0) = false := bne_eq_false_iff_eq.mpr c18
                  clear c18
                  by_cases c19 : (t297 == (-1) && (t298 == 12 && (t299 == 31))) = true
                  · rw [if_pos c19] at H
                    have c19b0 : (t297 == (-1) && (t298 == 12 && (t299 == 31))) = true := c19
                    (try (have c19b1 : decide (t297 = (-1) && (t298 == 12 && (t299 == 31))) = true := by simpa using c19))
                    (try (have c19b2 : (t297 == (-1) && (t298 == 12 && (t299 == 31))) = true := by simpa using c19))
                    clear c19
                    by_cases c20 : t305 = 3
                    · rw [if_pos c20] at H
                      have c20b0 : (t305 == 3) = true := beq_iff_eq.mpr c20
                      have c20b1 : (t305 != 3) = false := bne_eq_false_iff_eq.mpr c20
                      clear c20
                      by_cases c21 : t310 = 3
                      · rw [if_pos c21] at H
                        have c21b0 : (t310 == 3) = true := beq_iff_eq.mpr c21
                        have c21b1 : (t310 != 3) = false := bne_eq_false_iff_eq.mpr c21
                        clear c21
                        by_cases c22 : t315 = 3
                        · rw [if_pos c22] at H
                          have c22b0 : (t315 == 3) = true := beq_iff_eq.mpr c22
                          have c22b1 : (t315 != 3) = false := bne_eq_false_iff_eq.mpr c22
                          clear c22
                          replace H := Option.bind_eq_some_iff.mp H
                          obtain ⟨t317, A230, H⟩ := H
                          replace H : (if t317 = true then ((civil_Leap.f 1900).bind fun t318 => (if t318 = true then (some false) else ((civil_Leap.f 0).bind fun t319 => (if t319 = true then ((civil_Leap.f (-4)).bind fun t320 => (if t320 = true then ((civil_Length.f k 2000 2).bind fun t321 => (if t321 = 29 then ((civil_Length.f k 2000 13).bind fun t322 => (if t322 = 0 then ((civil_Weekday.f (-1)).bind fun t323 => (if t323 = 2 then ((civil_Text.f k 2001 2 29).bind fun t324 => (some (t324.toList == ([] : List UInt8)))) else (some false))) else (some false))) else (some false))) else (some false))) else (some false))))) else (some false)) = some r := H
                          have A23 := Aside0.mk A230
                          clear A230
                          by_cases c24 : t317 = true
                          · subst c24
                            have H1 : ((civil_Leap.f 1900).bind fun t318 => (if t318 = true then (some false) else ((civil_Leap.f 0).bind fun t319 => (if t319 = true then ((civil_Leap.f (-4)).bind fun t320 => (if t320 = true then ((civil_Length.f k 2000 2).bind fun t321 => (if t321 = 29 then ((civil_Length.f k 2000 13).bind fun t322 => (if t322 = 0 then ((civil_Weekday.f (-1)).bind fun t323 => (if t323 = 2 then ((civil_Text.f k 2001 2 29).bind fun t324 => (some (t324.toList == ([] : List UInt8)))) else (some false))) else (some false))) else (some false))) else (some false))) else (some false))))) = some r := by rw [if_pos rfl] at H; exact H
                            clear H
                            have H := H1
                            clear H1
                            replace H := Option.bind_eq_some_iff.mp H
                            obtain ⟨t318, A250, H⟩ := H
                            replace H : (if t318 = true then (some false) else ((civil_Leap.f 0).bind fun t319 => (if t319 = true then ((civil_Leap.f (-4)).bind fun t320 => (if t320 = true then ((civil_Length.f k 2000 2).bind fun t321 => (if t321 = 29 then ((civil_Length.f k 2000 13).bind fun t322 => (if t322 = 0 then ((civil_Weekday.f (-1)).bind fun t323 => (if t323 = 2 then ((civil_Text.f k 2001 2 29).bind fun t324 => (some (t324.toList == ([] : List UInt8)))) else (some false))) else (some false))) else (some false))) else (some false))) else (some false)))) = some r := H
                            have A25 := Aside0.mk A250
                            clear A250
                            by_cases c26 : t318 = true
                            · subst c26
                              have H1 : (some false) = some r := by rw [if_pos rfl] at H; exact H
                              clear H
                              have H := H1
                              clear H1
                              cases (Option.some.inj H).trans hlaw_.out
                            · replace c26 := Bool.eq_false_iff.mpr c26
                              subst c26
                              have H1 : ((civil_Leap.f 0).bind fun t319 => (if t319 = true then ((civil_Leap.f (-4)).bind fun t320 => (if t320 = true then ((civil_Length.f k 2000 2).bind fun t321 => (if t321 = 29 then ((civil_Length.f k 2000 13).bind fun t322 => (if t322 = 0 then ((civil_Weekday.f (-1)).bind fun t323 => (if t323 = 2 then ((civil_Text.f k 2001 2 29).bind fun t324 => (some (t324.toList == ([] : List UInt8)))) else (some false))) else (some false))) else (some false))) else (some false))) else (some false))) = some r := by rw [if_neg (show ¬ (false = true) by decide)] at H; exact H
                              clear H
                              have H := H1
                              clear H1
                              replace H := Option.bind_eq_some_iff.mp H
                              obtain ⟨t319, A270, H⟩ := H
                              replace H : (if t319 = true then ((civil_Leap.f (-4)).bind fun t320 => (if t320 = true then ((civil_Length.f k 2000 2).bind fun t321 => (if t321 = 29 then ((civil_Length.f k 2000 13).bind fun t322 => (if t322 = 0 then ((civil_Weekday.f (-1)).bind fun t323 => (if t323 = 2 then ((civil_Text.f k 2001 2 29).bind fun t324 => (some (t324.toList == ([] : List UInt8)))) else (some false))) else (some false))) else (some false))) else (some false))) else (some false)) = some r := H
                              have A27 := Aside0.mk A270
                              clear A270
                              by_cases c28 : t319 = true
                              · subst c28
                                have H1 : ((civil_Leap.f (-4)).bind fun t320 => (if t320 = true then ((civil_Length.f k 2000 2).bind fun t321 => (if t321 = 29 then ((civil_Length.f k 2000 13).bind fun t322 => (if t322 = 0 then ((civil_Weekday.f (-1)).bind fun t323 => (if t323 = 2 then ((civil_Text.f k 2001 2 29).bind fun t324 => (some (t324.toList == ([] : List UInt8)))) else (some false))) else (some false))) else (some false))) else (some false))) = some r := by rw [if_pos rfl] at H; exact H
                                clear H
                                have H := H1
                                clear H1
                                replace H := Option.bind_eq_some_iff.mp H
                                obtain ⟨t320, A290, H⟩ := H
                                replace H : (if t320 = true then ((civil_Length.f k 2000 2).bind fun t321 => (if t321 = 29 then ((civil_Length.f k 2000 13).bind fun t322 => (if t322 = 0 then ((civil_Weekday.f (-1)).bind fun t323 => (if t323 = 2 then ((civil_Text.f k 2001 2 29).bind fun t324 => (some (t324.toList == ([] : List UInt8)))) else (some false))) else (some false))) else (some false))) else (some false)) = some r := H
                                have A29 := Aside0.mk A290
                                clear A290
                                by_cases c30 : t320 = true
                                · subst c30
                                  have H1 : ((civil_Length.f k 2000 2).bind fun t321 => (if t321 = 29 then ((civil_Length.f k 2000 13).bind fun t322 => (if t322 = 0 then ((civil_Weekday.f (-1)).bind fun t323 => (if t323 = 2 then ((civil_Text.f k 2001 2 29).bind fun t324 => (some (t324.toList == ([] : List UInt8)))) else (some false))) else (some false))) else (some false))) = some r := by rw [if_pos rfl] at H; exact H
                                  clear H
                                  have H := H1
                                  clear H1
                                  replace H := Option.bind_eq_some_iff.mp H
                                  obtain ⟨t321, A310, H⟩ := H
                                  replace H : (if t321 = 29 then ((civil_Length.f k 2000 13).bind fun t322 => (if t322 = 0 then ((civil_Weekday.f (-1)).bind fun t323 => (if t323 = 2 then ((civil_Text.f k 2001 2 29).bind fun t324 => (some (t324.toList == ([] : List UInt8)))) else (some false))) else (some false))) else (some false)) = some r := H
                                  have A31 := Aside0.mk A310
                                  clear A310
                                  by_cases c32 : t321 = 29
                                  · rw [if_pos c32] at H
                                    have c32b0 : (t321 == 29) = true := beq_iff_eq.mpr c32
                                    have c32b1 : (t321 != 29) = false := bne_eq_false_iff_eq.mpr c32
                                    clear c32
                                    replace H := Option.bind_eq_some_iff.mp H
                                    obtain ⟨t322, A330, H⟩ := H
                                    replace H : (if t322 = 0 then ((civil_Weekday.f (-1)).bind fun t323 => (if t323 = 2 then ((civil_Text.f k 2001 2 29).bind fun t324 => (some (t324.toList == ([] : List UInt8)))) else (some false))) else (some false)) = some r := H
                                    have A33 := Aside0.mk A330
                                    clear A330
                                    by_cases c34 : t322 = 0
                                    · rw [if_pos c34] at H
                                      have c34b0 : (t322 == 0) = true := beq_iff_eq.mpr c34
                                      have c34b1 : (t322 != 0) = false := bne_eq_false_iff_eq.mpr c34
                                      clear c34
                                      replace H := Option.bind_eq_some_iff.mp H
                                      obtain ⟨t323, A350, H⟩ := H
                                      replace H : (if t323 = 2 then ((civil_Text.f k 2001 2 29).bind fun t324 => (some (t324.toList == ([] : List UInt8)))) else (some false)) = some r := H
                                      have A35 := Aside0.mk A350
                                      clear A350
                                      by_cases c36 : t323 = 2
                                      · rw [if_pos c36] at H
                                        have c36b0 : (t323 == 2) = true := beq_iff_eq.mpr c36
                                        have c36b1 : (t323 != 2) = false := bne_eq_false_iff_eq.mpr c36
                                        clear c36
                                        replace H := Option.bind_eq_some_iff.mp H
                                        obtain ⟨t324, A370, H⟩ := H
                                        replace H : (some (t324.toList == ([] : List UInt8))) = some r := H
                                        have A37 := Aside0.mk A370
                                        clear A370
                                        obtain rfl := Option.some.inj H
                                        go_enter Tryd.func8, Tryd.ntmps8
                                        go_wp2_with (first | ((with_reducible refine gate_callee (f := 11) rfl ?_); refine goesL_ (some 19) rfl rfl Tryd.func11 (by kernel_rfl) rfl #[] rfl (by (try simp only [List.map_toArray, List.map_cons, List.map_nil]); first | done | rfl | (simp only [List.length_drop, List.length_take]; rfl)) ?_; (with_reducible refine (hourglasslaw4_awake.calls k  true _ A1.out).mono ?_); rintro e w38 ⟨rfl, hb⟩; refine ⟨_, rfl, ?_⟩; have n0_ := Aside0.mk (below_step (by repeat (first | (with_reducible first | exact HB.out | apply below_alloc | apply pw_below_drewN | apply below_drew1) | exact HB.out)) hb); clear HB; have HB := n0_; clear n0_; (try clear hb); (try clear hb2); (try clear hk); (try clear hi)) | ((with_reducible refine gate_callee (f := 12) rfl ?_); refine goesL_ (some 23) rfl rfl Tryd.func12 (by kernel_rfl) rfl #[.agg #[.int .i64 2001, .int .i64 2, .int .i64 29]] rfl (by (try simp only [List.map_toArray, List.map_cons, List.map_nil]); first | done | rfl | (simp only [List.length_drop, List.length_take]; rfl)) ?_; (with_reducible refine (civil_Days.calls k 2001 2 29 t281 t282 _ A3.out).mono ?_); rintro e w39 ⟨rfl, hb⟩; refine ⟨_, rfl, ?_⟩; have n0_ := Aside0.mk (below_step (by repeat (first | (with_reducible first | exact HB.out | apply below_alloc | apply pw_below_drewN | apply below_drew1) | exact HB.out)) hb); clear HB; have HB := n0_; clear n0_; (try clear hb); (try clear hb2); (try clear hk); (try clear hi)) | ((with_reducible refine gate_callee (f := 12) rfl ?_); refine goesL_ (some 28) rfl rfl Tryd.func12 (by kernel_rfl) rfl #[.agg #[.int .i64 9999, .int .i64 12, .int .i64 31]] rfl (by (try simp only [List.map_toArray, List.map_cons, List.map_nil]); first | done | rfl | (simp only [List.length_drop, List.length_take]; rfl)) ?_; (with_reducible refine (civil_Days.calls k 9999 12 31 t283 t284 _ A4.out).mono ?_); rintro e w40 ⟨rfl, hb⟩; refine ⟨_, rfl, ?_⟩; have n0_ := Aside0.mk (below_step (by repeat (first | (with_reducible first | exact HB.out | apply below_alloc | apply pw_below_drewN | apply below_drew1) | exact HB.out)) hb); clear HB; have HB := n0_; clear n0_; (try clear hb); (try clear hb2); (try clear hk); (try clear hi)) | ((with_reducible refine gate_callee (f := 15) rfl ?_); refine goesL_ (some 34) rfl rfl Tryd.func15 (by kernel_rfl) rfl #[.int .i64 (wrap64 (t283 + 1))] rfl (by (try simp only [List.map_toArray, List.map_cons, List.map_nil]); first | done | rfl | (simp only [List.length_drop, List.length_take]; rfl)) ?_; (with_reducible refine (civil_Of.calls k (wrap64 (t283 + 1)) t285 t286 t287 t288 _ A5.out).mono ?_); rintro e w41 ⟨rfl, hb⟩; refine ⟨_, rfl, ?_⟩; have n0_ := Aside0.mk (below_step (by repeat (first | (with_reducible first | exact HB.out | apply below_alloc | apply pw_below_drewN | apply below_drew1) | exact HB.out)) hb); clear HB; have HB := n0_; clear n0_; (try clear hb); (try clear hb2); (try clear hk); (try clear hi)) | ((with_reducible refine gate_dst (N := 5) rfl ?_); refine box_event ?hg (N := 5) ?hd (cs := #[.int .i64 0, .int .i64 0, .int .i64 0]) (t := 23) ?hr ?_; (case hd => rfl); (case hg => rfl); (case hr => first | (go_simp; done) | (go_simp; rfl)); intro gb289 hg w42 hbox hb; have n0_ := Aside0.mk (below_step (by repeat (first | (with_reducible first | exact HB.out | apply below_alloc | apply pw_below_drewN | apply below_drew1) | exact HB.out)) hb); have n1_ := Aside0.mk (hbox); have n2_ := Aside0.mk ((by rw [hg]; exact (below_size (by repeat (first | (with_reducible first | exact HB.out | apply below_alloc | apply pw_below_drewN | apply below_drew1) | exact HB.out))) : w.heap.size ≤ gb289)); have n3_ := Aside0.mk ((by rw [hg]; exact (below_size (by repeat (first | (with_reducible first | exact HB.out | apply below_alloc | apply pw_below_drewN | apply below_drew1) | exact HB.out))) : w.heap.size ≤ gb289)); clear HB; have HB := n0_; have BK289 := n1_; have GW289 := n2_; have GE289 := n3_; clear n0_ n1_ n2_ n3_; clear hb hbox hg; have hcz43_0 : w42.cell? ⟨gb289, 0, none⟩ = some (.int .i64 0) := (blk_cell BK289.out 0).trans rfl; have hcz43_1 : w42.cell? ⟨gb289, 1, none⟩ = some (.int .i64 0) := (blk_cell BK289.out 1).trans rfl; have hcz43_2 : w42.cell? ⟨gb289, 2, none⟩ = some (.int .i64 0) := (blk_cell BK289.out 2).trans rfl; have hfz43_0 := blk_frozen BK289.out 0; have hfz43_1 := blk_frozen BK289.out 1; have hfz43_2 := blk_frozen BK289.out 2) | ((with_reducible refine gate_callee (f := 12) rfl ?_); refine goesL_ (some 39) rfl rfl Tryd.func12 (by kernel_rfl) rfl #[.agg #[.int .i64 (-9999), .int .i64 1, .int .i64 1]] rfl (by (try simp only [List.map_toArray, List.map_cons, List.map_nil]); first | done | rfl | (simp only [List.length_drop, List.length_take]; rfl)) ?_; (with_reducible refine (civil_Days.calls k (-9999) 1 1 t290 t291 _ A6.out).mono ?_); rintro e w44 ⟨rfl, hb⟩; refine ⟨_, rfl, ?_⟩; have n0_ := Aside0.mk (blk_below (g := gb289) (o := .cells #[.int .i64 t285, .int .i64 t286, .int .i64 t287] 23 (0, 0)) (by (with_reducible repeat (first | refine blk_drewN ?_ _ | refine blk_drew ?_ | refine blk_alloc ?_ _)); refine blk_put (cs := #[.int .i64 t285, .int .i64 t286, .int .i64 0]) ?_ 2 _ rfl; (with_reducible repeat (first | refine blk_drewN ?_ _ | refine blk_drew ?_ | refine blk_alloc ?_ _)); refine blk_put (cs := #[.int .i64 t285, .int .i64 0, .int .i64 0]) ?_ 1 _ rfl; (with_reducible repeat (first | refine blk_drewN ?_ _ | refine blk_drew ?_ | refine blk_alloc ?_ _)); refine blk_put (cs := #[.int .i64 0, .int .i64 0, .int .i64 0]) ?_ 0 _ rfl; (with_reducible repeat (first | refine blk_drewN ?_ _ | refine blk_drew ?_ | refine blk_alloc ?_ _)); exact BK289.out) hb); have n1_ := Aside0.mk (below_step (by repeat (first | (with_reducible first | exact HB.out | apply below_alloc | apply pw_below_drewN | apply below_drew1 | refine below_set ?_ GE289.out) | exact HB.out)) hb); clear BK289; clear HB; have BK289 := n0_; have HB := n1_; clear n0_ n1_; (try clear hb); (try clear hb2); (try clear hk); (try clear hi)) | ((with_reducible refine gate_callee (f := 15) rfl ?_); refine goesL_ (some 45) rfl rfl Tryd.func15 (by kernel_rfl) rfl #[.int .i64 (wrap64 (t290 - 1))] rfl (by (try simp only [List.map_toArray, List.map_cons, List.map_nil]); first | done | rfl | (simp only [List.length_drop, List.length_take]; rfl)) ?_; (with_reducible refine (civil_Of.calls k (wrap64 (t290 - 1)) t292 t293 t294 t295 _ A7.out).mono ?_); rintro e w45 ⟨rfl, hb⟩; refine ⟨_, rfl, ?_⟩; have n0_ := Aside0.mk (blk_below (g := gb289) (o := .cells #[.int .i64 t285, .int .i64 t286, .int .i64 t287] 23 (0, 0)) (by (with_reducible repeat (first | refine blk_drewN ?_ _ | refine blk_drew ?_ | refine blk_alloc ?_ _)); exact BK289.out) hb); have n1_ := Aside0.mk (below_step (by repeat (first | (with_reducible first | exact HB.out | apply below_alloc | apply pw_below_drewN | apply below_drew1 | refine below_set ?_ GE289.out) | exact HB.out)) hb); clear BK289; clear HB; have BK289 := n0_; have HB := n1_; clear n0_ n1_; (try clear hb); (try clear hb2); (try clear hk); (try clear hi)) | ((with_reducible refine gate_dst (N := 9) rfl ?_); refine box_event ?hg (N := 9) ?hd (cs := #[.int .i64 0, .int .i64 0, .int .i64 0]) (t := 23) ?hr ?_; (case hd => rfl); (case hg => rfl); (case hr => first | (go_simp; done) | (go_simp; rfl)); intro gb296 hg w46 hbox hb; have n0_ := Aside0.mk (blk_below (g := gb289) (o := .cells #[.int .i64 t285, .int .i64 t286, .int .i64 t287] 23 (0, 0)) (by (with_reducible repeat (first | refine blk_drewN ?_ _ | refine blk_drew ?_ | refine blk_alloc ?_ _)); exact BK289.out) hb); have n1_ := Aside0.mk (below_step (by repeat (first | (with_reducible first | exact HB.out | apply below_alloc | apply pw_below_drewN | apply below_drew1 | refine below_set ?_ GE289.out) | exact HB.out)) hb); have n2_ := Aside0.mk (hbox); have n3_ := Aside0.mk ((by rw [hg]; exact (below_size (by repeat (first | (with_reducible first | exact HB.out | apply below_alloc | apply pw_below_drewN | apply below_drew1 | refine below_set ?_ GE289.out) | exact HB.out))) : w.heap.size ≤ gb296)); have n4_ := Aside0.mk ((by rw [hg]; exact (below_size (by repeat (first | (with_reducible first | exact HB.out | apply below_alloc | apply pw_below_drewN | apply below_drew1 | refine below_set ?_ GE289.out) | exact HB.out))) : w.heap.size ≤ gb296)); have n5_ := Aside0.mk ((by rw [hg]; exact Nat.ne_of_lt (blk_lt (g := gb289) (o := .cells #[.int .i64 t285, .int .i64 t286, .int .i64 t287] 23 (0, 0)) (by (with_reducible repeat (first | refine blk_drewN ?_ _ | refine blk_drew ?_ | refine blk_alloc ?_ _)); exact BK289.out)) : gb289 ≠ gb296)); have n6_ := Aside0.mk ((by rw [hg]; exact Nat.ne_of_gt (blk_lt (g := gb289) (o := .cells #[.int .i64 t285, .int .i64 t286, .int .i64 t287] 23 (0, 0)) (by (with_reducible repeat (first | refine blk_drewN ?_ _ | refine blk_drew ?_ | refine blk_alloc ?_ _)); exact BK289.out)) : gb296 ≠ gb289)); clear BK289; clear HB; have BK289 := n0_; have HB := n1_; have BK296 := n2_; have GW296 := n3_; have GE296 := n4_; have NB289_296 := n5_; have NB296_289 := n6_; clear n0_ n1_ n2_ n3_ n4_ n5_ n6_; clear hb hbox hg; have hnb47 := NB296_289.out; have hnc47 := NB289_296.out; have hcz48_0 : w46.cell? ⟨gb296, 0, none⟩ = some (.int .i64 0) := (blk_cell BK296.out 0).trans rfl; have hcz48_1 : w46.cell? ⟨gb296, 1, none⟩ = some (.int .i64 0) := (blk_cell BK296.out 1).trans rfl; have hcz48_2 : w46.cell? ⟨gb296, 2, none⟩ = some (.int .i64 0) := (blk_cell BK296.out 2).trans rfl; have hfz48_0 := blk_frozen BK296.out 0; have hfz48_1 := blk_frozen BK296.out 1; have hfz48_2 := blk_frozen BK296.out 2) | ((with_reducible refine gate_callee (f := 25) rfl ?_); refine goesL_ (some 49) rfl rfl Tryd.func25 (by kernel_rfl) rfl #[.string (⟨#[45, 48, 48, 48, 49, 45, 49, 50, 45, 51, 49]⟩ : ByteArray)] rfl (by (try simp only [List.map_toArray, List.map_cons, List.map_nil]); first | done | rfl | (simp only [List.length_drop, List.length_take]; rfl)) ?_; (with_reducible refine (civil_Parse.calls k (⟨#[45, 48, 48, 48, 49, 45, 49, 50, 45, 51, 49]⟩ : ByteArray) t297 t298 t299 t300 _ A8.out).mono ?_); rintro e w49 ⟨rfl, hb⟩; refine ⟨_, rfl, ?_⟩; have n0_ := Aside0.mk (blk_below (g := gb289) (o := .cells #[.int .i64 t285, .int .i64 t286, .int .i64 t287] 23 (0, 0)) (by (with_reducible repeat (first | refine blk_drewN ?_ _ | refine blk_drew ?_ | refine blk_alloc ?_ _)); refine blk_far ?_ NB289_296.out _; (with_reducible repeat (first | refine blk_drewN ?_ _ | refine blk_drew ?_ | refine blk_alloc ?_ _)); refine blk_far ?_ NB289_296.out _; (with_reducible repeat (first | refine blk_drewN ?_ _ | refine blk_drew ?_ | refine blk_alloc ?_ _)); refine blk_far ?_ NB289_296.out _; (with_reducible repeat (first | refine blk_drewN ?_ _ | refine blk_drew ?_ | refine blk_alloc ?_ _)); exact BK289.out) hb); have n1_ := Aside0.mk (blk_below (g := gb296) (o := .cells #[.int .i64 t292, .int .i64 t293, .int .i64 t294] 23 (0, 0)) (by (with_reducible repeat (first | refine blk_drewN ?_ _ | refine blk_drew ?_ | refine blk_alloc ?_ _)); refine blk_put (cs := #[.int .i64 t292, .int .i64 t293, .int .i64 0]) ?_ 2 _ rfl; (with_reducible repeat (first | refine blk_drewN ?_ _ | refine blk_drew ?_ | refine blk_alloc ?_ _)); refine blk_put (cs := #[.int .i64 t292, .int .i64 0, .int .i64 0]) ?_ 1 _ rfl; (with_reducible repeat (first | refine blk_drewN ?_ _ | refine blk_drew ?_ | refine blk_alloc ?_ _)); refine blk_put (cs := #[.int .i64 0, .int .i64 0, .int .i64 0]) ?_ 0 _ rfl; (with_reducible repeat (first | refine blk_drewN ?_ _ | refine blk_drew ?_ | refine blk_alloc ?_ _)); exact BK296.out) hb); have n2_ := Aside0.mk (below_step (by repeat (first | (with_reducible first | exact HB.out | apply below_alloc | apply pw_below_drewN | apply below_drew1 | refine below_set ?_ GE289.out | refine below_set ?_ GE296.out) | exact HB.out)) hb); clear BK289; clear BK296; clear HB; have BK289 := n0_; have BK296 := n1_; have HB := n2_; clear n0_ n1_ n2_; (try clear hb); (try clear hb2); (try clear hk); (try clear hi)) | ((with_reducible refine gate_dst (N := 11) rfl ?_); refine box_event ?hg (N := 11) ?hd (cs := #[.int .i64 0, .int .i64 0, .int .i64 0]) (t := 23) ?hr ?_; (case hd => rfl); (case hg => rfl); (case hr => first | (go_simp; done) | (go_simp; rfl)); intro gb301 hg w50 hbox hb; have n0_ := Aside0.mk (blk_below (g := gb289) (o := .cells #[.int .i64 t285, .int .i64 t286, .int .i64 t287] 23 (0, 0)) (by (with_reducible repeat (first | refine blk_drewN ?_ _ | refine blk_drew ?_ | refine blk_alloc ?_ _)); exact BK289.out) hb); have n1_ := Aside0.mk (blk_below (g := gb296) (o := .cells #[.int .i64 t292, .int .i64 t293, .int .i64 t294] 23 (0, 0)) (by (with_reducible repeat (first | refine blk_drewN ?_ _ | refine blk_drew ?_ | refine blk_alloc ?_ _)); exact BK296.out) hb); have n2_ := Aside0.mk (below_step (by repeat (first | (with_reducible first | exact HB.out | apply below_alloc | apply pw_below_drewN | apply below_drew1 | refine below_set ?_ GE289.out | refine below_set ?_ GE296.out) | exact HB.out)) hb); have n3_ := Aside0.mk (hbox); have n4_ := Aside0.mk ((by rw [hg]; exact (below_size (by repeat (first | (with_reducible first | exact HB.out | apply below_alloc | apply pw_below_drewN | apply below_drew1 | refine below_set ?_ GE289.out | refine below_set ?_ GE296.out) | exact HB.out))) : w.heap.size ≤ gb301)); have n5_ := Aside0.mk ((by rw [hg]; exact (below_size (by repeat (first | (with_reducible first | exact HB.out | apply below_alloc | apply pw_below_drewN | apply below_drew1 | refine below_set ?_ GE289.out | refine below_set ?_ GE296.out) | exact HB.out))) : w.heap.size ≤ gb301)); have n6_ := Aside0.mk ((by rw [hg]; exact Nat.ne_of_lt (blk_lt (g := gb289) (o := .cells #[.int .i64 t285, .int .i64 t286, .int .i64 t287] 23 (0, 0)) (by (with_reducible repeat (first | refine blk_drewN ?_ _ | refine blk_drew ?_ | refine blk_alloc ?_ _)); exact BK289.out)) : gb289 ≠ gb301)); have n7_ := Aside0.mk ((by rw [hg]; exact Nat.ne_of_gt (blk_lt (g := gb289) (o := .cells #[.int .i64 t285, .int .i64 t286, .int .i64 t287] 23 (0, 0)) (by (with_reducible repeat (first | refine blk_drewN ?_ _ | refine blk_drew ?_ | refine blk_alloc ?_ _)); exact BK289.out)) : gb301 ≠ gb289)); have n8_ := Aside0.mk ((by rw [hg]; exact Nat.ne_of_lt (blk_lt (g := gb296) (o := .cells #[.int .i64 t292, .int .i64 t293, .int .i64 t294] 23 (0, 0)) (by (with_reducible repeat (first | refine blk_drewN ?_ _ | refine blk_drew ?_ | refine blk_alloc ?_ _)); exact BK296.out)) : gb296 ≠ gb301)); have n9_ := Aside0.mk ((by rw [hg]; exact Nat.ne_of_gt (blk_lt (g := gb296) (o := .cells #[.int .i64 t292, .int .i64 t293, .int .i64 t294] 23 (0, 0)) (by (with_reducible repeat (first | refine blk_drewN ?_ _ | refine blk_drew ?_ | refine blk_alloc ?_ _)); exact BK296.out)) : gb301 ≠ gb296)); clear BK289; clear BK296; clear HB; have BK289 := n0_; have BK296 := n1_; have HB := n2_; have BK301 := n3_; have GW301 := n4_; have GE301 := n5_; have NB289_301 := n6_; have NB301_289 := n7_; have NB296_301 := n8_; have NB301_296 := n9_; clear n0_ n1_ n2_ n3_ n4_ n5_ n6_ n7_ n8_ n9_; clear hb hbox hg; have hnb51 := NB301_289.out; have hnc51 := NB289_301.out; have hnb52 := NB301_296.out; have hnc52 := NB296_301.out; have hcz53_0 : w50.cell? ⟨gb301, 0, none⟩ = some (.int .i64 0) := (blk_cell BK301.out 0).trans rfl; have hcz53_1 : w50.cell? ⟨gb301, 1, none⟩ = some (.int .i64 0) := (blk_cell BK301.out 1).trans rfl; have hcz53_2 : w50.cell? ⟨gb301, 2, none⟩ = some (.int .i64 0) := (blk_cell BK301.out 2).trans rfl; have hfz53_0 := blk_frozen BK301.out 0; have hfz53_1 := blk_frozen BK301.out 1; have hfz53_2 := blk_frozen BK301.out 2) | ((with_reducible refine gate_callee (f := 25) rfl ?_); refine goesL_ (some 53) rfl rfl Tryd.func25 (by kernel_rfl) rfl #[.string (⟨#[45, 48, 48, 48, 48, 45, 48, 49, 45, 48, 49]⟩ : ByteArray)] rfl (by (try simp only [List.map_toArray, List.map_cons, List.map_nil]); first | done | rfl | (simp only [List.length_drop, List.length_take]; rfl)) ?_; (with_reducible refine (civil_Parse.calls k (⟨#[45, 48, 48, 48, 48, 45, 48, 49, 45, 48, 49]⟩ : ByteArray) t302 t303 t304 t305 _ A9.out).mono ?_); rintro e w54 ⟨rfl, hb⟩; refine ⟨_, rfl, ?_⟩; have n0_ := Aside0.mk (blk_below (g := gb289) (o := .cells #[.int .i64 t285, .int .i64 t286, .int .i64 t287] 23 (0, 0)) (by (with_reducible repeat (first | refine blk_drewN ?_ _ | refine blk_drew ?_ | refine blk_alloc ?_ _)); refine blk_far ?_ NB289_301.out _; (with_reducible repeat (first | refine blk_drewN ?_ _ | refine blk_drew ?_ | refine blk_alloc ?_ _)); refine blk_far ?_ NB289_301.out _; (with_reducible repeat (first | refine blk_drewN ?_ _ | refine blk_drew ?_ | refine blk_alloc ?_ _)); refine blk_far ?_ NB289_301.out _; (with_reducible repeat (first | refine blk_drewN ?_ _ | refine blk_drew ?_ | refine blk_alloc ?_ _)); exact BK289.out) hb); have n1_ := Aside0.mk (blk_below (g := gb296) (o := .cells #[.int .i64 t292, .int .i64 t293, .int .i64 t294] 23 (0, 0)) (by (with_reducible repeat (first | refine blk_drewN ?_ _ | refine blk_drew ?_ | refine blk_alloc ?_ _)); refine blk_far ?_ NB296_301.out _; (with_reducible repeat (first | refine blk_drewN ?_ _ | refine blk_drew ?_ | refine blk_alloc ?_ _)); refine blk_far ?_ NB296_301.out _; (with_reducible repeat (first | refine blk_drewN ?_ _ | refine blk_drew ?_ | refine blk_alloc ?_ _)); refine blk_far ?_ NB296_301.out _; (with_reducible repeat (first | refine blk_drewN ?_ _ | refine blk_drew ?_ | refine blk_alloc ?_ _)); exact BK296.out) hb); have n2_ := Aside0.mk (blk_below (g := gb301) (o := .cells #[.int .i64 t297, .int .i64 t298, .int .i64 t299] 23 (0, 0)) (by (with_reducible repeat (first | refine blk_drewN ?_ _ | refine blk_drew ?_ | refine blk_alloc ?_ _)); refine blk_put (cs := #[.int .i64 t297, .int .i64 t298, .int .i64 0]) ?_ 2 _ rfl; (with_reducible repeat (first | refine blk_drewN ?_ _ | refine blk_drew ?_ | refine blk_alloc ?_ _)); refine blk_put (cs := #[.int .i64 t297, .int .i64 0, .int .i64 0]) ?_ 1 _ rfl; (with_reducible repeat (first | refine blk_drewN ?_ _ | refine blk_drew ?_ | refine blk_alloc ?_ _)); refine blk_put (cs := #[.int .i64 0, .int .i64 0, .int .i64 0]) ?_ 0 _ rfl; (with_reducible repeat (first | refine blk_drewN ?_ _ | refine blk_drew ?_ | refine blk_alloc ?_ _)); exact BK301.out) hb); have n3_ := Aside0.mk (below_step (by repeat (first | (with_reducible first | exact HB.out | apply below_alloc | apply pw_below_drewN | apply below_drew1 | refine below_set ?_ GE289.out | refine below_set ?_ GE296.out | refine below_set ?_ GE301.out) | exact HB.out)) hb); clear BK289; clear BK296; clear BK301; clear HB; have BK289 := n0_; have BK296 := n1_; have BK301 := n2_; have HB := n3_; clear n0_ n1_ n2_ n3_; (try clear hb); (try clear hb2); (try clear hk); (try clear hi)) | ((with_reducible refine gate_dst (N := 13) rfl ?_); refine box_event ?hg (N := 13) ?hd (cs := #[.int .i64 0, .int .i64 0, .int .i64 0]) (t := 23) ?hr ?_; (case hd => rfl); (case hg => rfl); (case hr => first | (go_simp; done) | (go_simp; rfl)); intro gb306 hg w55 hbox hb; have n0_ := Aside0.mk (blk_below (g := gb289) (o := .cells #[.int .i64 t285, .int .i64 t286, .int .i64 t287] 23 (0, 0)) (by (with_reducible repeat (first | refine blk_drewN ?_ _ | refine blk_drew ?_ | refine blk_alloc ?_ _)); exact BK289.out) hb); have n1_ := Aside0.mk (blk_below (g := gb296) (o := .cells #[.int .i64 t292, .int .i64 t293, .int .i64 t294] 23 (0, 0)) (by (with_reducible repeat (first | refine blk_drewN ?_ _ | refine blk_drew ?_ | refine blk_alloc ?_ _)); exact BK296.out) hb); have n2_ := Aside0.mk (blk_below (g := gb301) (o := .cells #[.int .i64 t297, .int .i64 t298, .int .i64 t299] 23 (0, 0)) (by (with_reducible repeat (first | refine blk_drewN ?_ _ | refine blk_drew ?_ | refine blk_alloc ?_ _)); exact BK301.out) hb); have n3_ := Aside0.mk (below_step (by repeat (first | (with_reducible first | exact HB.out | apply below_alloc | apply pw_below_drewN | apply below_drew1 | refine below_set ?_ GE289.out | refine below_set ?_ GE296.out | refine below_set ?_ GE301.out) | exact HB.out)) hb); have n4_ := Aside0.mk (hbox); have n5_ := Aside0.mk ((by rw [hg]; exact (below_size (by repeat (first | (with_reducible first | exact HB.out | apply below_alloc | apply pw_below_drewN | apply below_drew1 | refine below_set ?_ GE289.out | refine below_set ?_ GE296.out | refine below_set ?_ GE301.out) | exact HB.out))) : w.heap.size ≤ gb306)); have n6_ := Aside0.mk ((by rw [hg]; exact (below_size (by repeat (first | (with_reducible first | exact HB.out | apply below_alloc | apply pw_below_drewN | apply below_drew1 | refine below_set ?_ GE289.out | refine below_set ?_ GE296.out | refine below_set ?_ GE301.out) | exact HB.out))) : w.heap.size ≤ gb306)); have n7_ := Aside0.mk ((by rw [hg]; exact Nat.ne_of_lt (blk_lt (g := gb289) (o := .cells #[.int .i64 t285, .int .i64 t286, .int .i64 t287] 23 (0, 0)) (by (with_reducible repeat (first | refine blk_drewN ?_ _ | refine blk_drew ?_ | refine blk_alloc ?_ _)); exact BK289.out)) : gb289 ≠ gb306)); have n8_ := Aside0.mk ((by rw [hg]; exact Nat.ne_of_gt (blk_lt (g := gb289) (o := .cells #[.int .i64 t285, .int .i64 t286, .int .i64 t287] 23 (0, 0)) (by (with_reducible repeat (first | refine blk_drewN ?_ _ | refine blk_drew ?_ | refine blk_alloc ?_ _)); exact BK289.out)) : gb306 ≠ gb289)); have n9_ := Aside0.mk ((by rw [hg]; exact Nat.ne_of_lt (blk_lt (g := gb296) (o := .cells #[.int .i64 t292, .int .i64 t293, .int .i64 t294] 23 (0, 0)) (by (with_reducible repeat (first | refine blk_drewN ?_ _ | refine blk_drew ?_ | refine blk_alloc ?_ _)); exact BK296.out)) : gb296 ≠ gb306)); have n10_ := Aside0.mk ((by rw [hg]; exact Nat.ne_of_gt (blk_lt (g := gb296) (o := .cells #[.int .i64 t292, .int .i64 t293, .int .i64 t294] 23 (0, 0)) (by (with_reducible repeat (first | refine blk_drewN ?_ _ | refine blk_drew ?_ | refine blk_alloc ?_ _)); exact BK296.out)) : gb306 ≠ gb296)); have n11_ := Aside0.mk ((by rw [hg]; exact Nat.ne_of_lt (blk_lt (g := gb301) (o := .cells #[.int .i64 t297, .int .i64 t298, .int .i64 t299] 23 (0, 0)) (by (with_reducible repeat (first | refine blk_drewN ?_ _ | refine blk_drew ?_ | refine blk_alloc ?_ _)); exact BK301.out)) : gb301 ≠ gb306)); have n12_ := Aside0.mk ((by rw [hg]; exact Nat.ne_of_gt (blk_lt (g := gb301) (o := .cells #[.int .i64 t297, .int .i64 t298, .int .i64 t299] 23 (0, 0)) (by (with_reducible repeat (first | refine blk_drewN ?_ _ | refine blk_drew ?_ | refine blk_alloc ?_ _)); exact BK301.out)) : gb306 ≠ gb301)); clear BK289; clear BK296; clear BK301; clear HB; have BK289 := n0_; have BK296 := n1_; have BK301 := n2_; have HB := n3_; have BK306 := n4_; have GW306 := n5_; have GE306 := n6_; have NB289_306 := n7_; have NB306_289 := n8_; have NB296_306 := n9_; have NB306_296 := n10_; have NB301_306 := n11_; have NB306_301 := n12_; clear n0_ n1_ n2_ n3_ n4_ n5_ n6_ n7_ n8_ n9_ n10_ n11_ n12_; clear hb hbox hg; have hnb56 := NB306_289.out; have hnc56 := NB289_306.out; have hnb57 := NB306_296.out; have hnc57 := NB296_306.out; have hnb58 := NB306_301.out; have hnc58 := NB301_306.out; have hcz59_0 : w55.cell? ⟨gb306, 0, none⟩ = some (.int .i64 0) := (blk_cell BK306.out 0).trans rfl; have hcz59_1 : w55.cell? ⟨gb306, 1, none⟩ = some (.int .i64 0) := (blk_cell BK306.out 1).trans rfl; have hcz59_2 : w55.cell? ⟨gb306, 2, none⟩ = some (.int .i64 0) := (blk_cell BK306.out 2).trans rfl; have hfz59_0 := blk_frozen BK306.out 0; have hfz59_1 := blk_frozen BK306.out 1; have hfz59_2 := blk_frozen BK306.out 2) | ((with_reducible refine gate_callee (f := 25) rfl ?_); refine goesL_ (some 57) rfl rfl Tryd.func25 (by kernel_rfl) rfl #[.string (⟨#[50, 48, 48, 48, 45, 49, 45, 49]⟩ : ByteArray)] rfl (by (try simp only [List.map_toArray, List.map_cons, List.map_nil]); first | done | rfl | (simp only [List.length_drop, List.length_take]; rfl)) ?_; (with_reducible refine (civil_Parse.calls k (⟨#[50, 48, 48, 48, 45, 49, 45, 49]⟩ : ByteArray) t307 t308 t309 t310 _ A10.out).mono ?_); rintro e w60 ⟨rfl, hb⟩; refine ⟨_, rfl, ?_⟩; have n0_ := Aside0.mk (blk_below (g := gb289) (o := .cells #[.int .i64 t285, .int .i64 t286, .int .i64 t287] 23 (0, 0)) (by (with_reducible repeat (first | refine blk_drewN ?_ _ | refine blk_drew ?_ | refine blk_alloc ?_ _)); refine blk_far ?_ NB289_306.out _; (with_reducible repeat (first | refine blk_drewN ?_ _ | refine blk_drew ?_ | refine blk_alloc ?_ _)); refine blk_far ?_ NB289_306.out _; (with_reducible repeat (first | refine blk_drewN ?_ _ | refine blk_drew ?_ | refine blk_alloc ?_ _)); refine blk_far ?_ NB289_306.out _; (with_reducible repeat (first | refine blk_drewN ?_ _ | refine blk_drew ?_ | refine blk_alloc ?_ _)); exact BK289.out) hb); have n1_ := Aside0.mk (blk_below (g := gb296) (o := .cells #[.int .i64 t292, .int .i64 t293, .int .i64 t294] 23 (0, 0)) (by (with_reducible repeat (first | refine blk_drewN ?_ _ | refine blk_drew ?_ | refine blk_alloc ?_ _)); refine blk_far ?_ NB296_306.out _; (with_reducible repeat (first | refine blk_drewN ?_ _ | refine blk_drew ?_ | refine blk_alloc ?_ _)); refine blk_far ?_ NB296_306.out _; (with_reducible repeat (first | refine blk_drewN ?_ _ | refine blk_drew ?_ | refine blk_alloc ?_ _)); refine blk_far ?_ NB296_306.out _; (with_reducible repeat (first | refine blk_drewN ?_ _ | refine blk_drew ?_ | refine blk_alloc ?_ _)); exact BK296.out) hb); have n2_ := Aside0.mk (blk_below (g := gb301) (o := .cells #[.int .i64 t297, .int .i64 t298, .int .i64 t299] 23 (0, 0)) (by (with_reducible repeat (first | refine blk_drewN ?_ _ | refine blk_drew ?_ | refine blk_alloc ?_ _)); refine blk_far ?_ NB301_306.out _; (with_reducible repeat (first | refine blk_drewN ?_ _ | refine blk_drew ?_ | refine blk_alloc ?_ _)); refine blk_far ?_ NB301_306.out _; (with_reducible repeat (first | refine blk_drewN ?_ _ | refine blk_drew ?_ | refine blk_alloc ?_ _)); refine blk_far ?_ NB301_306.out _; (with_reducible repeat (first | refine blk_drewN ?_ _ | refine blk_drew ?_ | refine blk_alloc ?_ _)); exact BK301.out) hb); have n3_ := Aside0.mk (blk_below (g := gb306) (o := .cells #[.int .i64 t302, .int .i64 t303, .int .i64 t304] 23 (0, 0)) (by (with_reducible repeat (first | refine blk_drewN ?_ _ | refine blk_drew ?_ | refine blk_alloc ?_ _)); refine blk_put (cs := #[.int .i64 t302, .int .i64 t303, .int .i64 0]) ?_ 2 _ rfl; (with_reducible repeat (first | refine blk_drewN ?_ _ | refine blk_drew ?_ | refine blk_alloc ?_ _)); refine blk_put (cs := #[.int .i64 t302, .int .i64 0, .int .i64 0]) ?_ 1 _ rfl; (with_reducible repeat (first | refine blk_drewN ?_ _ | refine blk_drew ?_ | refine blk_alloc ?_ _)); refine blk_put (cs := #[.int .i64 0, .int .i64 0, .int .i64 0]) ?_ 0 _ rfl; (with_reducible repeat (first | refine blk_drewN ?_ _ | refine blk_drew ?_ | refine blk_alloc ?_ _)); exact BK306.out) hb); have n4_ := Aside0.mk (below_step (by repeat (first | (with_reducible first | exact HB.out | apply below_alloc | apply pw_below_drewN | apply below_drew1 | refine below_set ?_ GE289.out | refine below_set ?_ GE296.out | refine below_set ?_ GE301.out | refine below_set ?_ GE306.out) | exact HB.out)) hb); clear BK289; clear BK296; clear BK301; clear BK306; clear HB; have BK289 := n0_; have BK296 := n1_; have BK301 := n2_; have BK306 := n3_; have HB := n4_; clear n0_ n1_ n2_ n3_ n4_; (try clear hb); (try clear hb2); (try clear hk); (try clear hi)) | ((with_reducible refine gate_dst (N := 15) rfl ?_); refine box_event ?hg (N := 15) ?hd (cs := #[.int .i64 0, .int .i64 0, .int .i64 0]) (t := 23) ?hr ?_; (case hd => rfl); (case hg => rfl); (case hr => first | (go_simp; done) | (go_simp; rfl)); intro gb311 hg w61 hbox hb; have n0_ := Aside0.mk (blk_below (g := gb289) (o := .cells #[.int .i64 t285, .int .i64 t286, .int .i64 t287] 23 (0, 0)) (by (with_reducible repeat (first | refine blk_drewN ?_ _ | refine blk_drew ?_ | refine blk_alloc ?_ _)); exact BK289.out) hb); have n1_ := Aside0.mk (blk_below (g := gb296) (o := .cells #[.int .i64 t292, .int .i64 t293, .int .i64 t294] 23 (0, 0)) (by (with_reducible repeat (first | refine blk_drewN ?_ _ | refine blk_drew ?_ | refine blk_alloc ?_ _)); exact BK296.out) hb); have n2_ := Aside0.mk (blk_below (g := gb301) (o := .cells #[.int .i64 t297, .int .i64 t298, .int .i64 t299] 23 (0, 0)) (by (with_reducible repeat (first | refine blk_drewN ?_ _ | refine blk_drew ?_ | refine blk_alloc ?_ _)); exact BK301.out) hb); have n3_ := Aside0.mk (blk_below (g := gb306) (o := .cells #[.int .i64 t302, .int .i64 t303, .int .i64 t304] 23 (0, 0)) (by (with_reducible repeat (first | refine blk_drewN ?_ _ | refine blk_drew ?_ | refine blk_alloc ?_ _)); exact BK306.out) hb); have n4_ := Aside0.mk (below_step (by repeat (first | (with_reducible first | exact HB.out | apply below_alloc | apply pw_below_drewN | apply below_drew1 | refine below_set ?_ GE289.out | refine below_set ?_ GE296.out | refine below_set ?_ GE301.out | refine below_set ?_ GE306.out) | exact HB.out)) hb); have n5_ := Aside0.mk (hbox); have n6_ := Aside0.mk ((by rw [hg]; exact (below_size (by repeat (first | (with_reducible first | exact HB.out | apply below_alloc | apply pw_below_drewN | apply below_drew1 | refine below_set ?_ GE289.out | refine below_set ?_ GE296.out | refine below_set ?_ GE301.out | refine below_set ?_ GE306.out) | exact HB.out))) : w.heap.size ≤ gb311)); have n7_ := Aside0.mk ((by rw [hg]; exact (below_size (by repeat (first | (with_reducible first | exact HB.out | apply below_alloc | apply pw_below_drewN | apply below_drew1 | refine below_set ?_ GE289.out | refine below_set ?_ GE296.out | refine below_set ?_ GE301.out | refine below_set ?_ GE306.out) | exact HB.out))) : w.heap.size ≤ gb311)); have n8_ := Aside0.mk ((by rw [hg]; exact Nat.ne_of_lt (blk_lt (g := gb289) (o := .cells #[.int .i64 t285, .int .i64 t286, .int .i64 t287] 23 (0, 0)) (by (with_reducible repeat (first | refine blk_drewN ?_ _ | refine blk_drew ?_ | refine blk_alloc ?_ _)); exact BK289.out)) : gb289 ≠ gb311)); have n9_ := Aside0.mk ((by rw [hg]; exact Nat.ne_of_gt (blk_lt (g := gb289) (o := .cells #[.int .i64 t285, .int .i64 t286, .int .i64 t287] 23 (0, 0)) (by (with_reducible repeat (first | refine blk_drewN ?_ _ | refine blk_drew ?_ | refine blk_alloc ?_ _)); exact BK289.out)) : gb311 ≠ gb289)); have n10_ := Aside0.mk ((by rw [hg]; exact Nat.ne_of_lt (blk_lt (g := gb296) (o := .cells #[.int .i64 t292, .int .i64 t293, .int .i64 t294] 23 (0, 0)) (by (with_reducible repeat (first | refine blk_drewN ?_ _ | refine blk_drew ?_ | refine blk_alloc ?_ _)); exact BK296.out)) : gb296 ≠ gb311)); have n11_ := Aside0.mk ((by rw [hg]; exact Nat.ne_of_gt (blk_lt (g := gb296) (o := .cells #[.int .i64 t292, .int .i64 t293, .int .i64 t294] 23 (0, 0)) (by (with_reducible repeat (first | refine blk_drewN ?_ _ | refine blk_drew ?_ | refine blk_alloc ?_ _)); exact BK296.out)) : gb311 ≠ gb296)); have n12_ := Aside0.mk ((by rw [hg]; exact Nat.ne_of_lt (blk_lt (g := gb301) (o := .cells #[.int .i64 t297, .int .i64 t298, .int .i64 t299] 23 (0, 0)) (by (with_reducible repeat (first | refine blk_drewN ?_ _ | refine blk_drew ?_ | refine blk_alloc ?_ _)); exact BK301.out)) : gb301 ≠ gb311)); have n13_ := Aside0.mk ((by rw [hg]; exact Nat.ne_of_gt (blk_lt (g := gb301) (o := .cells #[.int .i64 t297, .int .i64 t298, .int .i64 t299] 23 (0, 0)) (by (with_reducible repeat (first | refine blk_drewN ?_ _ | refine blk_drew ?_ | refine blk_alloc ?_ _)); exact BK301.out)) : gb311 ≠ gb301)); have n14_ := Aside0.mk ((by rw [hg]; exact Nat.ne_of_lt (blk_lt (g := gb306) (o := .cells #[.int .i64 t302, .int .i64 t303, .int .i64 t304] 23 (0, 0)) (by (with_reducible repeat (first | refine blk_drewN ?_ _ | refine blk_drew ?_ | refine blk_alloc ?_ _)); exact BK306.out)) : gb306 ≠ gb311)); have n15_ := Aside0.mk ((by rw [hg]; exact Nat.ne_of_gt (blk_lt (g := gb306) (o := .cells #[.int .i64 t302, .int .i64 t303, .int .i64 t304] 23 (0, 0)) (by (with_reducible repeat (first | refine blk_drewN ?_ _ | refine blk_drew ?_ | refine blk_alloc ?_ _)); exact BK306.out)) : gb311 ≠ gb306)); clear BK289; clear BK296; clear BK301; clear BK306; clear HB; have BK289 := n0_; have BK296 := n1_; have BK301 := n2_; have BK306 := n3_; have HB := n4_; have BK311 := n5_; have GW311 := n6_; have GE311 := n7_; have NB289_311 := n8_; have NB311_289 := n9_; have NB296_311 := n10_; have NB311_296 := n11_; have NB301_311 := n12_; have NB311_301 := n13_; have NB306_311 := n14_; have NB311_306 := n15_; clear n0_ n1_ n2_ n3_ n4_ n5_ n6_ n7_ n8_ n9_ n10_ n11_ n12_ n13_ n14_ n15_; clear hb hbox hg; have hnb62 := NB311_289.out; have hnc62 := NB289_311.out; have hnb63 := NB311_296.out; have hnc63 := NB296_311.out; have hnb64 := NB311_301.out; have hnc64 := NB301_311.out; have hnb65 := NB311_306.out; have hnc65 := NB306_311.out; have hcz66_0 : w61.cell? ⟨gb311, 0, none⟩ = some (.int .i64 0) := (blk_cell BK311.out 0).trans rfl; have hcz66_1 : w61.cell? ⟨gb311, 1, none⟩ = some (.int .i64 0) := (blk_cell BK311.out 1).trans rfl; have hcz66_2 : w61.cell? ⟨gb311, 2, none⟩ = some (.int .i64 0) := (blk_cell BK311.out 2).trans rfl; have hfz66_0 := blk_frozen BK311.out 0; have hfz66_1 := blk_frozen BK311.out 1; have hfz66_2 := blk_frozen BK311.out 2) | ((with_reducible refine gate_callee (f := 25) rfl ?_); refine goesL_ (some 61) rfl rfl Tryd.func25 (by kernel_rfl) rfl #[.string (⟨#[49, 48, 48, 48, 48, 45, 48, 49, 45, 48, 49]⟩ : ByteArray)] rfl (by (try simp only [List.map_toArray, List.map_cons, List.map_nil]); first | done | rfl | (simp only [List.length_drop, List.length_take]; rfl)) ?_; (with_reducible refine (civil_Parse.calls k (⟨#[49, 48, 48, 48, 48, 45, 48, 49, 45, 48, 49]⟩ : ByteArray) t312 t313 t314 t315 _ A11.out).mono ?_); rintro e w67 ⟨rfl, hb⟩; refine ⟨_, rfl, ?_⟩; have n0_ := Aside0.mk (blk_below (g := gb289) (o := .cells #[.int .i64 t285, .int .i64 t286, .int .i64 t287] 23 (0, 0)) (by (with_reducible repeat (first | refine blk_drewN ?_ _ | refine blk_drew ?_ | refine blk_alloc ?_ _)); refine blk_far ?_ NB289_311.out _; (with_reducible repeat (first | refine blk_drewN ?_ _ | refine blk_drew ?_ | refine blk_alloc ?_ _)); refine blk_far ?_ NB289_311.out _; (with_reducible repeat (first | refine blk_drewN ?_ _ | refine blk_drew ?_ | refine blk_alloc ?_ _)); refine blk_far ?_ NB289_311.out _; (with_reducible repeat (first | refine blk_drewN ?_ _ | refine blk_drew ?_ | refine blk_alloc ?_ _)); exact BK289.out) hb); have n1_ := Aside0.mk (blk_below (g := gb296) (o := .cells #[.int .i64 t292, .int .i64 t293, .int .i64 t294] 23 (0, 0)) (by (with_reducible repeat (first | refine blk_drewN ?_ _ | refine blk_drew ?_ | refine blk_alloc ?_ _)); refine blk_far ?_ NB296_311.out _; (with_reducible repeat (first | refine blk_drewN ?_ _ | refine blk_drew ?_ | refine blk_alloc ?_ _)); refine blk_far ?_ NB296_311.out _; (with_reducible repeat (first | refine blk_drewN ?_ _ | refine blk_drew ?_ | refine blk_alloc ?_ _)); refine blk_far ?_ NB296_311.out _; (with_reducible repeat (first | refine blk_drewN ?_ _ | refine blk_drew ?_ | refine blk_alloc ?_ _)); exact BK296.out) hb); have n2_ := Aside0.mk (blk_below (g := gb301) (o := .cells #[.int .i64 t297, .int .i64 t298, .int .i64 t299] 23 (0, 0)) (by (with_reducible repeat (first | refine blk_drewN ?_ _ | refine blk_drew ?_ | refine blk_alloc ?_ _)); refine blk_far ?_ NB301_311.out _; (with_reducible repeat (first | refine blk_drewN ?_ _ | refine blk_drew ?_ | refine blk_alloc ?_ _)); refine blk_far ?_ NB301_311.out _; (with_reducible repeat (first | refine blk_drewN ?_ _ | refine blk_drew ?_ | refine blk_alloc ?_ _)); refine blk_far ?_ NB301_311.out _; (with_reducible repeat (first | refine blk_drewN ?_ _ | refine blk_drew ?_ | refine blk_alloc ?_ _)); exact BK301.out) hb); have n3_ := Aside0.mk (blk_below (g := gb306) (o := .cells #[.int .i64 t302, .int .i64 t303, .int .i64 t304] 23 (0, 0)) (by (with_reducible repeat (first | refine blk_drewN ?_ _ | refine blk_drew ?_ | refine blk_alloc ?_ _)); refine blk_far ?_ NB306_311.out _; (with_reducible repeat (first | refine blk_drewN ?_ _ | refine blk_drew ?_ | refine blk_alloc ?_ _)); refine blk_far ?_ NB306_311.out _; (with_reducible repeat (first | refine blk_drewN ?_ _ | refine blk_drew ?_ | refine blk_alloc ?_ _)); refine blk_far ?_ NB306_311.out _; (with_reducible repeat (first | refine blk_drewN ?_ _ | refine blk_drew ?_ | refine blk_alloc ?_ _)); exact BK306.out) hb); have n4_ := Aside0.mk (blk_below (g := gb311) (o := .cells #[.int .i64 t307, .int .i64 t308, .int .i64 t309] 23 (0, 0)) (by (with_reducible repeat (first | refine blk_drewN ?_ _ | refine blk_drew ?_ | refine blk_alloc ?_ _)); refine blk_put (cs := #[.int .i64 t307, .int .i64 t308, .int .i64 0]) ?_ 2 _ rfl; (with_reducible repeat (first | refine blk_drewN ?_ _ | refine blk_drew ?_ | refine blk_alloc ?_ _)); refine blk_put (cs := #[.int .i64 t307, .int .i64 0, .int .i64 0]) ?_ 1 _ rfl; (with_reducible repeat (first | refine blk_drewN ?_ _ | refine blk_drew ?_ | refine blk_alloc ?_ _)); refine blk_put (cs := #[.int .i64 0, .int .i64 0, .int .i64 0]) ?_ 0 _ rfl; (with_reducible repeat (first | refine blk_drewN ?_ _ | refine blk_drew ?_ | refine blk_alloc ?_ _)); exact BK311.out) hb); have n5_ := Aside0.mk (below_step (by repeat (first | (with_reducible first | exact HB.out | apply below_alloc | apply pw_below_drewN | apply below_drew1 | refine below_set ?_ GE289.out | refine below_set ?_ GE296.out | refine below_set ?_ GE301.out | refine below_set ?_ GE306.out | refine below_set ?_ GE311.out) | exact HB.out)) hb); clear BK289; clear BK296; clear BK301; clear BK306; clear BK311; clear HB; have BK289 := n0_; have BK296 := n1_; have BK301 := n2_; have BK306 := n3_; have BK311 := n4_; have HB := n5_; clear n0_ n1_ n2_ n3_ n4_ n5_; (try clear hb); (try clear hb2); (try clear hk); (try clear hi)) | ((with_reducible refine gate_dst (N := 17) rfl ?_); refine box_event ?hg (N := 17) ?hd (cs := #[.int .i64 0, .int .i64 0, .int .i64 0]) (t := 23) ?hr ?_; (case hd => rfl); (case hg => rfl); (case hr => first | (go_simp; done) | (go_simp; rfl)); intro gb316 hg w68 hbox hb; have n0_ := Aside0.mk (blk_below (g := gb289) (o := .cells #[.int .i64 t285, .int .i64 t286, .int .i64 t287] 23 (0, 0)) (by (with_reducible repeat (first | refine blk_drewN ?_ _ | refine blk_drew ?_ | refine blk_alloc ?_ _)); exact BK289.out) hb); have n1_ := Aside0.mk (blk_below (g := gb296) (o := .cells #[.int .i64 t292, .int .i64 t293, .int .i64 t294] 23 (0, 0)) (by (with_reducible repeat (first | refine blk_drewN ?_ _ | refine blk_drew ?_ | refine blk_alloc ?_ _)); exact BK296.out) hb); have n2_ := Aside0.mk (blk_below (g := gb301) (o := .cells #[.int .i64 t297, .int .i64 t298, .int .i64 t299] 23 (0, 0)) (by (with_reducible repeat (first | refine blk_drewN ?_ _ | refine blk_drew ?_ | refine blk_alloc ?_ _)); exact BK301.out) hb); have n3_ := Aside0.mk (blk_below (g := gb306) (o := .cells #[.int .i64 t302, .int .i64 t303, .int .i64 t304] 23 (0, 0)) (by (with_reducible repeat (first | refine blk_drewN ?_ _ | refine blk_drew ?_ | refine blk_alloc ?_ _)); exact BK306.out) hb); have n4_ := Aside0.mk (blk_below (g := gb311) (o := .cells #[.int .i64 t307, .int .i64 t308, .int .i64 t309] 23 (0, 0)) (by (with_reducible repeat (first | refine blk_drewN ?_ _ | refine blk_drew ?_ | refine blk_alloc ?_ _)); exact BK311.out) hb); have n5_ := Aside0.mk (below_step (by repeat (first | (with_reducible first | exact HB.out | apply below_alloc | apply pw_below_drewN | apply below_drew1 | refine below_set ?_ GE289.out | refine below_set ?_ GE296.out | refine below_set ?_ GE301.out | refine below_set ?_ GE306.out | refine below_set ?_ GE311.out) | exact HB.out)) hb); have n6_ := Aside0.mk (hbox); have n7_ := Aside0.mk ((by rw [hg]; exact (below_size (by repeat (first | (with_reducible first | exact HB.out | apply below_alloc | apply pw_below_drewN | apply below_drew1 | refine below_set ?_ GE289.out | refine below_set ?_ GE296.out | refine below_set ?_ GE301.out | refine below_set ?_ GE306.out | refine below_set ?_ GE311.out) | exact HB.out))) : w.heap.size ≤ gb316)); have n8_ := Aside0.mk ((by rw [hg]; exact (below_size (by repeat (first | (with_reducible first | exact HB.out | apply below_alloc | apply pw_below_drewN | apply below_drew1 | refine below_set ?_ GE289.out | refine below_set ?_ GE296.out | refine below_set ?_ GE301.out | refine below_set ?_ GE306.out | refine below_set ?_ GE311.out) | exact HB.out))) : w.heap.size ≤ gb316)); have n9_ := Aside0.mk ((by rw [hg]; exact Nat.ne_of_lt (blk_lt (g := gb289) (o := .cells #[.int .i64 t285, .int .i64 t286, .int .i64 t287] 23 (0, 0)) (by (with_reducible repeat (first | refine blk_drewN ?_ _ | refine blk_drew ?_ | refine blk_alloc ?_ _)); exact BK289.out)) : gb289 ≠ gb316)); have n10_ := Aside0.mk ((by rw [hg]; exact Nat.ne_of_gt (blk_lt (g := gb289) (o := .cells #[.int .i64 t285, .int .i64 t286, .int .i64 t287] 23 (0, 0)) (by (with_reducible repeat (first | refine blk_drewN ?_ _ | refine blk_drew ?_ | refine blk_alloc ?_ _)); exact BK289.out)) : gb316 ≠ gb289)); have n11_ := Aside0.mk ((by rw [hg]; exact Nat.ne_of_lt (blk_lt (g := gb296) (o := .cells #[.int .i64 t292, .int .i64 t293, .int .i64 t294] 23 (0, 0)) (by (with_reducible repeat (first | refine blk_drewN ?_ _ | refine blk_drew ?_ | refine blk_alloc ?_ _)); exact BK296.out)) : gb296 ≠ gb316)); have n12_ := Aside0.mk ((by rw [hg]; exact Nat.ne_of_gt (blk_lt (g := gb296) (o := .cells #[.int .i64 t292, .int .i64 t293, .int .i64 t294] 23 (0, 0)) (by (with_reducible repeat (first | refine blk_drewN ?_ _ | refine blk_drew ?_ | refine blk_alloc ?_ _)); exact BK296.out)) : gb316 ≠ gb296)); have n13_ := Aside0.mk ((by rw [hg]; exact Nat.ne_of_lt (blk_lt (g := gb301) (o := .cells #[.int .i64 t297, .int .i64 t298, .int .i64 t299] 23 (0, 0)) (by (with_reducible repeat (first | refine blk_drewN ?_ _ | refine blk_drew ?_ | refine blk_alloc ?_ _)); exact BK301.out)) : gb301 ≠ gb316)); have n14_ := Aside0.mk ((by rw [hg]; exact Nat.ne_of_gt (blk_lt (g := gb301) (o := .cells #[.int .i64 t297, .int .i64 t298, .int .i64 t299] 23 (0, 0)) (by (with_reducible repeat (first | refine blk_drewN ?_ _ | refine blk_drew ?_ | refine blk_alloc ?_ _)); exact BK301.out)) : gb316 ≠ gb301)); have n15_ := Aside0.mk ((by rw [hg]; exact Nat.ne_of_lt (blk_lt (g := gb306) (o := .cells #[.int .i64 t302, .int .i64 t303, .int .i64 t304] 23 (0, 0)) (by (with_reducible repeat (first | refine blk_drewN ?_ _ | refine blk_drew ?_ | refine blk_alloc ?_ _)); exact BK306.out)) : gb306 ≠ gb316)); have n16_ := Aside0.mk ((by rw [hg]; exact Nat.ne_of_gt (blk_lt (g := gb306) (o := .cells #[.int .i64 t302, .int .i64 t303, .int .i64 t304] 23 (0, 0)) (by (with_reducible repeat (first | refine blk_drewN ?_ _ | refine blk_drew ?_ | refine blk_alloc ?_ _)); exact BK306.out)) : gb316 ≠ gb306)); have n17_ := Aside0.mk ((by rw [hg]; exact Nat.ne_of_lt (blk_lt (g := gb311) (o := .cells #[.int .i64 t307, .int .i64 t308, .int .i64 t309] 23 (0, 0)) (by (with_reducible repeat (first | refine blk_drewN ?_ _ | refine blk_drew ?_ | refine blk_alloc ?_ _)); exact BK311.out)) : gb311 ≠ gb316)); have n18_ := Aside0.mk ((by rw [hg]; exact Nat.ne_of_gt (blk_lt (g := gb311) (o := .cells #[.int .i64 t307, .int .i64 t308, .int .i64 t309] 23 (0, 0)) (by (with_reducible repeat (first | refine blk_drewN ?_ _ | refine blk_drew ?_ | refine blk_alloc ?_ _)); exact BK311.out)) : gb316 ≠ gb311)); clear BK289; clear BK296; clear BK301; clear BK306; clear BK311; clear HB; have BK289 := n0_; have BK296 := n1_; have BK301 := n2_; have BK306 := n3_; have BK311 := n4_; have HB := n5_; have BK316 := n6_; have GW316 := n7_; have GE316 := n8_; have NB289_316 := n9_; have NB316_289 := n10_; have NB296_316 := n11_; have NB316_296 := n12_; have NB301_316 := n13_; have NB316_301 := n14_; have NB306_316 := n15_; have NB316_306 := n16_; have NB311_316 := n17_; have NB316_311 := n18_; clear n0_ n1_ n2_ n3_ n4_ n5_ n6_ n7_ n8_ n9_ n10_ n11_ n12_ n13_ n14_ n15_ n16_ n17_ n18_; clear hb hbox hg; have hnb69 := NB316_289.out; have hnc69 := NB289_316.out; have hnb70 := NB316_296.out; have hnc70 := NB296_316.out; have hnb71 := NB316_301.out; have hnc71 := NB301_316.out; have hnb72 := NB316_306.out; have hnc72 := NB306_316.out; have hnb73 := NB316_311.out; have hnc73 := NB311_316.out; have hcz74_0 : w68.cell? ⟨gb316, 0, none⟩ = some (.int .i64 0) := (blk_cell BK316.out 0).trans rfl; have hcz74_1 : w68.cell? ⟨gb316, 1, none⟩ = some (.int .i64 0) := (blk_cell BK316.out 1).trans rfl; have hcz74_2 : w68.cell? ⟨gb316, 2, none⟩ = some (.int .i64 0) := (blk_cell BK316.out 2).trans rfl; have hfz74_0 := blk_frozen BK316.out 0; have hfz74_1 := blk_frozen BK316.out 1; have hfz74_2 := blk_frozen BK316.out 2; have hcz75_0 : w68.cell? ⟨gb301, 0, none⟩ = some (.int .i64 t297) := (blk_cell BK301.out 0).trans rfl; have hcz75_1 : w68.cell? ⟨gb301, 1, none⟩ = some (.int .i64 t298) := (blk_cell BK301.out 1).trans rfl; have hcz75_2 : w68.cell? ⟨gb301, 2, none⟩ = some (.int .i64 t299) := (blk_cell BK301.out 2).trans rfl; have hfz75_0 := blk_frozen BK301.out 0; have hfz75_1 := blk_frozen BK301.out 1; have hfz75_2 := blk_frozen BK301.out 2) | (go_at_call 17; (with_reducible refine (civil_Leap.calls 2000 true _ A23.out).mono ?_); rintro e w' ⟨rfl, ⟨nd, rfl⟩⟩) | (go_at_call 17; (with_reducible refine (civil_Leap.calls 1900 false _ A25.out).mono ?_); rintro e w' ⟨rfl, ⟨nd, rfl⟩⟩) | (go_at_call 17; (with_reducible refine (civil_Leap.calls 0 true _ A27.out).mono ?_); rintro e w' ⟨rfl, ⟨nd, rfl⟩⟩) | (go_at_call 17; (with_reducible refine (civil_Leap.calls (-4) true _ A29.out).mono ?_); rintro e w' ⟨rfl, ⟨nd, rfl⟩⟩) | (go_at_call 19; (with_reducible refine (civil_Length.calls k 2000 2 t321 _ A31.out).mono ?_); rintro e w' ⟨rfl, ⟨nd, rfl⟩⟩) | (go_at_call 19; (with_reducible refine (civil_Length.calls k 2000 13 t322 _ A33.out).mono ?_); rintro e w' ⟨rfl, ⟨nd, rfl⟩⟩) | (go_at_call 21; (with_reducible refine (civil_Weekday.calls (-1) t323 _ A35.out).mono ?_); rintro e w' ⟨rfl, ⟨nd, rfl⟩⟩) | (go_at_call 23; (with_reducible refine (civil_Text.calls k 2001 2 29 t324 _ A37.out).mono ?_); rintro e w76 ⟨rfl, hb⟩; have n0_ := Aside0.mk (blk_below (g := gb289) (o := .cells #[.int .i64 t285, .int .i64 t286, .int .i64 t287] 23 (0, 0)) (by (with_reducible repeat (first | refine blk_drewN ?_ _ | refine blk_drew ?_ | refine blk_alloc ?_ _)); refine blk_far ?_ NB289_316.out _; (with_reducible repeat (first | refine blk_drewN ?_ _ | refine blk_drew ?_ | refine blk_alloc ?_ _)); refine blk_far ?_ NB289_316.out _; (with_reducible repeat (first | refine blk_drewN ?_ _ | refine blk_drew ?_ | refine blk_alloc ?_ _)); refine blk_far ?_ NB289_316.out _; (with_reducible repeat (first | refine blk_drewN ?_ _ | refine blk_drew ?_ | refine blk_alloc ?_ _)); exact BK289.out) hb); have n1_ := Aside0.mk (blk_below (g := gb296) (o := .cells #[.int .i64 t292, .int .i64 t293, .int .i64 t294] 23 (0, 0)) (by (with_reducible repeat (first | refine blk_drewN ?_ _ | refine blk_drew ?_ | refine blk_alloc ?_ _)); refine blk_far ?_ NB296_316.out _; (with_reducible repeat (first | refine blk_drewN ?_ _ | refine blk_drew ?_ | refine blk_alloc ?_ _)); refine blk_far ?_ NB296_316.out _; (with_reducible repeat (first | refine blk_drewN ?_ _ | refine blk_drew ?_ | refine blk_alloc ?_ _)); refine blk_far ?_ NB296_316.out _; (with_reducible repeat (first | refine blk_drewN ?_ _ | refine blk_drew ?_ | refine blk_alloc ?_ _)); exact BK296.out) hb); have n2_ := Aside0.mk (blk_below (g := gb301) (o := .cells #[.int .i64 t297, .int .i64 t298, .int .i64 t299] 23 (0, 0)) (by (with_reducible repeat (first | refine blk_drewN ?_ _ | refine blk_drew ?_ | refine blk_alloc ?_ _)); refine blk_far ?_ NB301_316.out _; (with_reducible repeat (first | refine blk_drewN ?_ _ | refine blk_drew ?_ | refine blk_alloc ?_ _)); refine blk_far ?_ NB301_316.out _; (with_reducible repeat (first | refine blk_drewN ?_ _ | refine blk_drew ?_ | refine blk_alloc ?_ _)); refine blk_far ?_ NB301_316.out _; (with_reducible repeat (first | refine blk_drewN ?_ _ | refine blk_drew ?_ | refine blk_alloc ?_ _)); exact BK301.out) hb); have n3_ := Aside0.mk (blk_below (g := gb306) (o := .cells #[.int .i64 t302, .int .i64 t303, .int .i64 t304] 23 (0, 0)) (by (with_reducible repeat (first | refine blk_drewN ?_ _ | refine blk_drew ?_ | refine blk_alloc ?_ _)); refine blk_far ?_ NB306_316.out _; (with_reducible repeat (first | refine blk_drewN ?_ _ | refine blk_drew ?_ | refine blk_alloc ?_ _)); refine blk_far ?_ NB306_316.out _; (with_reducible repeat (first | refine blk_drewN ?_ _ | refine blk_drew ?_ | refine blk_alloc ?_ _)); refine blk_far ?_ NB306_316.out _; (with_reducible repeat (first | refine blk_drewN ?_ _ | refine blk_drew ?_ | refine blk_alloc ?_ _)); exact BK306.out) hb); have n4_ := Aside0.mk (blk_below (g := gb311) (o := .cells #[.int .i64 t307, .int .i64 t308, .int .i64 t309] 23 (0, 0)) (by (with_reducible repeat (first | refine blk_drewN ?_ _ | refine blk_drew ?_ | refine blk_alloc ?_ _)); refine blk_far ?_ NB311_316.out _; (with_reducible repeat (first | refine blk_drewN ?_ _ | refine blk_drew ?_ | refine blk_alloc ?_ _)); refine blk_far ?_ NB311_316.out _; (with_reducible repeat (first | refine blk_drewN ?_ _ | refine blk_drew ?_ | refine blk_alloc ?_ _)); refine blk_far ?_ NB311_316.out _; (with_reducible repeat (first | refine blk_drewN ?_ _ | refine blk_drew ?_ | refine blk_alloc ?_ _)); exact BK311.out) hb); have n5_ := Aside0.mk (blk_below (g := gb316) (o := .cells #[.int .i64 t312, .int .i64 t313, .int .i64 t314] 23 (0, 0)) (by (with_reducible repeat (first | refine blk_drewN ?_ _ | refine blk_drew ?_ | refine blk_alloc ?_ _)); refine blk_put (cs := #[.int .i64 t312, .int .i64 t313, .int .i64 0]) ?_ 2 _ rfl; (with_reducible repeat (first | refine blk_drewN ?_ _ | refine blk_drew ?_ | refine blk_alloc ?_ _)); refine blk_put (cs := #[.int .i64 t312, .int .i64 0, .int .i64 0]) ?_ 1 _ rfl; (with_reducible repeat (first | refine blk_drewN ?_ _ | refine blk_drew ?_ | refine blk_alloc ?_ _)); refine blk_put (cs := #[.int .i64 0, .int .i64 0, .int .i64 0]) ?_ 0 _ rfl; (with_reducible repeat (first | refine blk_drewN ?_ _ | refine blk_drew ?_ | refine blk_alloc ?_ _)); exact BK316.out) hb); have n6_ := Aside0.mk (below_step (by repeat (first | (with_reducible first | exact HB.out | apply below_alloc | apply pw_below_drewN | apply below_drew1 | refine below_set ?_ GE289.out | refine below_set ?_ GE296.out | refine below_set ?_ GE301.out | refine below_set ?_ GE306.out | refine below_set ?_ GE311.out | refine below_set ?_ GE316.out) | exact HB.out)) hb); clear BK289; clear BK296; clear BK301; clear BK306; clear BK311; clear BK316; clear HB; have BK289 := n0_; have BK296 := n1_; have BK301 := n2_; have BK306 := n3_; have BK311 := n4_; have BK316 := n5_; have HB := n6_; clear n0_ n1_ n2_ n3_ n4_ n5_ n6_; (try clear hb); (try clear hb2); (try clear hk); (try clear hi)))
                                        go_ret
                                        exact ⟨by first | rfl | (simp [errW_none, errW_some] <;> rfl) | (simp [*, errW_none, errW_some] <;> rfl), by repeat (first | (with_reducible first | exact HB.out | apply below_alloc | apply pw_below_drewN | apply below_drew1 | refine below_set ?_ GE289.out | refine below_set ?_ GE296.out | refine below_set ?_ GE301.out | refine below_set ?_ GE306.out | refine below_set ?_ GE311.out | refine below_set ?_ GE316.out) | exact HB.out)⟩
                                      · rw [if_neg c36] at H
                                        have c36b0 : (t323 == 2) = false := beq_eq_false_iff_ne.mpr c36
                                        have c36b1 : (t323 != 2) = true := bne_iff_ne.mpr c36
                                        cases (Option.some.inj H).trans hlaw_.out
                                    · rw [if_neg c34] at H
                                      have c34b0 : (t322 == 0) = false := beq_eq_false_iff_ne.mpr c34
                                      have c34b1 : (t322 != 0) = true := bne_iff_ne.mpr c34
                                      cases (Option.some.inj H).trans hlaw_.out
                                  · rw [if_neg c32] at H
                                    have c32b0 : (t321 == 29) = false := beq_eq_false_iff_ne.mpr c32
                                    have c32b1 : (t321 != 29) = true := bne_iff_ne.mpr c32
                                    cases (Option.some.inj H).trans hlaw_.out
                                · replace c30 := Bool.eq_false_iff.mpr c30
                                  subst c30
                                  have H1 : (some false) = some r := by rw [if_neg (show ¬ (false = true) by decide)] at H; exact H
                                  clear H
                                  have H := H1
                                  clear H1
                                  cases (Option.some.inj H).trans hlaw_.out
                              · replace c28 := Bool.eq_false_iff.mpr c28
                                subst c28
                                have H1 : (some false) = some r := by rw [if_neg (show ¬ (false = true) by decide)] at H; exact H
                                clear H
                                have H := H1
                                clear H1
                                cases (Option.some.inj H).trans hlaw_.out
                          · replace c24 := Bool.eq_false_iff.mpr c24
                            subst c24
                            have H1 : (some false) = some r := by rw [if_neg (show ¬ (false = true) by decide)] at H; exact H
                            clear H
                            have H := H1
                            clear H1
                            cases (Option.some.inj H).trans hlaw_.out
                        · rw [if_neg c22] at H
                          have c22b0 : (t315 == 3) = false := beq_eq_false_iff_ne.mpr c22
                          have c22b1 : (t315 != 3) = true := bne_iff_ne.mpr c22
                          cases (Option.some.inj H).trans hlaw_.out
                      · rw [if_neg c21] at H
                        have c21b0 : (t310 == 3) = false := beq_eq_false_iff_ne.mpr c21
                        have c21b1 : (t310 != 3) = true := bne_iff_ne.mpr c21
                        cases (Option.some.inj H).trans hlaw_.out
                    · rw [if_neg c20] at H
                      have c20b0 : (t305 == 3) = false := beq_eq_false_iff_ne.mpr c20
                      have c20b1 : (t305 != 3) = true := bne_iff_ne.mpr c20
                      cases (Option.some.inj H).trans hlaw_.out
                  · rw [if_neg c19] at H
                    have c19b0 : (t297 == (-1) && (t298 == 12 && (t299 == 31))) = false := by simpa using c19
                    (try (have c19b1 : decide (t297 = (-1) && (t298 == 12 && (t299 == 31))) = false := by simpa using c19))
                    (try (have c19b2 : (t297 == (-1) && (t298 == 12 && (t299 == 31))) = false := by simpa using c19))
                    (try (have c19b3 : ¬ (t297 = (-1) && (t298 == 12 && (t299 == 31))) := by simpa using c19))
                    clear c19
                    cases (Option.some.inj H).trans hlaw_.out
                · rw [if_neg c18] at H
                  have c18b0 : (t300 == 0) = false := beq_eq_false_iff_ne.mpr c18
                  have c18b1 : (t300 != 0) = true := bne_iff_ne.mpr c18
                  cases (Option.some.inj H).trans hlaw_.out
              · rw [if_neg c17] at H
                have c17b0 : (t295 == 1) = false := beq_eq_false_iff_ne.mpr c17
                have c17b1 : (t295 != 1) = true := bne_iff_ne.mpr c17
                cases (Option.some.inj H).trans hlaw_.out
            · rw [if_neg c16] at H
              have c16b0 : (t291 == 0) = false := beq_eq_false_iff_ne.mpr c16
              have c16b1 : (t291 != 0) = true := bne_iff_ne.mpr c16
              cases (Option.some.inj H).trans hlaw_.out
          · rw [if_neg c15] at H
            have c15b0 : (t288 == 1) = false := beq_eq_false_iff_ne.mpr c15
            have c15b1 : (t288 != 1) = true := bne_iff_ne.mpr c15
            cases (Option.some.inj H).trans hlaw_.out
        · rw [if_neg c14] at H
          have c14b0 : (t283 == 2932896) = false := beq_eq_false_iff_ne.mpr c14
          have c14b1 : (t283 != 2932896) = true := bne_iff_ne.mpr c14
          cases (Option.some.inj H).trans hlaw_.out
      · rw [if_neg c13] at H
        have c13b0 : (t284 == 0) = false := beq_eq_false_iff_ne.mpr c13
        have c13b1 : (t284 != 0) = true := bne_iff_ne.mpr c13
        cases (Option.some.inj H).trans hlaw_.out
    · rw [if_neg c12] at H
      have c12b0 : (t282 == 1) = false := beq_eq_false_iff_ne.mpr c12
      have c12b1 : (t282 != 1) = true := bne_iff_ne.mpr c12
      cases (Option.some.inj H).trans hlaw_.out
  · replace c2 := Bool.eq_false_iff.mpr c2
    subst c2
    have H1 : (some false) = some r := by rw [if_neg (show ¬ (false = true) by decide)] at H; exact H
    clear H
    have H := H1
    clear H1
    cases (Option.some.inj H).trans hlaw_.out

/-- THE ONE PURE STATEMENT of hourglasslaw4_CivilKnown: yours. -/
def hourglasslaw4_CivilKnown.Pure : Prop := ∃ k, hourglasslaw4_CivilKnown.f k  = some true
theorem hourglasslaw4_CivilKnown.walk (P : hourglasslaw4_CivilKnown.Pure)  (w : World)  :
    Calls Tryd.prog 8 #[] w fun e w' => e = .returned (.bool true) ∧ Below w.heap.size w w' := by
  obtain ⟨k, h⟩ := P  
  refine (hourglasslaw4_CivilKnown.calls k  true w h (Aside0.mk rfl)).mono ?_
  rintro e w' ⟨rfl, hd⟩
  exact ⟨rfl, hd⟩

end Go.Proofs.YtbgdpkpljkcnfaaDoor.QCivil
