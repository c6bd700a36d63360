/- What the Go functions compute: each as a Lean function, with the proof that its call answers so; written by a program of this session over the kit's print. Conditions: each theorem's own. -/
import Derived.Test.YthelnkmjhchmnaaDoorQLeapx0
import Derived.Test.YthelnkmjhchmnaaDoorQLeapx3
namespace Go.Proofs.YthelnkmjhchmnaaDoor.QLeap
open Go.RowKit Go.Proofs.YthelnkmjhchmnaaDoorW.PrintWords Go.Proofs.YthelnkmjhchmnaaDoorW.PrintLast Go.Proofs.YthelnkmjhchmnaaDoorW.PrintMore
attribute [local go_sem] max2_int min2_int max_two min_two max_three min_three max_four min_four   -- for this text's walks alone
set_option linter.unusedVariables false
set_option linter.unusedSimpArgs false

/-! ### civil_Length: function 28 -/
mutual
def civil_Length.j0 : Nat → Int → Bool → Option (Int)
  | 0, _, _ => none
  | k + 1, x5, x10 => if x10 = true then (some 30) else (if x5 = 1 then (civil_Length.j1 k (x5 == 1)) else (if x5 = 3 then (civil_Length.j1 k (x5 == 3)) else (if x5 = 5 then (civil_Length.j1 k (x5 == 5)) else (if x5 = 7 then (civil_Length.j1 k (x5 == 7)) else (if x5 = 8 then (civil_Length.j1 k (x5 == 8)) else (if x5 = 10 then (civil_Length.j1 k (x5 == 10)) else (civil_Length.j1 k (x5 == 12))))))))
def civil_Length.j1 : Nat → Bool → Option (Int)
  | 0, _ => none
  | k + 1, x15 => if x15 = true then (some 31) else (some 0)
end
def civil_Length.f (k : Nat) (a0 : Int) (a1 : Int) : Option (Int) := if a1 = 2 then ((civil_Leap.f a0).bind fun t103 => (if t103 = true then (some 29) else (some 28))) else (if a1 = 4 then (civil_Length.j0 k a1 (a1 == 4)) else (if a1 = 6 then (civil_Length.j0 k a1 (a1 == 6)) else (if a1 = 9 then (civil_Length.j0 k a1 (a1 == 9)) else (civil_Length.j0 k a1 (a1 == 11)))))
theorem civil_Length.mono_l : ∀ k, (∀ y0 y1, LeO (civil_Length.j0 k y0 y1) (civil_Length.j0 (k + 1) y0 y1)) ∧ (∀ y0, LeO (civil_Length.j1 k y0) (civil_Length.j1 (k + 1) y0))
  | 0 => ⟨fun _ _ r h => by simp [civil_Length.j0] at h, fun _ r h => by simp [civil_Length.j1] at h⟩
  | k + 1 => by
    obtain ⟨ih0, ih1⟩ := civil_Length.mono_l k
    refine ⟨?_, ?_⟩
    · intro y0 y1
      unfold civil_Length.j0
      repeat' first
      | (with_reducible exact ih0 _ _)
      | (with_reducible exact ih1 _)
      | (with_reducible exact LeO.refl _)
      | (with_reducible exact LeO.none _)
      | (with_reducible refine LeO.ite ?_ ?_)
      | (with_reducible refine LeO.bind ?_ (fun _ => ?_))
      | exact ih0 _ _
      | exact ih1 _
      | exact LeO.none _
      | refine LeO.ite ?_ ?_
      | refine LeO.bind ?_ (fun _ => ?_)
    · intro y0
      unfold civil_Length.j1
      repeat' first
      | (with_reducible exact ih0 _ _)
      | (with_reducible exact ih1 _)
      | (with_reducible exact LeO.refl _)
      | (with_reducible exact LeO.none _)
      | (with_reducible refine LeO.ite ?_ ?_)
      | (with_reducible refine LeO.bind ?_ (fun _ => ?_))
      | exact ih0 _ _
      | exact ih1 _
      | exact LeO.none _
      | refine LeO.ite ?_ ?_
      | refine LeO.bind ?_ (fun _ => ?_)
theorem civil_Length.mono : ∀ a0 a1 k, LeO (civil_Length.f k a0 a1) (civil_Length.f (k + 1) a0 a1) := by
  intro a0 a1 k
  obtain ⟨ih0, ih1⟩ := civil_Length.mono_l k
  unfold civil_Length.f
  repeat' first
      | (with_reducible exact ih0 _ _)
      | (with_reducible exact ih1 _)
      | (with_reducible exact LeO.refl _)
      | (with_reducible exact LeO.none _)
      | (with_reducible refine LeO.ite ?_ ?_)
      | (with_reducible refine LeO.bind ?_ (fun _ => ?_))
      | exact ih0 _ _
      | exact ih1 _
      | exact LeO.none _
      | refine LeO.ite ?_ ?_
      | refine LeO.bind ?_ (fun _ => ?_)
set_option maxHeartbeats 8000000 in
set_option maxRecDepth 100000 in
theorem civil_Length.calls (k : Nat) (a0 : Int) (a1 : Int) (r : Int) (w : World) (h : civil_Length.f k a0 a1 = some r) :
    Calls Tryd.prog 28 #[.int .i64 a0, .int .i64 a1] w fun e w' => e = .returned (.int .i64 r) ∧ Drawn0 w w' := by
  have H : (if a1 = 2 then ((civil_Leap.f a0).bind fun t103 => (if t103 = true then (some 29) else (some 28))) else (if a1 = 4 then (civil_Length.j0 k a1 (a1 == 4)) else (if a1 = 6 then (civil_Length.j0 k a1 (a1 == 6)) else (if a1 = 9 then (civil_Length.j0 k a1 (a1 == 9)) else (civil_Length.j0 k a1 (a1 == 11)))))) = some r := h
  clear h
  by_cases c3 : a1 = 2
  · rw [if_pos c3] at H
    have c3b0 : (a1 == 2) = true := beq_iff_eq.mpr c3
    have c3b1 : (a1 != 2) = false := bne_eq_false_iff_eq.mpr c3
    clear c3
    replace H := Option.bind_eq_some_iff.mp H
    obtain ⟨t103, A40, H⟩ := H
    replace H : (if t103 = true then (some 29) else (some 28)) = some r := H
    have A4 := Aside0.mk A40
    clear A40
    by_cases c5 : t103 = true
    · subst c5
      have H1 : (some 29) = some r := by rw [if_pos rfl] at H; exact H
      clear H
      have H := H1
      clear H1
      obtain rfl := Option.some.inj H
      go_enter Tryd.func28, Tryd.ntmps28
      go_wp2_with (first | ((with_reducible refine gate_callee (f := 37) rfl ?_); refine goesL_ (some 9) rfl rfl Tryd.func37 (by kernel_rfl) rfl #[.int .i64 a0] rfl (by (try simp only [List.map_toArray, List.map_cons, List.map_nil]); first | done | rfl | (simp only [List.length_drop, List.length_take]; rfl)) ?_; (with_reducible refine (civil_Leap.calls a0 true _ A4.out).mono ?_); rintro e w' ⟨rfl, ⟨nd, rfl⟩⟩; refine ⟨_, rfl, ?_⟩))
      go_ret
      exact ⟨by first | rfl | (simp; done) | (simp [*]; done), by repeat (first | exact Drawn0.refl _ | apply Drawn0.step)⟩
    · replace c5 := Bool.eq_false_iff.mpr c5
      subst c5
      have H1 : (some 28) = some r := by rw [if_neg (show ¬ (false = true) by decide)] at H; exact H
      clear H
      have H := H1
      clear H1
      obtain rfl := Option.some.inj H
      go_enter Tryd.func28, Tryd.ntmps28
      go_wp2_with (first | ((with_reducible refine gate_callee (f := 37) rfl ?_); refine goesL_ (some 9) rfl rfl Tryd.func37 (by kernel_rfl) rfl #[.int .i64 a0] rfl (by (try simp only [List.map_toArray, List.map_cons, List.map_nil]); first | done | rfl | (simp only [List.length_drop, List.length_take]; rfl)) ?_; (with_reducible refine (civil_Leap.calls a0 false _ A4.out).mono ?_); rintro e w' ⟨rfl, ⟨nd, rfl⟩⟩; refine ⟨_, rfl, ?_⟩))
      go_ret
      exact ⟨by first | rfl | (simp; done) | (simp [*]; done), by repeat (first | exact Drawn0.refl _ | apply Drawn0.step)⟩
  · rw [if_neg c3] at H
    have c3b0 : (a1 == 2) = false := beq_eq_false_iff_ne.mpr c3
    have c3b1 : (a1 != 2) = true := bne_iff_ne.mpr c3
    have HC6 := Aside0.mk H
    clear H
    go_enter Tryd.func28, Tryd.ntmps28
    go_upto_if 10 with (fail)
    go_cut [10] (fun v10 wc => ∃ (kq : Nat) (x10_5 : Bool), v10 = .bool x10_5 ∧ Aside0 (civil_Length.j0 kq a1 x10_5 = some r) ∧ Aside0 (kq ≤ k) ∧ Drawn0 w wc)
    case first =>
      have H := HC6.out
      clear HC6
      by_cases c7 : a1 = 4
      · rw [if_pos c7] at H
        have c7b0 : (a1 == 4) = true := beq_iff_eq.mpr c7
        have c7b1 : (a1 != 4) = false := bne_eq_false_iff_eq.mpr c7
        clear c7
        (first | rw [c7b0] | (simp only [i64_w, i32_w]; rw [c7b0]) | skip)
        have H' := Aside0.mk H
        clear H
        go_wp2
        go_meet
        case rel => exact ⟨_, ((a1 == 4)), (by first | rfl | (simp; done) | (simp [*]; done)), H', ⟨by first | omega | exact Nat.le_refl _⟩, by repeat (first | exact Drawn0.refl _ | apply Drawn0.step)⟩
      · rw [if_neg c7] at H
        have c7b0 : (a1 == 4) = false := beq_eq_false_iff_ne.mpr c7
        have c7b1 : (a1 != 4) = true := bne_iff_ne.mpr c7
        (first | rw [c7b0] | (simp only [i64_w, i32_w]; rw [c7b0]) | skip)
        by_cases c8 : a1 = 6
        · rw [if_pos c8] at H
          have c8b0 : (a1 == 6) = true := beq_iff_eq.mpr c8
          have c8b1 : (a1 != 6) = false := bne_eq_false_iff_eq.mpr c8
          clear c8
          have H' := Aside0.mk H
          clear H
          go_wp2
          go_meet
          case rel => exact ⟨_, ((a1 == 6)), (by first | rfl | (simp; done) | (simp [*]; done)), H', ⟨by first | omega | exact Nat.le_refl _⟩, by repeat (first | exact Drawn0.refl _ | apply Drawn0.step)⟩
        · rw [if_neg c8] at H
          have c8b0 : (a1 == 6) = false := beq_eq_false_iff_ne.mpr c8
          have c8b1 : (a1 != 6) = true := bne_iff_ne.mpr c8
          by_cases c9 : a1 = 9
          · rw [if_pos c9] at H
            have c9b0 : (a1 == 9) = true := beq_iff_eq.mpr c9
            have c9b1 : (a1 != 9) = false := bne_eq_false_iff_eq.mpr c9
            clear c9
            have H' := Aside0.mk H
            clear H
            go_wp2
            go_meet
            case rel => exact ⟨_, ((a1 == 9)), (by first | rfl | (simp; done) | (simp [*]; done)), H', ⟨by first | omega | exact Nat.le_refl _⟩, by repeat (first | exact Drawn0.refl _ | apply Drawn0.step)⟩
          · rw [if_neg c9] at H
            have c9b0 : (a1 == 9) = false := beq_eq_false_iff_ne.mpr c9
            have c9b1 : (a1 != 9) = true := bne_iff_ne.mpr c9
            have H' := Aside0.mk H
            clear H
            go_wp2
            go_meet
            case rel => exact ⟨_, ((a1 == 11)), (by first | rfl | (simp; done) | (simp [*]; done)), H', ⟨by first | omega | exact Nat.le_refl _⟩, by repeat (first | exact Drawn0.refl _ | apply Drawn0.step)⟩
    case rest =>
      clear HC6
      try clear c2
      try clear p2
      try clear c3
      try clear c3b0
      try clear c3b1
      try clear c5
      try clear c7
      try clear c7b0
      try clear c7b1
      try clear c8
      try clear c8b0
      try clear c8b1
      try clear c9
      try clear c9b0
      try clear c9b1
      obtain ⟨kq, x10_5, rfl, HA, HJ5, ⟨mc5, rfl⟩⟩ := hcut
      cases kq with
      | zero => exact absurd HA.out (by simp [civil_Length.j0])
      | succ kj5 =>
        have H := HA.out
        clear HA
        simp only [civil_Length.j0] at H
        by_cases c10 : x10_5 = true
        · subst c10
          have H1 : (some 30) = some r := by rw [if_pos rfl] at H; exact H
          clear H
          have H := H1
          clear H1
          obtain rfl := Option.some.inj H
          go_wp2
          go_ret
          exact ⟨by first | rfl | (simp; done) | (simp [*]; done), by repeat (first | exact Drawn0.refl _ | apply Drawn0.step)⟩
        · replace c10 := Bool.eq_false_iff.mpr c10
          subst c10
          have H1 : (if a1 = 1 then (civil_Length.j1 kj5 (a1 == 1)) else (if a1 = 3 then (civil_Length.j1 kj5 (a1 == 3)) else (if a1 = 5 then (civil_Length.j1 kj5 (a1 == 5)) else (if a1 = 7 then (civil_Length.j1 kj5 (a1 == 7)) else (if a1 = 8 then (civil_Length.j1 kj5 (a1 == 8)) else (if a1 = 10 then (civil_Length.j1 kj5 (a1 == 10)) else (civil_Length.j1 kj5 (a1 == 12)))))))) = some r := by rw [if_neg (show ¬ (false = true) by decide)] at H; exact H
          clear H
          have H := H1
          clear H1
          have HC11 := Aside0.mk H
          clear H
          go_upto_if 15 with (fail)
          go_cut [15] (fun v15 wc => ∃ (kq : Nat) (x15_10 : Bool), v15 = .bool x15_10 ∧ Aside0 (civil_Length.j1 kq x15_10 = some r) ∧ Aside0 (kq ≤ kj5) ∧ Drawn0 w wc)
          case first =>
            have H := HC11.out
            clear HC11
            by_cases c12 : a1 = 1
            · rw [if_pos c12] at H
              have c12b0 : (a1 == 1) = true := beq_iff_eq.mpr c12
              have c12b1 : (a1 != 1) = false := bne_eq_false_iff_eq.mpr c12
              clear c12
              (first | rw [c12b0] | (simp only [i64_w, i32_w]; rw [c12b0]) | skip)
              have H' := Aside0.mk H
              clear H
              go_wp2
              go_meet
              case rel => exact ⟨_, ((a1 == 1)), (by first | rfl | (simp; done) | (simp [*]; done)), H', ⟨by have := HJ5.out; first | omega | exact Nat.le_refl _⟩, by repeat (first | exact Drawn0.refl _ | apply Drawn0.step)⟩
            · rw [if_neg c12] at H
              have c12b0 : (a1 == 1) = false := beq_eq_false_iff_ne.mpr c12
              have c12b1 : (a1 != 1) = true := bne_iff_ne.mpr c12
              (first | rw [c12b0] | (simp only [i64_w, i32_w]; rw [c12b0]) | skip)
              by_cases c13 : a1 = 3
              · rw [if_pos c13] at H
                have c13b0 : (a1 == 3) = true := beq_iff_eq.mpr c13
                have c13b1 : (a1 != 3) = false := bne_eq_false_iff_eq.mpr c13
                clear c13
                have H' := Aside0.mk H
                clear H
                go_wp2
                go_meet
                case rel => exact ⟨_, ((a1 == 3)), (by first | rfl | (simp; done) | (simp [*]; done)), H', ⟨by have := HJ5.out; first | omega | exact Nat.le_refl _⟩, by repeat (first | exact Drawn0.refl _ | apply Drawn0.step)⟩
              · rw [if_neg c13] at H
                have c13b0 : (a1 == 3) = false := beq_eq_false_iff_ne.mpr c13
                have c13b1 : (a1 != 3) = true := bne_iff_ne.mpr c13
                by_cases c14 : a1 = 5
                · rw [if_pos c14] at H
                  have c14b0 : (a1 == 5) = true := beq_iff_eq.mpr c14
                  have c14b1 : (a1 != 5) = false := bne_eq_false_iff_eq.mpr c14
                  clear c14
                  have H' := Aside0.mk H
                  clear H
                  go_wp2
                  go_meet
                  case rel => exact ⟨_, ((a1 == 5)), (by first | rfl | (simp; done) | (simp [*]; done)), H', ⟨by have := HJ5.out; first | omega | exact Nat.le_refl _⟩, by repeat (first | exact Drawn0.refl _ | apply Drawn0.step)⟩
                · rw [if_neg c14] at H
                  have c14b0 : (a1 == 5) = false := beq_eq_false_iff_ne.mpr c14
                  have c14b1 : (a1 != 5) = true := bne_iff_ne.mpr c14
                  by_cases c15 : a1 = 7
                  · rw [if_pos c15] at H
                    have c15b0 : (a1 == 7) = true := beq_iff_eq.mpr c15
                    have c15b1 : (a1 != 7) = false := bne_eq_false_iff_eq.mpr c15
                    clear c15
                    have H' := Aside0.mk H
                    clear H
                    go_wp2
                    go_meet
                    case rel => exact ⟨_, ((a1 == 7)), (by first | rfl | (simp; done) | (simp [*]; done)), H', ⟨by have := HJ5.out; first | omega | exact Nat.le_refl _⟩, by repeat (first | exact Drawn0.refl _ | apply Drawn0.step)⟩
                  · rw [if_neg c15] at H
                    have c15b0 : (a1 == 7) = false := beq_eq_false_iff_ne.mpr c15
                    have c15b1 : (a1 != 7) = true := bne_iff_ne.mpr c15
                    by_cases c16 : a1 = 8
                    · rw [if_pos c16] at H
                      have c16b0 : (a1 == 8) = true := beq_iff_eq.mpr c16
                      have c16b1 : (a1 != 8) = false := bne_eq_false_iff_eq.mpr c16
                      clear c16
                      have H' := Aside0.mk H
                      clear H
                      go_wp2
                      go_meet
                      case rel => exact ⟨_, ((a1 == 8)), (by first | rfl | (simp; done) | (simp [*]; done)), H', ⟨by have := HJ5.out; first | omega | exact Nat.le_refl _⟩, by repeat (first | exact Drawn0.refl _ | apply Drawn0.step)⟩
                    · rw [if_neg c16] at H
                      have c16b0 : (a1 == 8) = false := beq_eq_false_iff_ne.mpr c16
                      have c16b1 : (a1 != 8) = true := bne_iff_ne.mpr c16
                      by_cases c17 : a1 = 10
                      · rw [if_pos c17] at H
                        have c17b0 : (a1 == 10) = true := beq_iff_eq.mpr c17
                        have c17b1 : (a1 != 10) = false := bne_eq_false_iff_eq.mpr c17
                        clear c17
                        have H' := Aside0.mk H
                        clear H
                        go_wp2
                        go_meet
                        case rel => exact ⟨_, ((a1 == 10)), (by first | rfl | (simp; done) | (simp [*]; done)), H', ⟨by have := HJ5.out; first | omega | exact Nat.le_refl _⟩, by repeat (first | exact Drawn0.refl _ | apply Drawn0.step)⟩
                      · rw [if_neg c17] at H
                        have c17b0 : (a1 == 10) = false := beq_eq_false_iff_ne.mpr c17
                        have c17b1 : (a1 != 10) = true := bne_iff_ne.mpr c17
                        have H' := Aside0.mk H
                        clear H
                        go_wp2
                        go_meet
                        case rel => exact ⟨_, ((a1 == 12)), (by first | rfl | (simp; done) | (simp [*]; done)), H', ⟨by have := HJ5.out; first | omega | exact Nat.le_refl _⟩, by repeat (first | exact Drawn0.refl _ | apply Drawn0.step)⟩
          case rest =>
            clear HC11
            try clear c1
            try clear c2
            try clear p2
            try clear c3
            try clear c3b0
            try clear c3b1
            try clear c5
            try clear c7
            try clear c7b0
            try clear c7b1
            try clear c8
            try clear c8b0
            try clear c8b1
            try clear c9
            try clear c9b0
            try clear c9b1
            try clear c10
            try clear c12
            try clear c12b0
            try clear c12b1
            try clear c13
            try clear c13b0
            try clear c13b1
            try clear c14
            try clear c14b0
            try clear c14b1
            try clear c15
            try clear c15b0
            try clear c15b1
            try clear c16
            try clear c16b0
            try clear c16b1
            try clear c17
            try clear c17b0
            try clear c17b1
            try clear p2
            obtain ⟨kq, x15_10, rfl, HA, HJ10, ⟨mc10, rfl⟩⟩ := hcut
            cases kq with
            | zero => exact absurd HA.out (by simp [civil_Length.j1])
            | succ kj10 =>
              have H := HA.out
              clear HA
              simp only [civil_Length.j1] at H
              by_cases c18 : x15_10 = true
              · subst c18
                have H1 : (some 31) = some r := by rw [if_pos rfl] at H; exact H
                clear H
                have H := H1
                clear H1
                obtain rfl := Option.some.inj H
                go_wp2
                go_ret
                exact ⟨by first | rfl | (simp; done) | (simp [*]; done), by repeat (first | exact Drawn0.refl _ | apply Drawn0.step)⟩
              · replace c18 := Bool.eq_false_iff.mpr c18
                subst c18
                have H1 : (some 0) = some r := by rw [if_neg (show ¬ (false = true) by decide)] at H; exact H
                clear H
                have H := H1
                clear H1
                obtain rfl := Option.some.inj H
                go_wp2
                go_ret
                exact ⟨by first | rfl | (simp; done) | (simp [*]; done), by repeat (first | exact Drawn0.refl _ | apply Drawn0.step)⟩

end Go.Proofs.YthelnkmjhchmnaaDoor.QLeap
