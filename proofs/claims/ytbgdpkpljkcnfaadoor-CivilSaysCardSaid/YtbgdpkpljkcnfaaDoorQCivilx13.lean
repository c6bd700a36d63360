/- What the Go functions compute: each as a Lean function, with the proof that its call answers so; written by a program of this session over the kit's print. Conditions: each theorem's own. -/
import Derived.Test.YtbgdpkpljkcnfaaDoorQCivilx0
import Derived.Test.YtbgdpkpljkcnfaaDoorQCivilx10
namespace Go.Proofs.YtbgdpkpljkcnfaaDoor.QCivil
open Go.RowKit Go.Proofs.YtbgdpkpljkcnfaaDoorW.PrintWords Go.Proofs.YtbgdpkpljkcnfaaDoorW.PrintLast Go.Proofs.YtbgdpkpljkcnfaaDoorW.PrintMore
attribute [local go_sem] max2_int min2_int max_two min_two max_three min_three max_four min_four   -- for this text's walks alone
set_option linter.unusedVariables false
set_option linter.unusedSimpArgs false

/-! ### hourglassref4_first: function 30 -/
mutual
def hourglassref4_first.l0 : Nat → Int → Int → Int → Option (Int)
  | 0, _, _, _ => none
  | k + 1, x0, x3, x4 => if (wrap64 (x0 - x4)) ≥ 400 then (hourglassref4_first.l0 k x0 (wrap64 (x3 + 146097)) (wrap64 (x4 + 400))) else (hourglassref4_first.l1 k x0 x3 x4)
def hourglassref4_first.l1 : Nat → Int → Int → Int → Option (Int)
  | 0, _, _, _ => none
  | k + 1, x0, x3, x4 => if x0 < x4 then (hourglassref4_first.l1 k x0 (wrap64 (x3 - 146097)) (wrap64 (x4 - 400))) else (hourglassref4_first.l2 k x0 x3 x4)
def hourglassref4_first.l2 : Nat → Int → Int → Int → Option (Int)
  | 0, _, _, _ => none
  | k + 1, x0, x3, x4 => if x4 < x0 then ((hourglassref4_Leap.f x4).bind fun t135 => (if t135 = true then (hourglassref4_first.l2 k x0 (wrap64 ((wrap64 (x3 + 365)) + 1)) (wrap64 (x4 + 1))) else (hourglassref4_first.l2 k x0 (wrap64 (x3 + 365)) (wrap64 (x4 + 1))))) else (some x3)
end
def hourglassref4_first.f (k : Nat) (a0 : Int) : Option (Int) := hourglassref4_first.l0 k a0 0 1970
theorem hourglassref4_first.mono_l : ∀ k, (∀ y0 y1 y2, LeO (hourglassref4_first.l0 k y0 y1 y2) (hourglassref4_first.l0 (k + 1) y0 y1 y2)) ∧ (∀ y0 y1 y2, LeO (hourglassref4_first.l1 k y0 y1 y2) (hourglassref4_first.l1 (k + 1) y0 y1 y2)) ∧ (∀ y0 y1 y2, LeO (hourglassref4_first.l2 k y0 y1 y2) (hourglassref4_first.l2 (k + 1) y0 y1 y2))
  | 0 => ⟨fun _ _ _ r h => by simp [hourglassref4_first.l0] at h, fun _ _ _ r h => by simp [hourglassref4_first.l1] at h, fun _ _ _ r h => by simp [hourglassref4_first.l2] at h⟩
  | k + 1 => by
    obtain ⟨ih0, ih1, ih2⟩ := hourglassref4_first.mono_l k
    refine ⟨?_, ?_, ?_⟩
    · intro y0 y1 y2
      unfold hourglassref4_first.l0
      repeat' first
      | (with_reducible exact ih0 _ _ _)
      | (with_reducible exact ih1 _ _ _)
      | (with_reducible exact ih2 _ _ _)
      | (with_reducible exact LeO.refl _)
      | (with_reducible exact LeO.none _)
      | (with_reducible refine LeO.ite ?_ ?_)
      | (with_reducible refine LeO.bind ?_ (fun _ => ?_))
      | exact ih0 _ _ _
      | exact ih1 _ _ _
      | exact ih2 _ _ _
      | exact LeO.none _
      | refine LeO.ite ?_ ?_
      | refine LeO.bind ?_ (fun _ => ?_)
    · intro y0 y1 y2
      unfold hourglassref4_first.l1
      repeat' first
      | (with_reducible exact ih0 _ _ _)
      | (with_reducible exact ih1 _ _ _)
      | (with_reducible exact ih2 _ _ _)
      | (with_reducible exact LeO.refl _)
      | (with_reducible exact LeO.none _)
      | (with_reducible refine LeO.ite ?_ ?_)
      | (with_reducible refine LeO.bind ?_ (fun _ => ?_))
      | exact ih0 _ _ _
      | exact ih1 _ _ _
      | exact ih2 _ _ _
      | exact LeO.none _
      | refine LeO.ite ?_ ?_
      | refine LeO.bind ?_ (fun _ => ?_)
    · intro y0 y1 y2
      unfold hourglassref4_first.l2
      repeat' first
      | (with_reducible exact ih0 _ _ _)
      | (with_reducible exact ih1 _ _ _)
      | (with_reducible exact ih2 _ _ _)
      | (with_reducible exact LeO.refl _)
      | (with_reducible exact LeO.none _)
      | (with_reducible refine LeO.ite ?_ ?_)
      | (with_reducible refine LeO.bind ?_ (fun _ => ?_))
      | exact ih0 _ _ _
      | exact ih1 _ _ _
      | exact ih2 _ _ _
      | exact LeO.none _
      | refine LeO.ite ?_ ?_
      | refine LeO.bind ?_ (fun _ => ?_)
theorem hourglassref4_first.mono : ∀ a0 k, LeO (hourglassref4_first.f k a0) (hourglassref4_first.f (k + 1) a0) := by
  intro a0 k
  obtain ⟨ih0, ih1, ih2⟩ := hourglassref4_first.mono_l k
  unfold hourglassref4_first.f
  repeat' first
      | (with_reducible exact ih0 _ _ _)
      | (with_reducible exact ih1 _ _ _)
      | (with_reducible exact ih2 _ _ _)
      | (with_reducible exact LeO.refl _)
      | (with_reducible exact LeO.none _)
      | (with_reducible refine LeO.ite ?_ ?_)
      | (with_reducible refine LeO.bind ?_ (fun _ => ?_))
      | exact ih0 _ _ _
      | exact ih1 _ _ _
      | exact ih2 _ _ _
      | exact LeO.none _
      | refine LeO.ite ?_ ?_
      | refine LeO.bind ?_ (fun _ => ?_)
set_option maxHeartbeats 8000000 in
set_option maxRecDepth 100000 in
theorem hourglassref4_first.calls (k : Nat) (a0 : Int) (r : Int) (w : World) (h : hourglassref4_first.f k a0 = some r) :
    Calls Tryd.prog 30 #[.int .i64 a0] w fun e w' => e = .returned (.int .i64 r) ∧ Drawn0 w w' := by
  have H : (hourglassref4_first.l0 k a0 0 1970) = some r := h
  clear h
  have H' := Aside0.mk H
  clear H
  go_enter Tryd.func30, Tryd.ntmps30
  go_wp2
  go_loopg [3, 4] k (fun kq v3 v4 w' => ∃ (x3_1 : Int) (x4_1 : Int), v3 = .int .i64 x3_1 ∧ v4 = .int .i64 x4_1 ∧ Aside0 (hourglassref4_first.l0 kq a0 x3_1 x4_1 = some r) ∧ Aside0 (kq ≤ k) ∧ Drawn0 w w')
  case atStart => exact ⟨(0), (1970), (by first | rfl | (simp; done) | (simp [*]; done)), (by first | rfl | (simp; done) | (simp [*]; done)), H', ⟨Nat.le_refl _⟩, by repeat (first | exact Drawn0.refl _ | apply Drawn0.step)⟩
  case round =>
    clear H'
    obtain ⟨x3_1, x4_1, rfl, rfl, HA, HK1, ⟨m1, rfl⟩⟩ := hrel
    cases gk with
    | zero => exact absurd HA.out (by simp [hourglassref4_first.l0])
    | succ k1 =>
      have H := HA.out
      clear HA
      simp only [hourglassref4_first.l0] at H
      by_cases c2 : (wrap64 (a0 - x4_1)) ≥ 400
      · rw [if_pos c2] at H
        have c2b0 : decide (400 ≤ (wrap64 (a0 - x4_1))) = true := decide_eq_true c2
        clear c2
        have H' := Aside0.mk H
        clear H
        go_wp2
        go_roundg k1
        case measure => have := HK1.out; omega
        case rel => exact ⟨(wrap64 (x3_1 + 146097)), (wrap64 (x4_1 + 400)), (by first | rfl | (simp; done) | (simp [*]; done)), (by first | rfl | (simp; done) | (simp [*]; done)), H', ⟨by have := HK1.out; omega⟩, by repeat (first | exact Drawn0.refl _ | apply Drawn0.step)⟩
      · rw [if_neg c2] at H
        have c2b0 : decide (400 ≤ (wrap64 (a0 - x4_1))) = false := decide_eq_false c2
        clear c2
        have H' := Aside0.mk H
        clear H
        go_wp2
        go_loopg [3, 4] k1 (fun kq v3 v4 w' => ∃ (x3_2 : Int) (x4_2 : Int), v3 = .int .i64 x3_2 ∧ v4 = .int .i64 x4_2 ∧ Aside0 (hourglassref4_first.l1 kq a0 x3_2 x4_2 = some r) ∧ Aside0 (kq ≤ k1) ∧ Drawn0 w w')
        case atStart => exact ⟨(x3_1), (x4_1), (by first | rfl | (simp; done) | (simp [*]; done)), (by first | rfl | (simp; done) | (simp [*]; done)), H', ⟨Nat.le_refl _⟩, by repeat (first | exact Drawn0.refl _ | apply Drawn0.step)⟩
        case round =>
          clear H'
          try clear c2
          try clear c2b0
          try clear p2
          obtain ⟨x3_2, x4_2, rfl, rfl, HA, HK2, ⟨m2, rfl⟩⟩ := hrel
          cases gk with
          | zero => exact absurd HA.out (by simp [hourglassref4_first.l1])
          | succ k2 =>
            have H := HA.out
            clear HA
            simp only [hourglassref4_first.l1] at H
            by_cases c3 : a0 < x4_2
            · rw [if_pos c3] at H
              have c3b0 : decide (a0 < x4_2) = true := decide_eq_true c3
              clear c3
              have H' := Aside0.mk H
              clear H
              go_wp2
              go_roundg k2
              case measure => have := HK1.out; have := HK2.out; omega
              case rel => exact ⟨(wrap64 (x3_2 - 146097)), (wrap64 (x4_2 - 400)), (by first | rfl | (simp; done) | (simp [*]; done)), (by first | rfl | (simp; done) | (simp [*]; done)), H', ⟨by have := HK1.out; have := HK2.out; omega⟩, by repeat (first | exact Drawn0.refl _ | apply Drawn0.step)⟩
            · rw [if_neg c3] at H
              have c3b0 : decide (a0 < x4_2) = false := decide_eq_false c3
              clear c3
              have H' := Aside0.mk H
              clear H
              go_wp2
              go_loopg [3, 4] k2 (fun kq v3 v4 w' => ∃ (x3_3 : Int) (x4_3 : Int), v3 = .int .i64 x3_3 ∧ v4 = .int .i64 x4_3 ∧ Aside0 (hourglassref4_first.l2 kq a0 x3_3 x4_3 = some r) ∧ Aside0 (kq ≤ k2) ∧ Drawn0 w w')
              case atStart => exact ⟨(x3_2), (x4_2), (by first | rfl | (simp; done) | (simp [*]; done)), (by first | rfl | (simp; done) | (simp [*]; done)), H', ⟨Nat.le_refl _⟩, by repeat (first | exact Drawn0.refl _ | apply Drawn0.step)⟩
              case round =>
                clear H'
                try clear c2
                try clear c2b0
                try clear p2
                try clear c3
                try clear c3b0
                try clear p2
                obtain ⟨x3_3, x4_3, rfl, rfl, HA, HK3, ⟨m3, rfl⟩⟩ := hrel
                cases gk with
                | zero => exact absurd HA.out (by simp [hourglassref4_first.l2])
                | succ k3 =>
                  have H := HA.out
                  clear HA
                  simp only [hourglassref4_first.l2] at H
                  by_cases c4 : x4_3 < a0
                  · rw [if_pos c4] at H
                    have c4b0 : decide (x4_3 < a0) = true := decide_eq_true c4
                    clear c4
                    replace H := Option.bind_eq_some_iff.mp H
                    obtain ⟨t135, A50, H⟩ := H
                    replace H : (if t135 = true then (hourglassref4_first.l2 k3 a0 (wrap64 ((wrap64 (x3_3 + 365)) + 1)) (wrap64 (x4_3 + 1))) else (hourglassref4_first.l2 k3 a0 (wrap64 (x3_3 + 365)) (wrap64 (x4_3 + 1)))) = some r := H
                    have A5 := Aside0.mk A50
                    clear A50
                    by_cases c6 : t135 = true
                    · subst c6
                      have H1 : (hourglassref4_first.l2 k3 a0 (wrap64 ((wrap64 (x3_3 + 365)) + 1)) (wrap64 (x4_3 + 1))) = some r := by rw [if_pos rfl] at H; exact H
                      clear H
                      have H := H1
                      clear H1
                      have H' := Aside0.mk H
                      clear H
                      go_wp2_with (first | ((with_reducible refine gate_callee (f := 18) rfl ?_); refine goesL_ (some 28) rfl rfl Tryd.func18 (by kernel_rfl) rfl #[.int .i64 x4_3] rfl (by (try simp only [List.map_toArray, List.map_cons, List.map_nil]); first | done | rfl | (simp only [List.length_drop, List.length_take]; rfl)) ?_; (with_reducible refine (hourglassref4_Leap.calls x4_3 true _ A5.out).mono ?_); rintro e w' ⟨rfl, ⟨nd, rfl⟩⟩; refine ⟨_, rfl, ?_⟩))
                      go_roundg k3
                      case measure => have := HK1.out; have := HK2.out; have := HK3.out; omega
                      case rel => exact ⟨(wrap64 ((wrap64 (x3_3 + 365)) + 1)), (wrap64 (x4_3 + 1)), (by first | rfl | (simp; done) | (simp [*]; done)), (by first | rfl | (simp; done) | (simp [*]; done)), H', ⟨by have := HK1.out; have := HK2.out; have := HK3.out; omega⟩, by repeat (first | exact Drawn0.refl _ | apply Drawn0.step)⟩
                    · replace c6 := Bool.eq_false_iff.mpr c6
                      subst c6
                      have H1 : (hourglassref4_first.l2 k3 a0 (wrap64 (x3_3 + 365)) (wrap64 (x4_3 + 1))) = some r := by rw [if_neg (show ¬ (false = true) by decide)] at H; exact H
                      clear H
                      have H := H1
                      clear H1
                      have H' := Aside0.mk H
                      clear H
                      go_wp2_with (first | ((with_reducible refine gate_callee (f := 18) rfl ?_); refine goesL_ (some 28) rfl rfl Tryd.func18 (by kernel_rfl) rfl #[.int .i64 x4_3] rfl (by (try simp only [List.map_toArray, List.map_cons, List.map_nil]); first | done | rfl | (simp only [List.length_drop, List.length_take]; rfl)) ?_; (with_reducible refine (hourglassref4_Leap.calls x4_3 false _ A5.out).mono ?_); rintro e w' ⟨rfl, ⟨nd, rfl⟩⟩; refine ⟨_, rfl, ?_⟩))
                      go_roundg k3
                      case measure => have := HK1.out; have := HK2.out; have := HK3.out; omega
                      case rel => exact ⟨(wrap64 (x3_3 + 365)), (wrap64 (x4_3 + 1)), (by first | rfl | (simp; done) | (simp [*]; done)), (by first | rfl | (simp; done) | (simp [*]; done)), H', ⟨by have := HK1.out; have := HK2.out; have := HK3.out; omega⟩, by repeat (first | exact Drawn0.refl _ | apply Drawn0.step)⟩
                  · rw [if_neg c4] at H
                    have c4b0 : decide (x4_3 < a0) = false := decide_eq_false c4
                    clear c4
                    obtain rfl := Option.some.inj H
                    go_wp2
                    go_ret
                    exact ⟨by first | rfl | (simp; done) | (simp [*]; done), by repeat (first | exact Drawn0.refl _ | apply Drawn0.step)⟩

end Go.Proofs.YtbgdpkpljkcnfaaDoor.QCivil
