/- What the Go functions compute: each as a Lean function, with the proof that its call answers so; written by a program of this session over the kit's print. Conditions: each theorem's own. -/
import Derived.Test.YtacbaiflblngfaaQFramex0
namespace Go.Proofs.Ytacbaiflblngfaa.QFrame
open Go.RowKit Go.Proofs.YtacbaiflblngfaaW.PrintWords Go.Proofs.YtacbaiflblngfaaW.PrintLast Go.Proofs.YtacbaiflblngfaaW.PrintMore
attribute [local go_sem] max2_int min2_int max_two min_two max_three min_three max_four min_four u32_signed u32_max
set_option linter.unusedVariables false
set_option linter.unusedSimpArgs false

/-! ### hourglassref1_Same: function 12 -/
def hourglassref1_Same.l0 : Nat → List (List Int) → List (List Int) → Int → Option (Bool)
  | 0, _, _, _ => none
  | k + 1, x0, x1, x5 => if x5 < (x0.length : Int) then (if 0 ≤ x5 then (if x5 < (x1.length : Int) then (if (strOfNums (rd_L1 x0 x5)).toList = (strOfNums (rd_L1 x1 x5)).toList then (hourglassref1_Same.l0 k x0 x1 (wrap64 (x5 + 1))) else (some false)) else (none)) else (none)) else (some true)
def hourglassref1_Same.f (k : Nat) (l0 : List (List Int)) (l1 : List (List Int)) : Option (Bool) := if (l0.length : Int) = (l1.length : Int) then (hourglassref1_Same.l0 k l0 l1 0) else (some false)
theorem hourglassref1_Same.mono_l : ∀ k, (∀ y0 y1 y2, LeO (hourglassref1_Same.l0 k y0 y1 y2) (hourglassref1_Same.l0 (k + 1) y0 y1 y2))
  | 0 => fun _ _ _ r h => by simp [hourglassref1_Same.l0] at h
  | k + 1 => by
    have ih0 := hourglassref1_Same.mono_l k
    · intro y0 y1 y2
      unfold hourglassref1_Same.l0
      repeat' first
      | (with_reducible exact ih0 _ _ _)
      | (with_reducible exact LeO.refl _)
      | (with_reducible exact LeO.none _)
      | (with_reducible refine LeO.ite ?_ ?_)
      | (with_reducible refine LeO.bind ?_ (fun _ => ?_))
      | exact ih0 _ _ _
      | exact LeO.none _
      | refine LeO.ite ?_ ?_
      | refine LeO.bind ?_ (fun _ => ?_)
theorem hourglassref1_Same.mono : ∀ a0 a1 k, LeO (hourglassref1_Same.f k a0 a1) (hourglassref1_Same.f (k + 1) a0 a1) := by
  intro a0 a1 k
  have ih0 := hourglassref1_Same.mono_l k
  unfold hourglassref1_Same.f
  repeat' first
      | (with_reducible exact ih0 _ _ _)
      | (with_reducible exact LeO.refl _)
      | (with_reducible exact LeO.none _)
      | (with_reducible refine LeO.ite ?_ ?_)
      | (with_reducible refine LeO.bind ?_ (fun _ => ?_))
      | exact ih0 _ _ _
      | exact LeO.none _
      | refine LeO.ite ?_ ?_
      | refine LeO.bind ?_ (fun _ => ?_)
set_option maxHeartbeats 8000000 in
set_option maxRecDepth 100000 in
theorem hourglassref1_Same.calls (k : Nat) (A0 : Option Addr) (c0 : Nat) (l0 : List (List Int)) (A1 : Option Addr) (c1 : Nat) (l1 : List (List Int)) (r : Bool) (w : World) (hr0 : Kd.C (Kd.slice 5 (Kd.int .u8)) w A0 l0.length l0) (hc0 : l0.length ≤ c0) (hr1 : Kd.C (Kd.slice 5 (Kd.int .u8)) w A1 l1.length l1) (hc1 : l1.length ≤ c1) (h : hourglassref1_Same.f k l0 l1 = some r) :
    Calls Try.prog 12 #[.slice A0 l0.length c0, .slice A1 l1.length c1] w fun e w' => e = .returned (.bool r) ∧ Drawn0 w w' := by
  have HR0 := Aside0.mk hr0
  have HC0 := Aside0.mk hc0
  clear hr0 hc0
  have HR1 := Aside0.mk hr1
  have HC1 := Aside0.mk hc1
  clear hr1 hc1
  have H : (if (l0.length : Int) = (l1.length : Int) then (hourglassref1_Same.l0 k l0 l1 0) else (some false)) = some r := h
  clear h
  by_cases c3 : (l0.length : Int) = (l1.length : Int)
  · rw [if_pos c3] at H
    have c3b0 : ((l0.length : Int) == (l1.length : Int)) = true := beq_iff_eq.mpr c3
    have c3b1 : ((l0.length : Int) != (l1.length : Int)) = false := bne_eq_false_iff_eq.mpr c3
    have c3b2 : (l0.length == l1.length) = true := by first | simpa using c3 | (simp at c3 ⊢; omega)
    clear c3
    have H' := Aside0.mk H
    clear H
    go_enter Try.func12, Try.ntmps12
    go_wp2
    repeat (go_quiet (fail); try go_wp2)
    go_loopg [5] k (fun kq v5 w' => ∃ (x5_1 : Int), v5 = .int .i64 x5_1 ∧ Aside0 (hourglassref1_Same.l0 kq l0 l1 x5_1 = some r) ∧ Aside0 (kq ≤ k) ∧ Drawn0 w w')
    case atStart => exact ⟨(0), (by first | rfl | (simp; done) | (simp [*]; done)), H', ⟨Nat.le_refl _⟩, by repeat (first | exact Drawn0.refl _ | apply Drawn0.step)⟩
    case round =>
      clear H'
      try clear c1
      try clear p2
      try clear c3
      try clear c3b0
      try clear c3b1
      try clear c3b2
      obtain ⟨x5_1, rfl, HA, HK1, ⟨m1, rfl⟩⟩ := hrel
      cases gk with
      | zero => exact absurd HA.out (by simp [hourglassref1_Same.l0])
      | succ k1 =>
        have H := HA.out
        clear HA
        simp only [hourglassref1_Same.l0] at H
        by_cases c4 : x5_1 < (l0.length : Int)
        · rw [if_pos c4] at H
          have c4b0 : decide (x5_1 < (l0.length : Int)) = true := decide_eq_true c4
          clear c4
          by_cases c5 : 0 ≤ x5_1
          · rw [if_pos c5] at H
            have c5b0 : decide (0 ≤ x5_1) = true := decide_eq_true c5
            clear c5
            by_cases c6 : x5_1 < (l1.length : Int)
            · rw [if_pos c6] at H
              have c6b0 : decide (x5_1 < (l1.length : Int)) = true := decide_eq_true c6
              clear c6
              by_cases c7 : (strOfNums (rd_L1 l0 x5_1)).toList = (strOfNums (rd_L1 l1 x5_1)).toList
              · rw [if_pos c7] at H
                have c7b0 : ((strOfNums (rd_L1 l0 x5_1)).toList == (strOfNums (rd_L1 l1 x5_1)).toList) = true := beq_iff_eq.mpr c7
                have c7b1 : ((strOfNums (rd_L1 l0 x5_1)).toList != (strOfNums (rd_L1 l1 x5_1)).toList) = false := bne_eq_false_iff_eq.mpr c7
                clear c7
                have H' := Aside0.mk H
                clear H
                have p257 : 0 ≤ (x5_1 : Int) := of_decide_eq_true (by first | (with_reducible assumption) | assumption)
                have q257 : x5_1 < (l0.length : Int) := of_decide_eq_true (by first | (with_reducible assumption) | assumption)
                obtain ⟨ad257, A257_0, c257_0, e257, hx257_0, hl257_0, hi257_0⟩ := at_L1 HR0.out x5_1 p257 q257
                cases e257
                have HR257_0 := Aside0.mk hi257_0
                have HC257_0 := Aside0.mk hl257_0
                clear hi257_0 hl257_0
                replace p257 := eq_true p257
                replace q257 := eq_true q257
                have hcv8 := fun n_ => Kd.C_string (P := Try.prog) (A := A257_0) (c := c257_0) Try.underlying23 Try.underlying5 Try.underlying9 (Kd.C_drewN HR257_0.out n_)
                have p258 : 0 ≤ (x5_1 : Int) := of_decide_eq_true (by first | (with_reducible assumption) | assumption)
                have q258 : x5_1 < (l1.length : Int) := of_decide_eq_true (by first | (with_reducible assumption) | assumption)
                obtain ⟨ad258, A258_0, c258_0, e258, hx258_0, hl258_0, hi258_0⟩ := at_L1 HR1.out x5_1 p258 q258
                cases e258
                have HR258_0 := Aside0.mk hi258_0
                have HC258_0 := Aside0.mk hl258_0
                clear hi258_0 hl258_0
                replace p258 := eq_true p258
                replace q258 := eq_true q258
                have hcv9 := fun n_ => Kd.C_string (P := Try.prog) (A := A258_0) (c := c258_0) Try.underlying23 Try.underlying5 Try.underlying9 (Kd.C_drewN HR258_0.out n_)
                go_wp2
                repeat (go_quiet (fail); try go_wp2)
                go_roundg k1
                case measure => have := HK1.out; omega
                case rel => exact ⟨(wrap64 (x5_1 + 1)), (by first | rfl | (simp; done) | (simp [*]; done)), H', ⟨by have := HK1.out; omega⟩, by repeat (first | exact Drawn0.refl _ | apply Drawn0.step)⟩
              · rw [if_neg c7] at H
                have c7b0 : ((strOfNums (rd_L1 l0 x5_1)).toList == (strOfNums (rd_L1 l1 x5_1)).toList) = false := beq_eq_false_iff_ne.mpr c7
                have c7b1 : ((strOfNums (rd_L1 l0 x5_1)).toList != (strOfNums (rd_L1 l1 x5_1)).toList) = true := bne_iff_ne.mpr c7
                obtain rfl := Option.some.inj H
                have p257 : 0 ≤ (x5_1 : Int) := of_decide_eq_true (by first | (with_reducible assumption) | assumption)
                have q257 : x5_1 < (l0.length : Int) := of_decide_eq_true (by first | (with_reducible assumption) | assumption)
                obtain ⟨ad257, A257_0, c257_0, e257, hx257_0, hl257_0, hi257_0⟩ := at_L1 HR0.out x5_1 p257 q257
                cases e257
                have HR257_0 := Aside0.mk hi257_0
                have HC257_0 := Aside0.mk hl257_0
                clear hi257_0 hl257_0
                replace p257 := eq_true p257
                replace q257 := eq_true q257
                have hcv10 := fun n_ => Kd.C_string (P := Try.prog) (A := A257_0) (c := c257_0) Try.underlying23 Try.underlying5 Try.underlying9 (Kd.C_drewN HR257_0.out n_)
                have p258 : 0 ≤ (x5_1 : Int) := of_decide_eq_true (by first | (with_reducible assumption) | assumption)
                have q258 : x5_1 < (l1.length : Int) := of_decide_eq_true (by first | (with_reducible assumption) | assumption)
                obtain ⟨ad258, A258_0, c258_0, e258, hx258_0, hl258_0, hi258_0⟩ := at_L1 HR1.out x5_1 p258 q258
                cases e258
                have HR258_0 := Aside0.mk hi258_0
                have HC258_0 := Aside0.mk hl258_0
                clear hi258_0 hl258_0
                replace p258 := eq_true p258
                replace q258 := eq_true q258
                have hcv11 := fun n_ => Kd.C_string (P := Try.prog) (A := A258_0) (c := c258_0) Try.underlying23 Try.underlying5 Try.underlying9 (Kd.C_drewN HR258_0.out n_)
                go_wp2
                repeat (go_quiet (fail); try go_wp2)
                go_ret
                exact ⟨by first | rfl | (simp; done) | (simp [*]; done), by repeat (first | exact Drawn0.refl _ | apply Drawn0.step)⟩
            · rw [if_neg c6] at H
              exact absurd H (by simp)
          · rw [if_neg c5] at H
            exact absurd H (by simp)
        · rw [if_neg c4] at H
          have c4b0 : decide (x5_1 < (l0.length : Int)) = false := decide_eq_false c4
          clear c4
          obtain rfl := Option.some.inj H
          go_wp2
          repeat (go_quiet (fail); try go_wp2)
          go_ret
          exact ⟨by first | rfl | (simp; done) | (simp [*]; done), by repeat (first | exact Drawn0.refl _ | apply Drawn0.step)⟩
  · rw [if_neg c3] at H
    have c3b0 : ((l0.length : Int) == (l1.length : Int)) = false := beq_eq_false_iff_ne.mpr c3
    have c3b1 : ((l0.length : Int) != (l1.length : Int)) = true := bne_iff_ne.mpr c3
    have c3b2 : (l0.length == l1.length) = false := by first | simpa using c3 | (simp at c3 ⊢; omega)
    obtain rfl := Option.some.inj H
    go_enter Try.func12, Try.ntmps12
    go_wp2
    repeat (go_quiet (fail); try go_wp2)
    go_ret
    exact ⟨by first | rfl | (simp; done) | (simp [*]; done), by repeat (first | exact Drawn0.refl _ | apply Drawn0.step)⟩

-- NOT PRINTED: function 4 (hourglasslaw3_FrameScans)

end Go.Proofs.Ytacbaiflblngfaa.QFrame
