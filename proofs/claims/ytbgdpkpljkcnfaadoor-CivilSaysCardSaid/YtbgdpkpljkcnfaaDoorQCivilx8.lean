/- What the Go functions compute: each as a Lean function, with the proof that its call answers so; written by a program of this session over the kit's print. Conditions: each theorem's own. -/
import Derived.Test.YtbgdpkpljkcnfaaDoorQCivilx0
namespace Go.Proofs.YtbgdpkpljkcnfaaDoor.QCivil
open Go.RowKit Go.Proofs.YtbgdpkpljkcnfaaDoorW.PrintWords Go.Proofs.YtbgdpkpljkcnfaaDoorW.PrintLast Go.Proofs.YtbgdpkpljkcnfaaDoorW.PrintMore
attribute [local go_sem] max2_int min2_int max_two min_two max_three min_three max_four min_four   -- for this text's walks alone
set_option linter.unusedVariables false
set_option linter.unusedSimpArgs false

/-! ### civil_Weekday: function 21 -/
def civil_Weekday.f (a0 : Int) : Option (Int) := some (Int.tmod (wrap64 ((wrap64 ((Int.tmod a0 7) + 3)) + 7)) 7)
set_option maxHeartbeats 8000000 in
set_option maxRecDepth 100000 in
theorem civil_Weekday.calls (a0 : Int) (r : Int) (w : World) (h : civil_Weekday.f a0 = some r) :
    Calls Tryd.prog 21 #[.int .i64 a0] w fun e w' => e = .returned (.int .i64 r) ∧ Drawn0 w w' := by
  have H : (some (Int.tmod (wrap64 ((wrap64 ((Int.tmod a0 7) + 3)) + 7)) 7)) = some r := h
  clear h
  obtain rfl := Option.some.inj H
  go_enter Tryd.func21, Tryd.ntmps21
  go_wp2
  go_ret
  exact ⟨by first | rfl | (simp; done) | (simp [*]; done), by repeat (first | exact Drawn0.refl _ | apply Drawn0.step)⟩

/-! ### strconv.Itoa below 100: function 36, by the shelf's contract -/
def strconv_Itoa.f (a0 : Int) : Option ByteArray := if 0 ≤ a0 then (if a0 < 100 then some ⟨(Lib.decDigits a0.toNat).toArray⟩ else none) else none
theorem strconv_Itoa.calls (a0 : Int) (r : ByteArray) (w : World) (h : strconv_Itoa.f a0 = some r) :
    Calls Tryd.prog 36 #[.int .i64 a0] w fun e w' => e = .returned (.string r) ∧ Drawn0 w w' := by
  unfold strconv_Itoa.f at h
  by_cases h0 : 0 ≤ a0
  · rw [if_pos h0] at h
    by_cases h1 : a0 < 100
    · rw [if_pos h1] at h
      obtain rfl := Option.some.inj h
      obtain ⟨n, rfl⟩ : ∃ n : Nat, a0 = n := ⟨a0.toNat, by omega⟩
      refine (Tryd.strconv_Itoa_small n (by omega) w).mono ?_
      rintro e w' ⟨rfl, rfl⟩
      exact ⟨by rw [Int.toNat_natCast], Drawn0.refl _⟩
    · rw [if_neg h1] at h
      cases h
  · rw [if_neg h0] at h
    cases h

/-! ### civil_two: function 32 -/
def civil_two.f (a0 : Int) : Option (ByteArray) := (strconv_Itoa.f (wrap64 (Int.tdiv a0 10))).bind fun t121 => ((strconv_Itoa.f (Int.tmod a0 10)).bind fun t122 => (if t121.size + t122.size ≤ 9223372036854775807 then (some (t121 ++ t122)) else (none)))
set_option maxHeartbeats 8000000 in
set_option maxRecDepth 100000 in
theorem civil_two.calls (a0 : Int) (r : ByteArray) (w : World) (h : civil_two.f a0 = some r) :
    Calls Tryd.prog 32 #[.int .i64 a0] w fun e w' => e = .returned (.string r) ∧ Drawn0 w w' := by
  have H : ((strconv_Itoa.f (wrap64 (Int.tdiv a0 10))).bind fun t121 => ((strconv_Itoa.f (Int.tmod a0 10)).bind fun t122 => (if t121.size + t122.size ≤ 9223372036854775807 then (some (t121 ++ t122)) else (none)))) = some r := h
  clear h
  replace H := Option.bind_eq_some_iff.mp H
  obtain ⟨t121, A20, H⟩ := H
  replace H : ((strconv_Itoa.f (Int.tmod a0 10)).bind fun t122 => (if t121.size + t122.size ≤ 9223372036854775807 then (some (t121 ++ t122)) else (none))) = some r := H
  have A2 := Aside0.mk A20
  clear A20
  replace H := Option.bind_eq_some_iff.mp H
  obtain ⟨t122, A30, H⟩ := H
  replace H : (if t121.size + t122.size ≤ 9223372036854775807 then (some (t121 ++ t122)) else (none)) = some r := H
  have A3 := Aside0.mk A30
  clear A30
  by_cases c4 : t121.size + t122.size ≤ 9223372036854775807
  · rw [if_pos c4] at H
    have c4b0 := eq_true c4
    have c4b1 : decide (t121.size + t122.size ≤ 9223372036854775807) = true := decide_eq_true c4
    try have c4b2 : (9223372036854775807 < t121.size + t122.size) = False := eq_false (Nat.not_lt.2 c4)
    obtain rfl := Option.some.inj H
    go_enter Tryd.func32, Tryd.ntmps32
    go_wp2_with (first | ((with_reducible refine gate_callee (f := 36) rfl ?_); refine goesL_ (some 5) rfl rfl Tryd.func36 (by kernel_rfl) rfl #[.int .i64 (wrap64 (Int.tdiv a0 10))] rfl (by (try simp only [List.map_toArray, List.map_cons, List.map_nil]); first | done | rfl | (simp only [List.length_drop, List.length_take]; rfl)) ?_; (with_reducible refine (strconv_Itoa.calls (wrap64 (Int.tdiv a0 10)) t121 _ A2.out).mono ?_); rintro e w' ⟨rfl, ⟨nd, rfl⟩⟩; refine ⟨_, rfl, ?_⟩) | ((with_reducible refine gate_callee (f := 36) rfl ?_); refine goesL_ (some 8) rfl rfl Tryd.func36 (by kernel_rfl) rfl #[.int .i64 (Int.tmod a0 10)] rfl (by (try simp only [List.map_toArray, List.map_cons, List.map_nil]); first | done | rfl | (simp only [List.length_drop, List.length_take]; rfl)) ?_; (with_reducible refine (strconv_Itoa.calls (Int.tmod a0 10) t122 _ A3.out).mono ?_); rintro e w' ⟨rfl, ⟨nd, rfl⟩⟩; refine ⟨_, rfl, ?_⟩))
    go_ret
    exact ⟨by first | rfl | (simp; done) | (simp [*]; done), by repeat (first | exact Drawn0.refl _ | apply Drawn0.step)⟩
  · rw [if_neg c4] at H
    exact absurd H (by simp)

end Go.Proofs.YtbgdpkpljkcnfaaDoor.QCivil
