/- LeapKnown's walk. No condition. -/
import Derived.Test.YthelnkmjhchmnaaDoorAw
import Derived.Test.YthelnkmjhchmnaaDoorQLeapx17
namespace Go.Proofs.YthelnkmjhchmnaaDoor.Tl
open Go.RowKit Go.Proofs.YthelnkmjhchmnaaDoor.QLeap Go.Proofs.YthelnkmjhchmnaaDoor.Cal Go.Proofs.YthelnkmjhchmnaaDoor.Pa Go.Proofs.YthelnkmjhchmnaaDoor.Nm
set_option linter.unusedVariables false
set_option linter.unusedSimpArgs false
theorem parse_err (s : ByteArray) (n : Int) (hs : s.size ≤ 1000000) (hn : n ≠ 0) (hp : parse s = (n, [])) (w : World) : Calls Tryd.prog 10 #[.string s] w fun e w' => e = .returned (.tuple #[.pointer none, .int .i64 n]) ∧ Below w.heap.size w w' := by
  refine (parse_calls s w hs).mono fun e w' h => ?_
  rcases out_cases hs h with ⟨m, l, hp2, _, rfl, hb⟩ | ⟨l, g, hp2, _⟩
  · rw [hp] at hp2
    injection hp2 with h1 h2
    subst h1
    exact ⟨rfl, hb⟩
  · rw [hp] at hp2
    injection hp2 with h1 h2
    exact absurd h1 hn
theorem parse_yes (s : ByteArray) (l : List S52) (hs : s.size ≤ 1000000) (hp : parse s = (0, l)) (w : World) : Calls Tryd.prog 10 #[.string s] w fun e w' => ∃ g, e = .returned (.tuple #[.pointer (some ⟨g, 0, none⟩), .int .i64 0]) ∧ IsS50 w' w' g s l ∧ Tab l ∧ Below w.heap.size w w' := by
  refine (parse_calls s w hs).mono fun e w' h => ?_
  rcases out_cases hs h with ⟨m, l2, hp2, hm, _⟩ | ⟨l2, g, hp2, rfl, hI, T, hb⟩
  · rw [hp] at hp2
    injection hp2 with h1 h2
    exact absurd h1.symm hm
  · rw [hp] at hp2
    injection hp2 with h1 h2
    subst h2
    exact ⟨g, rfl, hI, T, hb⟩
theorem kp0 : parse ⟨#[]⟩ = (3, []) := by kernel_rfl
theorem kp1 : parse ⟨#[50, 48, 49, 54, 45, 48, 55, 45, 48, 49, 32, 51, 54]⟩ = (3, []) := by kernel_rfl
theorem kp2 : parse ⟨#[50, 48, 49, 54, 45, 48, 55, 45, 48, 49, 32, 51, 54, 10, 50, 48, 49, 55, 45, 48, 49, 45, 48, 49, 32, 51, 56, 10]⟩ = (3, []) := by kernel_rfl
theorem kp3 : parse ⟨#[50, 48, 49, 54, 45, 48, 55, 45, 48, 49, 32, 51, 54, 10, 50, 48, 49, 54, 45, 48, 55, 45, 48, 49, 32, 51, 55, 10]⟩ = (3, []) := by kernel_rfl
theorem kp4 : parse ⟨#[50, 48, 49, 54, 45, 48, 55, 45, 48, 49, 32, 48, 51, 54, 10]⟩ = (3, []) := by kernel_rfl
def kB : ByteArray := ⟨#[50, 48, 49, 54, 45, 48, 55, 45, 48, 49, 32, 48, 10, 50, 48, 49, 55, 45, 48, 49, 45, 48, 49, 32, 45, 49, 10]⟩
def kL : List S52 := [⟨16983, 0⟩, ⟨17167, -1⟩]
theorem kpk : parse kB = (0, kL) := by kernel_rfl
theorem kf0 : leap_Table_Length.f 120 kB kL 17166 = some (86399, 0, kB) := by kernel_rfl
theorem kf1 : leap_Table_TAI.f 120 kB kL 17166 86399 = some (0, 1, kB) := by kernel_rfl
theorem kf2 : leap_Table_TAI.f 120 kB kL 17166 86398 = some (1483228798, 0, kB) := by kernel_rfl
theorem kf3 : leap_Table_UTC.f 120 kB kL 1483228799 = some (17167, 0, 0, kB) := by kernel_rfl
theorem kf4 : leap_Table_Offset.f 120 kB kL 16982 = some (0, 4, kB) := by kernel_rfl
theorem kf5 : leap_Table_UTC.f 120 kB kL 9223372036854775807 = some (0, 0, 4, kB) := by kernel_rfl
theorem kfc : leap_Table_Clock.f 120 kB kL (-9223372036854775808) = some (⟨#[]⟩, kB) := by kernel_rfl
set_option maxRecDepth 100000 in
set_option maxHeartbeats 8000000 in
theorem known_walk (w : World) : Calls Tryd.prog 8 #[] w fun e w' => e = .returned (.bool true) ∧ Below w.heap.size w w' := by
  have HAW := Lib.hid awake_calls
  have HP0 := Lib.hid (parse_err ⟨#[]⟩ 3 (by decide) (by decide) kp0)
  have HP1 := Lib.hid (parse_err ⟨#[50, 48, 49, 54, 45, 48, 55, 45, 48, 49, 32, 51, 54]⟩ 3 (by decide) (by decide) kp1)
  have HP2 := Lib.hid (parse_err ⟨#[50, 48, 49, 54, 45, 48, 55, 45, 48, 49, 32, 51, 54, 10, 50, 48, 49, 55, 45, 48, 49, 45, 48, 49, 32, 51, 56, 10]⟩ 3 (by decide) (by decide) kp2)
  have HP3 := Lib.hid (parse_err ⟨#[50, 48, 49, 54, 45, 48, 55, 45, 48, 49, 32, 51, 54, 10, 50, 48, 49, 54, 45, 48, 55, 45, 48, 49, 32, 51, 55, 10]⟩ 3 (by decide) (by decide) kp3)
  have HP4 := Lib.hid (parse_err ⟨#[50, 48, 49, 54, 45, 48, 55, 45, 48, 49, 32, 48, 51, 54, 10]⟩ 3 (by decide) (by decide) kp4)
  have HPK := Lib.hid (parse_yes ⟨#[50, 48, 49, 54, 45, 48, 55, 45, 48, 49, 32, 48, 10, 50, 48, 49, 55, 45, 48, 49, 45, 48, 49, 32, 45, 49, 10]⟩ kL (by decide) kpk)
  have HF0 := Lib.hid (fun (W1 : World) (g : Nat) (hI : IsS50 W1 W1 g kB kL) (w : World) (hb : Below W1.heap.size W1 w) => (leap_Table_Length.calls 120 g kB kL (17166) _ _ kB W1 w (hI.below hb) hb kf0).mono fun e w' h => (⟨h.1, h.2.2.1⟩ : e = .returned (.tuple #[.int .i64 (86399), .int .i64 (0)]) ∧ Below W1.heap.size W1 w'))
  have HF1 := Lib.hid (fun (W1 : World) (g : Nat) (hI : IsS50 W1 W1 g kB kL) (w : World) (hb : Below W1.heap.size W1 w) => (leap_Table_TAI.calls 120 g kB kL (17166) (86399) _ _ kB W1 w (hI.below hb) hb kf1).mono fun e w' h => (⟨h.1, h.2.2.1⟩ : e = .returned (.tuple #[.int .i64 (0), .int .i64 (1)]) ∧ Below W1.heap.size W1 w'))
  have HF2 := Lib.hid (fun (W1 : World) (g : Nat) (hI : IsS50 W1 W1 g kB kL) (w : World) (hb : Below W1.heap.size W1 w) => (leap_Table_TAI.calls 120 g kB kL (17166) (86398) _ _ kB W1 w (hI.below hb) hb kf2).mono fun e w' h => (⟨h.1, h.2.2.1⟩ : e = .returned (.tuple #[.int .i64 (1483228798), .int .i64 (0)]) ∧ Below W1.heap.size W1 w'))
  have HF3 := Lib.hid (fun (W1 : World) (g : Nat) (hI : IsS50 W1 W1 g kB kL) (w : World) (hb : Below W1.heap.size W1 w) => (leap_Table_UTC.calls 120 g kB kL (1483228799) _ _ _ kB W1 w (hI.below hb) hb kf3).mono fun e w' h => (⟨h.1, h.2.2.1⟩ : e = .returned (.tuple #[.int .i64 (17167), .int .i64 (0), .int .i64 (0)]) ∧ Below W1.heap.size W1 w'))
  have HF4 := Lib.hid (fun (W1 : World) (g : Nat) (hI : IsS50 W1 W1 g kB kL) (w : World) (hb : Below W1.heap.size W1 w) => (leap_Table_Offset.calls 120 g kB kL (16982) _ _ kB W1 w (hI.below hb) hb kf4).mono fun e w' h => (⟨h.1, h.2.2.1⟩ : e = .returned (.tuple #[.int .i64 (0), .int .i64 (4)]) ∧ Below W1.heap.size W1 w'))
  have HF5 := Lib.hid (fun (W1 : World) (g : Nat) (hI : IsS50 W1 W1 g kB kL) (w : World) (hb : Below W1.heap.size W1 w) => (leap_Table_UTC.calls 120 g kB kL (9223372036854775807) _ _ _ kB W1 w (hI.below hb) hb kf5).mono fun e w' h => (⟨h.1, h.2.2.1⟩ : e = .returned (.tuple #[.int .i64 (0), .int .i64 (0), .int .i64 (4)]) ∧ Below W1.heap.size W1 w'))
  have HFC := Lib.hid (fun (W1 : World) (g : Nat) (hI : IsS50 W1 W1 g kB kL) (w : World) (hb : Below W1.heap.size W1 w) => (leap_Table_Clock.calls 120 g kB kL (-9223372036854775808) _ kB W1 w (hI.below hb) hb kfc).mono fun e w' h => (⟨h.1, h.2.2.1⟩ : e = .returned (.string ⟨#[]⟩) ∧ Below W1.heap.size W1 w'))
  go_enter Tryd.func8, Tryd.ntmps8
  go_wp2_with fail
  refine (HAW.out _).mono ?_
  rintro e w0 ⟨rfl, hb⟩
  have H0 := Lib.hid hb
  clear hb
  go_wp2_with fail
  refine (HP0.out _).mono ?_
  rintro e w1 ⟨rfl, hb⟩
  have H1 := Lib.hid (H0.out.trans (hb.mono H0.out.size))
  clear hb
  go_wp2_with fail
  refine (HP1.out _).mono ?_
  rintro e w2 ⟨rfl, hb⟩
  have H2 := Lib.hid (H1.out.trans (hb.mono H1.out.size))
  clear hb
  go_wp2_with fail
  refine (HP2.out _).mono ?_
  rintro e w3 ⟨rfl, hb⟩
  have H3 := Lib.hid (H2.out.trans (hb.mono H2.out.size))
  clear hb
  go_wp2_with fail
  refine (HP3.out _).mono ?_
  rintro e w4 ⟨rfl, hb⟩
  have H4 := Lib.hid (H3.out.trans (hb.mono H3.out.size))
  clear hb
  go_wp2_with fail
  refine (HP4.out _).mono ?_
  rintro e w5 ⟨rfl, hb⟩
  have H5 := Lib.hid (H4.out.trans (hb.mono H4.out.size))
  clear hb
  go_wp2_with fail
  refine (HPK.out _).mono ?_
  rintro e w6 ⟨g, rfl, hI, T, hb⟩
  have H6 := Lib.hid (H5.out.trans (hb.mono H5.out.size))
  have HI := Lib.hid hI
  have B0 := Lib.hid (Below.refl w6.heap.size w6)
  clear hb hI T
  go_wp2_with fail
  refine (HF0.out w6 g HI.out _ B0.out).mono ?_
  rintro e v0 ⟨rfl, hb⟩
  have B1 := Lib.hid hb
  clear hb
  go_wp2_with fail
  refine (HF1.out w6 g HI.out _ B1.out).mono ?_
  rintro e v1 ⟨rfl, hb⟩
  have B2 := Lib.hid hb
  clear hb
  go_wp2_with fail
  refine (HF2.out w6 g HI.out _ B2.out).mono ?_
  rintro e v2 ⟨rfl, hb⟩
  have B3 := Lib.hid hb
  clear hb
  go_wp2_with fail
  refine (HF3.out w6 g HI.out _ B3.out).mono ?_
  rintro e v3 ⟨rfl, hb⟩
  have B4 := Lib.hid hb
  clear hb
  go_wp2_with fail
  refine (HF4.out w6 g HI.out _ B4.out).mono ?_
  rintro e v4 ⟨rfl, hb⟩
  have B5 := Lib.hid hb
  clear hb
  go_wp2_with fail
  refine (HF5.out w6 g HI.out _ B5.out).mono ?_
  rintro e v5 ⟨rfl, hb⟩
  have B6 := Lib.hid hb
  clear hb
  go_wp2_with fail
  refine (HFC.out w6 g HI.out _ B6.out).mono ?_
  rintro e v6 ⟨rfl, hb⟩
  have B7 := Lib.hid hb
  clear hb
  go_wp2_with fail
  go_ret
  exact ⟨rfl, H6.out.trans (B7.out.mono H6.out.size)⟩
end Go.Proofs.YthelnkmjhchmnaaDoor.Tl
