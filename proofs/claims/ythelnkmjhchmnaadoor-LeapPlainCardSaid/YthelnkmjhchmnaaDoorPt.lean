/- A table's text of one line is read as it should be. Conditions: the theorem's own. -/
import Derived.Test.YthelnkmjhchmnaaDoorAw
import Derived.ArgAppend
import Derived.Lib.SlBytesConst
import Derived.Lib.SmallJoins
namespace Go.Proofs.YthelnkmjhchmnaaDoor.Tl
open Go.RowKit Go.Proofs.YthelnkmjhchmnaaDoor.QLeap Go.Proofs.YthelnkmjhchmnaaDoor.Cal Go.Proofs.YthelnkmjhchmnaaDoor.Pa Go.Proofs.YthelnkmjhchmnaaDoor.Nm Go.Proofs.YthelnkmjhchmnaaDoor.Sp
set_option linter.unusedVariables false
set_option linter.unusedSimpArgs false
/-! The table's text. -/
def txtL (n : Nat) : List UInt8 := [49, 57, 55, 48, 45, 48, 49, 45, 48, 49, 32] ++ (if 99 < n then [dg (n / 100 : Nat)] else []) ++ (if 9 < n then [dg (n / 10 % 10 : Nat)] else []) ++ [dg (n % 10 : Nat), 10]
def chk (n : Nat) : Bool := match parse ⟨(txtL n).toArray⟩ with
  | (0, [x]) => x.f0 == 0 && x.f1 == (n : Int)
  | _ => false
theorem chk_0 : (List.range' 0 50).all chk = true := by kernel_rfl
theorem chk_1 : (List.range' 50 50).all chk = true := by kernel_rfl
theorem chk_2 : (List.range' 100 50).all chk = true := by kernel_rfl
theorem chk_3 : (List.range' 150 50).all chk = true := by kernel_rfl
theorem chk_4 : (List.range' 200 50).all chk = true := by kernel_rfl
theorem chk_5 : (List.range' 250 50).all chk = true := by kernel_rfl
theorem chk_6 : (List.range' 300 50).all chk = true := by kernel_rfl
theorem chk_7 : (List.range' 350 50).all chk = true := by kernel_rfl
theorem chk_8 : (List.range' 400 50).all chk = true := by kernel_rfl
theorem chk_9 : (List.range' 450 50).all chk = true := by kernel_rfl
theorem chk_10 : (List.range' 500 50).all chk = true := by kernel_rfl
theorem chk_11 : (List.range' 550 50).all chk = true := by kernel_rfl
theorem chk_12 : (List.range' 600 50).all chk = true := by kernel_rfl
theorem chk_13 : (List.range' 650 50).all chk = true := by kernel_rfl
theorem chk_14 : (List.range' 700 50).all chk = true := by kernel_rfl
theorem chk_15 : (List.range' 750 50).all chk = true := by kernel_rfl
theorem chk_16 : (List.range' 800 50).all chk = true := by kernel_rfl
theorem chk_17 : (List.range' 850 50).all chk = true := by kernel_rfl
theorem chk_18 : (List.range' 900 50).all chk = true := by kernel_rfl
theorem chk_19 : (List.range' 950 50).all chk = true := by kernel_rfl
theorem chk_all : ∀ n, n < 1000 → chk n = true := by
  intro n hn
  have key : ∀ a, (List.range' a 50).all chk = true → a ≤ n → n < a + 50 → chk n = true := fun a h h1 h2 => List.all_eq_true.mp h n (List.mem_range'.mpr ⟨n - a, by omega, by omega⟩)
  by_cases h0 : n < 50
  · exact key 0 chk_0 (by omega) (by omega)
  by_cases h1 : n < 100
  · exact key 50 chk_1 (by omega) (by omega)
  by_cases h2 : n < 150
  · exact key 100 chk_2 (by omega) (by omega)
  by_cases h3 : n < 200
  · exact key 150 chk_3 (by omega) (by omega)
  by_cases h4 : n < 250
  · exact key 200 chk_4 (by omega) (by omega)
  by_cases h5 : n < 300
  · exact key 250 chk_5 (by omega) (by omega)
  by_cases h6 : n < 350
  · exact key 300 chk_6 (by omega) (by omega)
  by_cases h7 : n < 400
  · exact key 350 chk_7 (by omega) (by omega)
  by_cases h8 : n < 450
  · exact key 400 chk_8 (by omega) (by omega)
  by_cases h9 : n < 500
  · exact key 450 chk_9 (by omega) (by omega)
  by_cases h10 : n < 550
  · exact key 500 chk_10 (by omega) (by omega)
  by_cases h11 : n < 600
  · exact key 550 chk_11 (by omega) (by omega)
  by_cases h12 : n < 650
  · exact key 600 chk_12 (by omega) (by omega)
  by_cases h13 : n < 700
  · exact key 650 chk_13 (by omega) (by omega)
  by_cases h14 : n < 750
  · exact key 700 chk_14 (by omega) (by omega)
  by_cases h15 : n < 800
  · exact key 750 chk_15 (by omega) (by omega)
  by_cases h16 : n < 850
  · exact key 800 chk_16 (by omega) (by omega)
  by_cases h17 : n < 900
  · exact key 850 chk_17 (by omega) (by omega)
  by_cases h18 : n < 950
  · exact key 900 chk_18 (by omega) (by omega)
  by_cases h19 : n < 1000
  · exact key 950 chk_19 (by omega) (by omega)
  omega
theorem parse_txt (n : Nat) (hn : n < 1000) : parse ⟨(txtL n).toArray⟩ = (0, [⟨0, n⟩]) := by
  have h := chk_all n hn
  unfold chk at h
  split at h
  · rename_i x hx
    rw [hx]
    rw [Bool.and_eq_true, beq_iff_eq, beq_iff_eq] at h
    obtain ⟨h1, h2⟩ := h
    congr 2
    cases x
    simp_all
  · cases h
end Go.Proofs.YthelnkmjhchmnaaDoor.Tl
