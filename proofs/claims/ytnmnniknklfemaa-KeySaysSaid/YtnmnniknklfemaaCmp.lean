/- compareBytes is one linear order of lists of bytes: signs, turning about, going on, nought at equal lists alone. No condition. -/
import Derived.Lib.Bytealg
namespace Go.Proofs.Ytnmnniknklfemaa
open Go.Lib
set_option linter.unusedVariables false
set_option linter.unusedSimpArgs false

theorem cb_cases (a b : UInt8) : a < b ∨ a = b ∨ b < a := by
  rcases Nat.lt_trichotomy a.toNat b.toNat with h | h | h
  · exact .inl (UInt8.lt_iff_toNat_lt.2 h)
  · exact .inr (.inl (UInt8.toNat_inj.1 h))
  · exact .inr (.inr (UInt8.lt_iff_toNat_lt.2 h))
theorem cb_irr (a : UInt8) : ¬ a < a := fun h => Nat.lt_irrefl _ (UInt8.lt_iff_toNat_lt.1 h)
theorem cb_asym {a b : UInt8} (h : a < b) : ¬ b < a := fun h' => Nat.lt_asymm (UInt8.lt_iff_toNat_lt.1 h) (UInt8.lt_iff_toNat_lt.1 h')
theorem cb_trans {a b c : UInt8} (h : a < b) (h' : b < c) : a < c := UInt8.lt_iff_toNat_lt.2 (Nat.lt_trans (UInt8.lt_iff_toNat_lt.1 h) (UInt8.lt_iff_toNat_lt.1 h'))

theorem cmp_neg : ∀ l m : List UInt8, compareBytes l m = - compareBytes m l
  | [], [] => rfl
  | [], _ :: _ => by simp [compareBytes]
  | _ :: _, [] => by simp [compareBytes]
  | a :: l, b :: m => by
    have ih := cmp_neg l m
    unfold compareBytes
    rcases cb_cases a b with h | h | h
    · simp [h, cb_asym h]
    · subst h; simp [cb_irr, ih]
    · simp [h, cb_asym h]
theorem cmp_vals : ∀ l m : List UInt8, compareBytes l m = -1 ∨ compareBytes l m = 0 ∨ compareBytes l m = 1
  | [], [] => by simp [compareBytes]
  | [], _ :: _ => by simp [compareBytes]
  | _ :: _, [] => by simp [compareBytes]
  | a :: l, b :: m => by
    have ih := cmp_vals l m
    unfold compareBytes
    rcases cb_cases a b with h | h | h
    · simp [h]
    · subst h; simpa [cb_irr] using ih
    · simp [h, cb_asym h]
theorem cmp_zero : ∀ l m : List UInt8, compareBytes l m = 0 ↔ l = m
  | [], [] => by simp [compareBytes]
  | [], _ :: _ => by simp [compareBytes]
  | _ :: _, [] => by simp [compareBytes]
  | a :: l, b :: m => by
    have ih := cmp_zero l m
    unfold compareBytes
    rcases cb_cases a b with h | h | h
    · have hne : a ≠ b := fun e => cb_irr b (e ▸ h)
      simp [h, hne]
    · subst h; simp [cb_irr, ih]
    · have hne : a ≠ b := fun e => cb_irr b (e ▸ h)
      simp [h, cb_asym h, hne]
theorem cmp_trans : ∀ l m n : List UInt8, compareBytes l m ≤ 0 → compareBytes m n ≤ 0 → compareBytes l n ≤ 0 ∧ (compareBytes l m < 0 ∨ compareBytes m n < 0 → compareBytes l n < 0)
  | [], [], n, _, h2 => ⟨h2, by simp [compareBytes]⟩
  | [], b :: m, [], _, h2 => by simp [compareBytes] at h2
  | [], b :: m, c :: n, _, _ => by simp [compareBytes]
  | a :: l, [], _, h1, _ => by simp [compareBytes] at h1
  | a :: l, b :: m, [], _, h2 => by simp [compareBytes] at h2
  | a :: l, b :: m, c :: n, h1, h2 => by
    have ih := cmp_trans l m n
    unfold compareBytes at h1 h2 ⊢
    rcases cb_cases a b with h | h | h
    · rcases cb_cases b c with h' | h' | h'
      · simp [cb_trans h h', h, h']
      · subst h'; simp [h]
      · simp [h', cb_asym h'] at h2
    · subst h
      rcases cb_cases a c with h' | h' | h'
      · simp [h']
      · subst h'; simp only [cb_irr, if_false] at h1 h2 ⊢; exact ih h1 h2
      · simp [h', cb_asym h'] at h2
    · simp [h, cb_asym h] at h1
end Go.Proofs.Ytnmnniknklfemaa
