/- Dates' texts: what they are byte by byte, their order, and how they are read again. Conditions: each theorem's own. -/
import Derived.Test.YtbgdpkpljkcnfaaDoorCal
import Derived.Test.YtbgdpkpljkcnfaaDoorQCivilx0
import Derived.Test.YtbgdpkpljkcnfaaDoorQCivilx9
namespace Go.Proofs.YtbgdpkpljkcnfaaDoor.Cal
open Go.RowKit Go.Proofs.YtbgdpkpljkcnfaaDoor.QCivil Go.Proofs.YtbgdpkpljkcnfaaDoorW.PrintWords
set_option linter.unusedVariables false
set_option linter.unusedSimpArgs false

def dg (n : Int) : UInt8 := UInt8.ofNat (48 + n.toNat)
theorem tw_is (n : Int) (h0 : 0 ≤ n) (h1 : n < 100) : tw n = [dg (n / 10), dg (n % 10)] := by
  unfold tw dg
  rw [Lib.decDigits_one (by omega), Lib.decDigits_one (by omega)]; rfl
theorem dg_nat (n : Int) (h0 : 0 ≤ n) (h1 : n < 10) : (dg n).toNat = 48 + n.toNat := by
  unfold dg
  rw [UInt8.toNat_ofNat']
  omega
theorem dg_lt (a b : Int) (h0 : 0 ≤ a) (h1 : a < 10) (h2 : 0 ≤ b) (h3 : b < 10) : (dg a < dg b ↔ a < b) ∧ (dg a = dg b ↔ a = b) := by
  have x := dg_nat a h0 h1
  have y := dg_nat b h2 h3
  refine ⟨?_, ?_, fun h => by rw [h]⟩
  · rw [UInt8.lt_iff_toNat_lt, x, y]; omega
  · intro h
    have := congrArg UInt8.toNat h
    rw [x, y] at this
    omega
theorem less_dg (a b : Int) (h0 : 0 ≤ a) (h1 : a < 10) (h2 : 0 ≤ b) (h3 : b < 10) (x y : List UInt8) : Op.bytesLess (dg a :: x) (dg b :: y) = (decide (a < b) || (decide (a = b) && Op.bytesLess x y)) := by
  obtain ⟨l, e⟩ := dg_lt a b h0 h1 h2 h3
  rw [Op.bytesLess]
  congr 1
  · exact decide_eq_decide.mpr l
  · congr 1
    rw [Bool.eq_iff_iff, beq_iff_eq, decide_eq_true_iff]; exact e
theorem less_tw (a b : Int) (h0 : 0 ≤ a) (h1 : a < 100) (h2 : 0 ≤ b) (h3 : b < 100) (x y : List UInt8) : Op.bytesLess (tw a ++ x) (tw b ++ y) = (decide (a < b) || (decide (a = b) && Op.bytesLess x y)) := by
  rw [tw_is a h0 h1, tw_is b h2 h3]
  show Op.bytesLess (dg (a / 10) :: dg (a % 10) :: x) (dg (b / 10) :: dg (b % 10) :: y) = _
  rw [less_dg _ _ (by omega) (by omega) (by omega) (by omega), less_dg _ _ (by omega) (by omega) (by omega) (by omega)]
  by_cases c : Op.bytesLess x y = true
  · rw [c, Bool.eq_iff_iff]; simp; omega
  · rw [Bool.eq_false_iff.mpr c, Bool.eq_iff_iff]; simp; omega
theorem less_same (c : UInt8) (x y : List UInt8) : Op.bytesLess (c :: x) (c :: y) = Op.bytesLess x y := by
  rw [Op.bytesLess]; simp
theorem txl_pos (y m d : Int) (h : 0 ≤ y) : txl y m d = tw (y / 100) ++ (tw (y % 100) ++ (45 :: (tw m ++ (45 :: (tw d ++ []))))) := by
  unfold txl
  rw [if_neg (by omega), if_neg (by omega)]; simp
theorem less_txl (y m d y' m' d' : Int) (g : good y m d) (g' : good y' m' d') (h : 0 ≤ y) (h' : 0 ≤ y') : Op.bytesLess (txl y m d) (txl y' m' d') = decide (days y m d < days y' m' d') := by
  have hm := good_m g
  have hm' := good_m g'
  have sp := days_span g
  have sp' := days_span g'
  have one := fun h => days_one g g' h
  obtain ⟨a1, a2, a3, a4⟩ := g
  obtain ⟨b1, b2, b3, b4⟩ := g'
  have l1 := (len_bd y m).1 hm
  have l2 := (len_bd y' m').1 hm'
  rw [txl_pos _ _ _ h, txl_pos _ _ _ h', less_tw _ _ (by omega) (by omega) (by omega) (by omega), less_tw _ _ (by omega) (by omega) (by omega) (by omega), less_same, less_tw _ _ (by omega) (by omega) (by omega) (by omega), less_same, less_tw _ _ (by omega) (by omega) (by omega) (by omega)]
  rw [show Op.bytesLess [] [] = false from rfl, Bool.eq_iff_iff]
  simp only [Bool.or_eq_true, Bool.and_eq_true, decide_eq_true_iff, Bool.and_false, Bool.or_false]
  by_cases hy : y < y'
  · have := st_mono (y + 1) y' (by omega); omega
  · by_cases hy2 : y' < y
    · have := st_mono (y' + 1) y (by omega); omega
    · obtain rfl : y = y' := by omega
      have c1 := cum_succ y m hm.1
      have c2 := cum_succ y m' hm'.1
      unfold days
      by_cases h1 : m < m'
      · have := cum_mono y (m + 1) m' (by omega) (by omega); omega
      · by_cases h2 : m' < m
        · have := cum_mono y (m' + 1) m (by omega) (by omega); omega
        · obtain rfl : m = m' := by omega
          omega
theorem text_f (k : Nat) (hk : 2 ≤ k) (y m d : Int) : civil_Text.f k y m d = some (if good y m d then ⟨(txl y m d).toArray⟩ else ⟨#[]⟩) := by
  unfold civil_Text.f
  rw [good_f k hk]
  simp only [Option.bind_some]
  by_cases g : good y m d
  · have hm := good_m g
    obtain ⟨a1, a2, a3, a4⟩ := id g
    have l1 := (len_bd y m).1 hm
    rw [if_pos (decide_eq_true g), if_pos (by omega), if_pos g]
  · rw [if_neg (by simpa using g), if_neg g]
end Go.Proofs.YtbgdpkpljkcnfaaDoor.Cal
