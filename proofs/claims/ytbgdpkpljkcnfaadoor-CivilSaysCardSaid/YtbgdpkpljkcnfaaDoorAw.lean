/- What the document tells of one day is so; a day's place in the week. Conditions: each theorem's own. -/
import Derived.Test.YtbgdpkpljkcnfaaDoorCal
import Derived.Test.YtbgdpkpljkcnfaaDoorQCivilx0
import Derived.Test.YtbgdpkpljkcnfaaDoorQCivilx8
import Derived.Test.YtbgdpkpljkcnfaaDoorQCivilx10
namespace Go.Proofs.YtbgdpkpljkcnfaaDoor.Cal
open Go.RowKit Go.Proofs.YtbgdpkpljkcnfaaDoor.QCivil Go.Proofs.YtbgdpkpljkcnfaaDoorW.PrintWords
set_option linter.unusedVariables false
set_option linter.unusedSimpArgs false

theorem awake_40 : hourglasslaw4_awake.f 40 = some true := by kernel_rfl
theorem awake_k (k : Nat) (hk : 40 ≤ k) : hourglasslaw4_awake.f k = some true := at_rounds hourglasslaw4_awake.mono hk awake_40

theorem wd_f (n : Int) : civil_Weekday.f n = some ((n + 3) % 7) := by
  have a := tm n 7
  unfold civil_Weekday.f
  congr 1
  by_cases h : 0 ≤ n
  · rw [a.1 h, w64 (n % 7 + 3) (by omega) (by omega), w64 _ (by omega) (by omega), (tm _ 7).1 (by omega)]; omega
  · rw [a.2 (by omega), w64 (-(-n % 7) + 3) (by omega) (by omega), w64 _ (by omega) (by omega), (tm _ 7).1 (by omega)]; omega

end Go.Proofs.YtbgdpkpljkcnfaaDoor.Cal
