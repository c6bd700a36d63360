/- The document's own scan, as a Lean function (the print of its text, its proof left out). No condition. -/
import Derived.Test.YtacbaiflblngfaaQFramex0
import Derived.Test.YtacbaiflblngfaaQFramex7
import Derived.Test.YtacbaiflblngfaaQFramex8
namespace Go.Proofs.Ytacbaiflblngfaa.QFrame
open Go.RowKit Go.Proofs.YtacbaiflblngfaaW.PrintWords Go.Proofs.YtacbaiflblngfaaW.PrintLast Go.Proofs.YtacbaiflblngfaaW.PrintMore
attribute [local go_sem] max2_int min2_int max_two min_two max_three min_three max_four min_four u32_signed u32_max
set_option linter.unusedVariables false
set_option linter.unusedSimpArgs false

/-! ### hourglassref1_Scan: function 11 -/
mutual
def hourglassref1_Scan.l0 : Nat → List Int → List (List Int) → Int → Option ((List (List Int)) × Int × Bool)
  | 0, _, _, _ => none
  | k + 1, x0, x5, x6 => if x6 < (x0.length : Int) then (if 0 ≤ x6 then (if x6 ≤ (x0.length : Int) then (if ((x0.drop (x6 : Int).toNat).length : Int) < 12 then (some (x5, x6, false)) else ((hourglassref1_at32.f (x0.drop (x6 : Int).toNat)).bind fun t240 => (if 4 ≤ ((x0.drop (x6 : Int).toNat).length : Int) then ((hourglassref1_at32.f ((x0.drop (x6 : Int).toNat).drop 4)).bind fun t242 => (if t242 = (Go.bits .xor .u32 4294967295 t240) then (if t240 > 8000 then (hourglassref1_Scan.j1 k x0 x5 x6 (x0.drop (x6 : Int).toNat) t240 true) else (hourglassref1_Scan.j1 k x0 x5 x6 (x0.drop (x6 : Int).toNat) t240 (decide ((wrap64 (((x0.drop (x6 : Int).toNat).length : Int) - 12)) < (wrap64 (t240)))))) else (hourglassref1_Scan.j1 k x0 x5 x6 (x0.drop (x6 : Int).toNat) t240 true))) else (none)))) else (none)) else (none)) else (some (x5, x6, true))
def hourglassref1_Scan.j1 : Nat → List Int → List (List Int) → Int → List Int → Int → Bool → Option ((List (List Int)) × Int × Bool)
  | 0, _, _, _, _, _, _ => none
  | k + 1, x0, x5, x6, x7, x8, x41 => if x41 = true then (some (x5, x6, false)) else ((some (([] : List Int) : List Int)).bind fun y243 => (if 12 ≤ (wrap64 (12 + (wrap64 (x8)))) then (if (wrap64 (12 + (wrap64 (x8)))) ≤ (x7.length : Int) then (if y243.length + ((x7.take ((wrap64 (12 + (wrap64 (x8)))) : Int).toNat).drop 12).length < 140737488355328 then ((some (y243 ++ ((x7.take ((wrap64 (12 + (wrap64 (x8)))) : Int).toNat).drop 12) : List Int)).bind fun y247 => ((hourglassref1_Frame.f k y247).bind fun t250 => (if 0 ≤ (wrap64 (12 + (wrap64 (x8)))) then (if (strOfNums t250).toList = (strOfNums (x7.take ((wrap64 (12 + (wrap64 (x8)))) : Int).toNat)).toList then (if x5.length < 5864062014805 then (hourglassref1_Scan.l0 k x0 (x5 ++ [y247]) (wrap64 ((wrap64 (x6 + 12)) + (wrap64 (x8))))) else (none)) else (some (x5, x6, false))) else (none)))) else (none)) else (none)) else (none)))
end
def hourglassref1_Scan.f (k : Nat) (l0 : List Int) : Option ((List (List Int)) × Int × Bool) := hourglassref1_Scan.l0 k l0 ([] : List (List Int)) 0
end Go.Proofs.Ytacbaiflblngfaa.QFrame
