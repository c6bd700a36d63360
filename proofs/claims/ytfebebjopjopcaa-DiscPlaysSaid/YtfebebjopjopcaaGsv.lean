/- slices.Sorted(slices.Values(l)) at disc's program, as two calls. No condition other than the reach. -/
import Derived.Test.YtfebebjopjopcaaGso
import Derived.Test.YtfebebjopjopcaaGse
namespace Go.Proofs.YtfebebjopjopcaaG
open Go.RowKit Go.Maps Go.Sort Go.Shelf
set_option linter.unusedVariables false

theorem values_calls (a : Option Addr) (len cap : Nat) (w : World) :
    Calls Try.prog 23 #[.slice a len cap] w fun e w' => e = .returned (.func (.func 28) #[] #[.pointer (some ⟨w.heap.size, 0, none⟩)]) ∧ w' = w.alloc (.cells #[.slice a len cap] 33) := by
  go_enter Try.func23, Try.ntmps23
  go_wp2
  go_ret
  exact ⟨rfl, rfl⟩

theorem sorted_calls (Bs cap : Nat) (ad : Addr) (zs : List Int) (hreach : zs.length * 8 ≤ 140737488351232) (hmax : zs.length ≤ maxLen) (w : World) (hBs : Bs < w.heap.size)
    (hc : w.cell? ⟨Bs, 0, none⟩ = some (.slice (some ad) zs.length cap)) (hcs : ∀ j, j < zs.length → w.cell? (ad.add j) = some (.int .i64 (zs[j]?.getD 0))) :
    Calls Try.prog 22 #[.func (.func 28) #[] #[.pointer (some ⟨Bs, 0, none⟩)]] w fun e w' => ∃ v : Value, e = .returned v ∧
      w'.ownsRow w.heap.size 2 1 v zs.length ((zs.mergeSort fun x y => decide (x ≤ y)).map encZ) ∧ Below w.heap.size w w' := by
  have hseq := (values_gives Fence.wide (5 - 1 - 1 - 1) trivial rfl (by omega) Bs cap ad zs hreach w hBs hc hcs).to (S' := fun ss => ss = zs ∧ ss.length ≤ zs.length) (fun xs hx => ⟨hx, by rw [hx]; exact Nat.le_refl _⟩)
  refine ((callsIn_wide (n := 5)).1 (sorted_b Try.sorted22 Fence.wide 5 trivial trivial trivial trivial rfl (by omega) (Try.sorts22 _) (enters_of Try.func27 (by kernel_rfl) rfl) 28 #[.pointer (some ⟨Bs, 0, none⟩)] trivial (enters_of Try.func28 (by kernel_rfl) rfl) (· = zs) zs.length hmax (by omega) w hseq)).mono ?_
  rintro e w' ⟨v, ss, rfl, rfl, hrow, hnil, hbl⟩
  exact ⟨v, rfl, hrow, hbl⟩
end Go.Proofs.YtfebebjopjopcaaG
