/- From a row's list to the walk's fact: the library's table of powers is as its own text lays it. No condition. -/
import Derived.Test.YtdmicehmmmpjcaaDoorText
import Derived.Lib.LaidU8
namespace Go.Proofs.YtdmicehmmmpjcaaDoor
open Go.RowKit
theorem tab_of_reads {W : World} (h : Lib.VarReads Tryd.prog W "internal/strconv.uint64pow10" Rows.laid_internal_strconv_uint64pow10) : Tab W := by
  obtain ⟨g, t, cs, fuel, p, hg, hty, hvar, hd⟩ := h
  obtain rfl := Option.some.inj (gTab.symm.trans hg)
  obtain rfl := Option.some.inj (gTabType.symm.trans hty)
  have hd' : DataW.trod (fun _ => ()) Tryd.prog W 0 (fun _ => true) false fuel 61 cs.toList = some (Lib.tabData .u64 Lib.pow10Tab, p) := hd
  unfold Tab Lib.TabIs
  rw [hvar, ← Lib.cells_of_tab Tryd.underlying61 Tryd.underlying24 cells24 cells61 hd']
end Go.Proofs.YtdmicehmmmpjcaaDoor
