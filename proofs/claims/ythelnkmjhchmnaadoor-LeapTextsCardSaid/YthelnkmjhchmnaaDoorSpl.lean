/- A text that is parted at its line ends. Conditions: the theorem's own. -/
import Derived.Test.YthelnkmjhchmnaaDoorShelf
import Derived.Shelf.Strings.SplitCore
import Derived.Lib.SplitLaws
import Derived.Lib.IndexBytes
import Derived.WalkKit
import Derived.Lib.Hide
import Derived.KernelRfl
namespace Go.Proofs
open Go.Shelf
def Tryd.lays221_ren : Go.Shelf.Ren := ⟨fun | 221 => 32 | 268 => 39 | 138 => 40 | 143 => 41 | 195 => 48 | 197 => 49 | 218 => 50 | 219 => 51 | 260 => 63 | 217 => 64 | 225 => 65 | 224 => 66 | 267 => 67 | 266 => 81 | 314 => 82 | n => n, fun | 9 => 9 | 3 => 3 | 31 => 46 | 4 => 4 | 0 => 0 | 105 => 81 | 21 => 21 | 5 => 5 | 46 => 93 | 119 => 109 | 139 => 112 | 138 => 111 | 146 => 114 | 51 => 113 | n => n, fun | 1 => 0 | 3 => 1 | 4 => 2 | n => n⟩
theorem Tryd.lays221 : Go.Proofs.Lays.n221 Tryd.prog Tryd.lays221_ren := {
  mixed := by kernel_rfl
  f138 := Tryd.func40.trans (congrArg some (by kernel_rfl))
  f143 := Tryd.func41.trans (congrArg some (by kernel_rfl))
  f195 := Tryd.func48.trans (congrArg some (by kernel_rfl))
  f197 := Tryd.func49.trans (congrArg some (by kernel_rfl))
  f217 := Tryd.func64.trans (congrArg some (by kernel_rfl))
  f218 := Tryd.func50.trans (congrArg some (by kernel_rfl))
  f219 := Tryd.func51.trans (congrArg some (by kernel_rfl))
  f221 := Tryd.func32.trans (congrArg some (by kernel_rfl))
  f224 := Tryd.func66.trans (congrArg some (by kernel_rfl))
  f225 := Tryd.func65.trans (congrArg some (by kernel_rfl))
  f260 := Tryd.func63.trans (congrArg some (by kernel_rfl))
  f266 := Tryd.func81.trans (congrArg some (by kernel_rfl))
  f267 := Tryd.func67.trans (congrArg some (by kernel_rfl))
  f268 := Tryd.func39.trans (congrArg some (by kernel_rfl))
  f314 := Tryd.func82.trans (congrArg some (by kernel_rfl))
  t0 := Tryd.underlying0
  a0 := Tryd.isAgg0
  z0 := Tryd.sizeOf0
  v0 := Tryd.zeroValue0
  t3 := Tryd.underlying3
  a3 := Tryd.isAgg3
  z3 := Tryd.sizeOf3
  v3 := Tryd.zeroValue3
  t4 := Tryd.underlying4
  a4 := Tryd.isAgg4
  z4 := Tryd.sizeOf4
  v4 := Tryd.zeroValue4
  t5 := Tryd.underlying5
  a5 := Tryd.isAgg5
  z5 := Tryd.sizeOf5
  v5 := Tryd.zeroValue5
  t9 := Tryd.underlying9
  a9 := Tryd.isAgg9
  z9 := Tryd.sizeOf9
  v9 := Tryd.zeroValue9
  t21 := Tryd.underlying21
  a21 := Tryd.isAgg21
  z21 := Tryd.sizeOf21
  v21 := Tryd.zeroValue21
  t31 := Tryd.underlying46
  a31 := Tryd.isAgg46
  z31 := Tryd.sizeOf46
  v31 := Tryd.zeroValue46
  t46 := Tryd.underlying93
  a46 := Tryd.isAgg93
  z46 := Tryd.sizeOf93
  v46 := Tryd.zeroValue93
  t51 := Tryd.underlying113
  a51 := Tryd.isAgg113
  z51 := Tryd.sizeOf113
  v51 := Tryd.zeroValue113
  t105 := Tryd.underlying81
  a105 := Tryd.isAgg81
  z105 := Tryd.sizeOf81
  v105 := Tryd.zeroValue81
  t119 := Tryd.underlying109
  a119 := Tryd.isAgg109
  z119 := Tryd.sizeOf109
  t138 := Tryd.underlying111
  a138 := Tryd.isAgg111
  z138 := Tryd.sizeOf111
  v138 := Tryd.zeroValue111
  t139 := Tryd.underlying112
  a139 := Tryd.isAgg112
  z139 := Tryd.sizeOf112
  v139 := Tryd.zeroValue112
  t146 := Tryd.underlying114
  a146 := Tryd.isAgg114
  z146 := Tryd.sizeOf114
  v146 := Tryd.zeroValue114
  g1 := by kernel_rfl
  g3 := by kernel_rfl
  g4 := by kernel_rfl }
end Go.Proofs
namespace Go.Proofs.YthelnkmjhchmnaaDoor.Nm
open Go.RowKit
def nl : ByteArray := ⟨#[10]⟩
def lines (s : ByteArray) : List ByteArray := Lib.splitB nl 0 (Lib.countB s nl) s
theorem lines_len (s : ByteArray) : (lines s).length = Lib.countB s nl + 1 := Lib.splitB_all nl (by decide) 0 _ s rfl
theorem split_calls (s : ByteArray) (w : World) (hs : s.size ≤ 1000000) : Calls Tryd.prog 20 #[.string s, .string ⟨#[10]⟩] w fun e w' =>
    e = .returned (.slice (some ⟨w.heap.size, 0, none⟩) (lines s).length (lines s).length) ∧ w' = w.alloc (.cells ((lines s).map Value.string).toArray 9) := by
  have hle := Lib.countB_le nl (by decide) s.size s (Nat.le_refl _)
  have hlen := lines_len s
  have c := Any.strings_genSplit_core Tryd.lays221 (by kernel_rfl) s nl 0 (-1) (Lib.countB s nl + 1) w (by omega) (by decide) (Nat.zero_le _)
    (fun x c hx => (Tryd.strings_Index_one x 10 _).mono fun e w' ⟨he, hw⟩ => ⟨by rw [he]; exact congrArg (fun z => Ending.returned (Value.int .i64 z)) (Lib.index_one x.data.toList 10).symm, hw⟩)
    ((Tryd.strings_Count_one s 10 w).mono fun e w' ⟨he, hw⟩ => ⟨by
      rw [he]
      show _ = Ending.returned (Value.int .i64 ((Lib.count s.data.toList [10] : Nat) : Int))
      rw [Lib.count_one]
      rfl, hw⟩) (by decide) (by decide) (by rw [if_pos (by decide)]; omega)
  rw [Nat.add_sub_cancel] at c
  change Calls Tryd.prog 32 #[.string s, .string nl, .int .i64 0, .int .i64 (-1)] w (fun e w' => e = .returned (.slice (some ⟨w.heap.size, 0, none⟩) (lines s).length (Lib.countB s nl + 1)) ∧ w' = w.alloc (.cells (Lib.cellsOf (lines s) (Lib.countB s nl + 1)) 9)) at c
  have e2 : Lib.cellsOf (lines s) (Lib.countB s nl + 1) = ((lines s).map Value.string).toArray := by rw [← hlen]; exact Lib.cellsOf_full _
  rw [e2, ← hlen] at c
  have C := Lib.hid c
  clear c e2 hlen hle
  unfold nl at C
  go_enter Tryd.func20, Tryd.ntmps20
  go_wp2_with fail
  refine C.out.mono ?_
  rintro e w' ⟨rfl, rfl⟩
  go_wp2_with fail
  go_ret
  exact ⟨rfl, rfl⟩
end Go.Proofs.YthelnkmjhchmnaaDoor.Nm
