/-
  DERIVED: THE SHELF's CONTRACTS AT THIS DUMP, IN PLAIN WORDS (tools/lay-plain.mjs out of 'YtocpelkgiebkjaaItr.lean', which tools/lay-shelf.mjs wrote): THE SAME DECLARATIONS UNDER THE SAME NAMES: 'import', 'namespace', 'open', 'def', 'theorem' AND NOTHING ELSE: no command of the shelf's: FOR A HAND-IN. Each laying: the table of numbers ('.._ren') and one theorem, a field a fact of the dump's own or the kernel's comparison; each contract: ONE APPLICATION.
-/
import Derived.Shelf.SlIter.Nil
import Derived.Shelf.SortM.Plain
import Derived.Shelf.SortM.SortNone
import Derived.Ground.GgzProg
import Derived.Ground.SlgmProg
import Derived.Shelf.SlGeneric
import Derived.Test.YtocpelkgiebkjaaProg
namespace Go.Proofs
open Go.Shelf
def Try.keys35_ren : Go.Shelf.Ren := ⟨fun | 7 => 35 | 10 => 47 | n => n, fun | 23 => 53 | 26 => 9 | 3 => 57 | 28 => 65 | 0 => 0 | 27 => 64 | 33 => 70 | 4 => 4 | n => n, fun | n => n⟩
theorem Try.keys35 : Go.Proofs.SlLaysZ.n7 Try.prog Try.keys35_ren := {
  mixed := by kernel_rfl
  f7 := ⟨Try.f35.name, by decide, Try.func35.trans (congrArg some (by kernel_rfl))⟩
  f10 := ⟨Try.f47.name, by decide, Try.func47.trans (congrArg some (by kernel_rfl))⟩
  t0 := Try.underlying0
  a0 := Try.isAgg0
  z0 := Try.sizeOf0
  v0 := Try.zeroValue0
  t4 := Try.underlying4
  a4 := Try.isAgg4
  z4 := Try.sizeOf4
  v4 := Try.zeroValue4
  t23 := Try.underlying53
  a23 := Try.isAgg53
  z23 := Try.sizeOf53
  v23 := Try.zeroValue53
  t26 := Try.underlying9
  a26 := Try.isAgg9
  z26 := Try.sizeOf9
  v26 := Try.zeroValue9
  t27 := Try.underlying64
  a27 := Try.isAgg64
  z27 := Try.sizeOf64
  v27 := Try.zeroValue64
  t28 := Try.underlying65
  a28 := Try.isAgg65
  z28 := Try.sizeOf65
  v28 := Try.zeroValue65
  t33 := Try.underlying70
  a33 := Try.isAgg70
  z33 := Try.sizeOf70
  v33 := Try.zeroValue70 }
def Try.sorted34_ren : Go.Shelf.Ren := ⟨fun | 6 => 34 | 8 => 45 | 9 => 46 | 11 => 48 | 13 => 50 | 12 => 49 | 23 => 60 | 24 => 61 | 14 => 51 | 15 => 52 | 16 => 53 | 17 => 54 | 18 => 55 | 19 => 56 | 20 => 57 | 21 => 58 | 22 => 59 | 25 => 62 | 26 => 63 | 27 => 64 | 28 => 65 | 29 => 66 | 30 => 67 | 31 => 68 | n => n, fun | 26 => 9 | 28 => 65 | 24 => 30 | 0 => 0 | 3 => 3 | 37 => 79 | 48 => 90 | 50 => 92 | 4 => 4 | 40 => 82 | 39 => 81 | 45 => 87 | 5 => 5 | 9 => 9 | 51 => 93 | 55 => 97 | 57 => 99 | 58 => 100 | 33 => 70 | n => n, fun | n => n⟩
theorem Try.sorted34 : Go.Proofs.SlLaysZ.n6 Try.prog Try.sorted34_ren := {
  mixed := by kernel_rfl
  f6 := ⟨Try.f34.name, by decide, Try.func34.trans (congrArg some (by kernel_rfl))⟩
  f8 := ⟨Try.f45.name, by decide, Try.func45.trans (congrArg some (by kernel_rfl))⟩
  f11 := ⟨Try.f48.name, by decide, Try.func48.trans (congrArg some (by kernel_rfl))⟩
  t0 := Try.underlying0
  a0 := Try.isAgg0
  z0 := Try.sizeOf0
  v0 := Try.zeroValue0
  t24 := Try.underlying30
  a24 := Try.isAgg30
  z24 := Try.sizeOf30
  v24 := Try.zeroValue30
  t26 := Try.underlying9
  a26 := Try.isAgg9
  z26 := Try.sizeOf9
  v26 := Try.zeroValue9
  t28 := Try.underlying65
  a28 := Try.isAgg65
  z28 := Try.sizeOf65
  v28 := Try.zeroValue65
  i26 := by kernel_rfl }
def Try.sort46_ren : Go.Shelf.Ren := ⟨fun | 6 => 46 | 8 => 50 | 9 => 49 | 19 => 60 | 20 => 61 | 21 => 51 | 22 => 52 | 23 => 53 | 24 => 54 | 25 => 55 | 26 => 56 | 27 => 57 | 28 => 58 | 29 => 59 | 36 => 62 | 31 => 63 | 32 => 64 | 37 => 65 | 38 => 66 | 39 => 67 | 41 => 68 | n => n, fun | 27 => 30 | 29 => 9 | 3 => 3 | 32 => 79 | 26 => 30 | 0 => 0 | 44 => 90 | 46 => 92 | 4 => 4 | 36 => 82 | 35 => 81 | 41 => 87 | 5 => 5 | 9 => 9 | 53 => 93 | 57 => 97 | 63 => 99 | 64 => 100 | n => n, fun | n => n⟩
theorem Try.sort46 : Go.Proofs.SlLaysM.n6 Try.prog Try.sort46_ren := {
  mixed := by kernel_rfl
  f6 := ⟨Try.f46.name, by decide, Try.func46.trans (congrArg some (by kernel_rfl))⟩
  f8 := Try.func50.trans (congrArg some (by kernel_rfl))
  f9 := ⟨Try.f49.name, by decide, Try.func49.trans (congrArg some (by kernel_rfl))⟩
  f19 := Try.func60.trans (congrArg some (by kernel_rfl))
  f20 := Try.func61.trans (congrArg some (by kernel_rfl))
  f21 := ⟨Try.f51.name, by decide, Try.func51.trans (congrArg some (by kernel_rfl))⟩
  f22 := ⟨Try.f52.name, by decide, Try.func52.trans (congrArg some (by kernel_rfl))⟩
  f23 := ⟨Try.f53.name, by decide, Try.func53.trans (congrArg some (by kernel_rfl))⟩
  f24 := ⟨Try.f54.name, by decide, Try.func54.trans (congrArg some (by kernel_rfl))⟩
  f25 := ⟨Try.f55.name, by decide, Try.func55.trans (congrArg some (by kernel_rfl))⟩
  f26 := ⟨Try.f56.name, by decide, Try.func56.trans (congrArg some (by kernel_rfl))⟩
  f27 := ⟨Try.f57.name, by decide, Try.func57.trans (congrArg some (by kernel_rfl))⟩
  f28 := ⟨Try.f58.name, by decide, Try.func58.trans (congrArg some (by kernel_rfl))⟩
  f29 := ⟨Try.f59.name, by decide, Try.func59.trans (congrArg some (by kernel_rfl))⟩
  f31 := Try.func63.trans (congrArg some (by kernel_rfl))
  f32 := Try.func64.trans (congrArg some (by kernel_rfl))
  f36 := ⟨Try.f62.name, by decide, Try.func62.trans (congrArg some (by kernel_rfl))⟩
  f37 := ⟨Try.f65.name, by decide, Try.func65.trans (congrArg some (by kernel_rfl))⟩
  f38 := ⟨Try.f66.name, by decide, Try.func66.trans (congrArg some (by kernel_rfl))⟩
  f39 := ⟨Try.f67.name, by decide, Try.func67.trans (congrArg some (by kernel_rfl))⟩
  f41 := ⟨Try.f68.name, by decide, Try.func68.trans (congrArg some (by kernel_rfl))⟩
  t0 := Try.underlying0
  a0 := Try.isAgg0
  z0 := Try.sizeOf0
  v0 := Try.zeroValue0
  t3 := Try.underlying3
  a3 := Try.isAgg3
  z3 := Try.sizeOf3
  v3 := Try.zeroValue3
  t4 := Try.underlying4
  a4 := Try.isAgg4
  z4 := Try.sizeOf4
  v4 := Try.zeroValue4
  t5 := Try.underlying5
  a5 := Try.isAgg5
  z5 := Try.sizeOf5
  v5 := Try.zeroValue5
  t9 := Try.underlying9
  a9 := Try.isAgg9
  z9 := Try.sizeOf9
  v9 := Try.zeroValue9
  t26 := Try.underlying30
  a26 := Try.isAgg30
  z26 := Try.sizeOf30
  v26 := Try.zeroValue30
  t27 := Try.underlying30
  a27 := Try.isAgg30
  z27 := Try.sizeOf30
  v27 := Try.zeroValue30
  t29 := Try.underlying9
  a29 := Try.isAgg9
  z29 := Try.sizeOf9
  v29 := Try.zeroValue9
  t32 := Try.underlying79
  a32 := Try.isAgg79
  z32 := Try.sizeOf79
  v32 := Try.zeroValue79
  t35 := Try.underlying81
  a35 := Try.isAgg81
  z35 := Try.sizeOf81
  v35 := Try.zeroValue81
  t36 := Try.underlying82
  a36 := Try.isAgg82
  z36 := Try.sizeOf82
  v36 := Try.zeroValue82
  t41 := Try.underlying87
  a41 := Try.isAgg87
  z41 := Try.sizeOf87
  v41 := Try.zeroValue87
  t44 := Try.underlying90
  a44 := Try.isAgg90
  z44 := Try.sizeOf90
  v44 := Try.zeroValue90
  t46 := Try.underlying92
  a46 := Try.isAgg92
  z46 := Try.sizeOf92
  v46 := Try.zeroValue92
  t53 := Try.underlying93
  a53 := Try.isAgg93
  z53 := Try.sizeOf93
  v53 := Try.zeroValue93
  t57 := Try.underlying97
  a57 := Try.isAgg97
  z57 := Try.sizeOf97
  v57 := Try.zeroValue97
  t63 := Try.underlying99
  a63 := Try.isAgg99
  z63 := Try.sizeOf99
  v63 := Try.zeroValue99
  t64 := Try.underlying100
  a64 := Try.isAgg100
  z64 := Try.sizeOf100
  v64 := Try.zeroValue100 }
end Go.Proofs
