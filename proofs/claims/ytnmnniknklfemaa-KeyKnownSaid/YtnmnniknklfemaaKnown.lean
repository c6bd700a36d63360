/- The walk of KeyKnown. No condition. -/
import Derived.Test.YtnmnniknklfemaaKw
import Derived.Test.YtnmnniknklfemaaKeyD
namespace Go.Proofs.Ytnmnniknklfemaa
open Go.RowKit
open Go.Proofs.Ytnmnniknklfemaa.Sp
set_option linter.unusedVariables false
set_option linter.unusedSimpArgs false
def kX : K16 := ⟨pad [97], rfl⟩
def kY : K16 := ⟨pad [98], rfl⟩
theorem kX_v : kv kX.1 = kv [97] := rfl
theorem kY_v : kv kY.1 = kv [98] := rfl
theorem sort_xy : ksort [kY, kX, kY] = [kX, kY] := by rw [sorts_one]; decide +kernel
theorem kb_X (j : Nat) (hj : j < 16) : kb kX.1 j = kb [97] j := by
  unfold kb
  rw [show kX.1 = pad [97] from rfl, List.getD_eq_getElem?_getD, pad_get _ _ hj]; rfl
theorem kb_Y (j : Nat) (hj : j < 16) : kb kY.1 j = kb [98] j := by
  unfold kb
  rw [show kY.1 = pad [98] from rfl, List.getD_eq_getElem?_getD, pad_get _ _ hj]; rfl
theorem kv_h : (#[.int .u8 97, .int .u8 0, .int .u8 98, .int .u8 0, .int .u8 0, .int .u8 0, .int .u8 0, .int .u8 0, .int .u8 0, .int .u8 0, .int .u8 0, .int .u8 0, .int .u8 0, .int .u8 0, .int .u8 0, .int .u8 0] : Array Value) = kv [97, 0, 98] := rfl
theorem run_bs3 (a b c : List UInt8) (w : World) : (Instr.buildSlice 35 3 #[(0, .agg (kv a)), (1, .agg (kv b)), (2, .agg (kv c))]).run Try.prog w = .ok (.slice (some ⟨w.heap.size, 0, none⟩) 3 3) (w.alloc (.cells (kv a ++ kv b ++ kv c) 23)) := by
  rw [show kv a = #[.int .u8 (kb a 0), .int .u8 (kb a 1), .int .u8 (kb a 2), .int .u8 (kb a 3), .int .u8 (kb a 4), .int .u8 (kb a 5), .int .u8 (kb a 6), .int .u8 (kb a 7), .int .u8 (kb a 8), .int .u8 (kb a 9), .int .u8 (kb a 10), .int .u8 (kb a 11), .int .u8 (kb a 12), .int .u8 (kb a 13), .int .u8 (kb a 14), .int .u8 (kb a 15)] from rfl, show kv b = #[.int .u8 (kb b 0), .int .u8 (kb b 1), .int .u8 (kb b 2), .int .u8 (kb b 3), .int .u8 (kb b 4), .int .u8 (kb b 5), .int .u8 (kb b 6), .int .u8 (kb b 7), .int .u8 (kb b 8), .int .u8 (kb b 9), .int .u8 (kb b 10), .int .u8 (kb b 11), .int .u8 (kb b 12), .int .u8 (kb b 13), .int .u8 (kb b 14), .int .u8 (kb b 15)] from rfl, show kv c = #[.int .u8 (kb c 0), .int .u8 (kb c 1), .int .u8 (kb c 2), .int .u8 (kb c 3), .int .u8 (kb c 4), .int .u8 (kb c 5), .int .u8 (kb c 6), .int .u8 (kb c 7), .int .u8 (kb c 8), .int .u8 (kb c 9), .int .u8 (kb c 10), .int .u8 (kb c 11), .int .u8 (kb c 12), .int .u8 (kb c 13), .int .u8 (kb c 14), .int .u8 (kb c 15)] from rfl]
  simp [go_sem]
theorem bsL {ops : Array Oper} {rest : List Oper} {dst : Option Tmp} {ty : TypeId} {pos : String} {af : Array Edge} {a : Act} {w : World} {Q : Exit → Act → World → Prop} (x y z : Operand) (l m n : List UInt8)
    (hx : a.eval x = .agg (kv l)) (hy : a.eval y = .agg (kv m)) (hz : a.eval z = .agg (kv n))
    (hh : wpList Try.prog ops Q rest (a.put dst (.slice (some ⟨w.heap.size, 0, none⟩) 3 3)) (w.alloc (.cells (kv l ++ kv m ++ kv n) 23))) : wpList Try.prog ops Q ({ dst := dst, op := .buildSlice 35 3 #[(0, x), (1, y), (2, z)], type := ty, pos := pos, after := af, guard := none } :: rest) a w := by
  refine wpList_plain rfl fun K hK => ?_
  unfold Oper.wp execOp
  simp only [List.map_toArray, List.map_cons, List.map_nil, hx, hy, hz, Sem.run_bind, Sem.run_pure, Result.andThen_ok, run_bs3]
  exact hK _ _ hh
set_option maxRecDepth 100000 in
set_option maxHeartbeats 16000000 in
theorem known_walk (w : World) : Calls Try.prog 7 #[] w fun e w' => e = .returned (.bool true) ∧ Below w.heap.size w w' := by
  have hz := kv_nil
  have hzh := kv_h
  have o1 := of_calls (⟨#[]⟩ : ByteArray)
  rw [show ofK (⟨#[]⟩ : ByteArray).data.toList = [] by decide +kernel, show ofE (⟨#[]⟩ : ByteArray).data.toList = 1 by decide +kernel] at o1
  have O1 := Lib.hid o1
  clear o1
  have o3 := of_calls (⟨#[49, 50, 51, 52, 53, 54, 55, 56, 57, 48, 49, 50, 51, 52, 53, 54, 55]⟩ : ByteArray)
  rw [show ofK (⟨#[49, 50, 51, 52, 53, 54, 55, 56, 57, 48, 49, 50, 51, 52, 53, 54, 55]⟩ : ByteArray).data.toList = [] by decide +kernel, show ofE (⟨#[49, 50, 51, 52, 53, 54, 55, 56, 57, 48, 49, 50, 51, 52, 53, 54, 55]⟩ : ByteArray).data.toList = 1 by decide +kernel] at o3
  have O3 := Lib.hid o3
  clear o3
  have o5 := of_calls (⟨#[97, 0, 98]⟩ : ByteArray)
  rw [show ofK (⟨#[97, 0, 98]⟩ : ByteArray).data.toList = [] by decide +kernel, show ofE (⟨#[97, 0, 98]⟩ : ByteArray).data.toList = 1 by decide +kernel] at o5
  have O5 := Lib.hid o5
  clear o5
  have o7 := of_calls (⟨#[49, 50, 51, 52, 53, 54, 55, 56, 57, 48, 49, 50, 51, 52, 53, 54]⟩ : ByteArray)
  rw [show ofK (⟨#[49, 50, 51, 52, 53, 54, 55, 56, 57, 48, 49, 50, 51, 52, 53, 54]⟩ : ByteArray).data.toList = [49, 50, 51, 52, 53, 54, 55, 56, 57, 48, 49, 50, 51, 52, 53, 54] by decide +kernel, show ofE (⟨#[49, 50, 51, 52, 53, 54, 55, 56, 57, 48, 49, 50, 51, 52, 53, 54]⟩ : ByteArray).data.toList = 0 by decide +kernel] at o7
  have O7 := Lib.hid o7
  clear o7
  have o10 := of_calls (⟨#[97]⟩ : ByteArray)
  rw [show ofK (⟨#[97]⟩ : ByteArray).data.toList = [97] by decide +kernel, show ofE (⟨#[97]⟩ : ByteArray).data.toList = 0 by decide +kernel] at o10
  have O10 := Lib.hid o10
  clear o10
  have o12 := of_calls (⟨#[98]⟩ : ByteArray)
  rw [show ofK (⟨#[98]⟩ : ByteArray).data.toList = [98] by decide +kernel, show ofE (⟨#[98]⟩ : ByteArray).data.toList = 0 by decide +kernel] at o12
  have O12 := Lib.hid o12
  clear o12
  go_enter Try.func7, Try.ntmps7
  go_wp2_with fail
  refine (awake_calls w).mono ?_
  rintro e w1 ⟨rfl, hb1⟩
  have HH0 := Lib.hid ((Holds.nil w).grow hb1)
  clear hb1
  go_wp2_with fail
  refine (O1.out _).mono ?_
  rintro e w2 ⟨rfl, hb⟩
  have HA1 := Lib.hid (HH0.out.grow hb)
  clear hb
  obtain ⟨g1, hg1⟩ : ∃ g, g = w2.heap.size := ⟨_, rfl⟩
  have hal := heap_alloc_new w2 (.cells (kv []) 23)
  have HAL1 := Lib.hid hal
  have HB1 := Lib.hid (show Holds w ((g1, Obj.cells (kv []) 23) :: []) _ by rw [hg1]; exact (HA1.out.alloc (.cells (kv []) 23)).turn (row_grown _ _ (kv [])) (set_at hal []))
  have HG1 := Lib.hid hg1
  clear hal hg1
  go_wp2_with (first | ((with_reducible refine stL (.tmp 1) (.tmp 19) _ [] [] ?_ ?_ HAL1.out ?_); rfl; rfl))
  refine (O3.out _).mono ?_
  rintro e w3 ⟨rfl, hb⟩
  have HA3 := Lib.hid (HB1.out.grow hb)
  clear hb
  obtain ⟨g3, hg3⟩ : ∃ g, g = w3.heap.size := ⟨_, rfl⟩
  have hal := heap_alloc_new w3 (.cells (kv []) 23)
  have HAL3 := Lib.hid hal
  have HB3 := Lib.hid (show Holds w ((g3, Obj.cells (kv []) 23) :: (g1, Obj.cells (kv []) 23) :: []) _ by rw [hg3]; exact (HA3.out.alloc (.cells (kv []) 23)).turn (row_grown _ _ (kv [])) (set_at hal []))
  have HG3 := Lib.hid hg3
  clear hal hg3
  go_wp2_with (first | ((with_reducible refine stL (.tmp 3) (.tmp 23) _ [] [] ?_ ?_ HAL3.out ?_); rfl; rfl))
  refine (O5.out _).mono ?_
  rintro e w4 ⟨rfl, hb⟩
  have HA5 := Lib.hid (HB3.out.grow hb)
  clear hb
  obtain ⟨g5, hg5⟩ : ∃ g, g = w4.heap.size := ⟨_, rfl⟩
  have hal := heap_alloc_new w4 (.cells (kv []) 23)
  have HAL5 := Lib.hid hal
  have HB5 := Lib.hid (show Holds w ((g5, Obj.cells (kv []) 23) :: (g3, Obj.cells (kv []) 23) :: (g1, Obj.cells (kv []) 23) :: []) _ by rw [hg5]; exact (HA5.out.alloc (.cells (kv []) 23)).turn (row_grown _ _ (kv [])) (set_at hal []))
  have HG5 := Lib.hid hg5
  clear hal hg5
  go_wp2_with (first | ((with_reducible refine stL (.tmp 5) (.tmp 27) _ [] [] ?_ ?_ HAL5.out ?_); rfl; rfl))
  refine (O7.out _).mono ?_
  rintro e w5 ⟨rfl, hb⟩
  have HA7 := Lib.hid (HB5.out.grow hb)
  clear hb
  obtain ⟨g7, hg7⟩ : ∃ g, g = w5.heap.size := ⟨_, rfl⟩
  have hal := heap_alloc_new w5 (.cells (kv []) 23)
  have HAL7 := Lib.hid hal
  have HB7 := Lib.hid (show Holds w ((g7, Obj.cells (kv [49, 50, 51, 52, 53, 54, 55, 56, 57, 48, 49, 50, 51, 52, 53, 54]) 23) :: (g5, Obj.cells (kv []) 23) :: (g3, Obj.cells (kv []) 23) :: (g1, Obj.cells (kv []) 23) :: []) _ by rw [hg7]; exact (HA7.out.alloc (.cells (kv []) 23)).turn (row_grown _ _ (kv [49, 50, 51, 52, 53, 54, 55, 56, 57, 48, 49, 50, 51, 52, 53, 54])) (set_at hal [49, 50, 51, 52, 53, 54, 55, 56, 57, 48, 49, 50, 51, 52, 53, 54]))
  have HG7 := Lib.hid hg7
  clear hal hg7
  have es : ((w5.alloc (.cells (kv []) 23)).setRow w5.heap.size (kv [49, 50, 51, 52, 53, 54, 55, 56, 57, 48, 49, 50, 51, 52, 53, 54])).heap.size = w5.heap.size + 1 := by simp
  have hal := heap_alloc_new ((w5.alloc (.cells (kv []) 23)).setRow w5.heap.size (kv [49, 50, 51, 52, 53, 54, 55, 56, 57, 48, 49, 50, 51, 52, 53, 54])) (.cells (kv []) 23)
  have h1 := (HB7.out.alloc (.cells (kv []) 23)).turn (row_grown _ _ (kv [97, 0, 98])) (set_at hal [97, 0, 98])
  rw [es] at h1 hal
  have HAL9 := Lib.hid hal
  have HB9 := Lib.hid h1
  clear hal h1 es
  go_wp2_with (first | ((with_reducible refine stL (.tmp 7) (.tmp 31) _ [49, 50, 51, 52, 53, 54, 55, 56, 57, 48, 49, 50, 51, 52, 53, 54] [] ?_ ?_ HAL7.out ?_); rfl; rfl) | ((with_reducible refine stL (.tmp 9) (.tmp 33) _ [97, 0, 98] [] ?_ ?_ HAL9.out ?_); rfl; rfl))
  refine (O10.out _).mono ?_
  rintro e w6 ⟨rfl, hb⟩
  have HA10 := Lib.hid (HB9.out.grow hb)
  clear hb
  obtain ⟨g10, hg10⟩ : ∃ g, g = w6.heap.size := ⟨_, rfl⟩
  have hal := heap_alloc_new w6 (.cells (kv []) 23)
  have HAL10 := Lib.hid hal
  have HB10 := Lib.hid (show Holds w ((g10, Obj.cells (kv [97]) 23) :: ((w5.heap.size + 1), Obj.cells (kv [97, 0, 98]) 23) :: (g7, Obj.cells (kv [49, 50, 51, 52, 53, 54, 55, 56, 57, 48, 49, 50, 51, 52, 53, 54]) 23) :: (g5, Obj.cells (kv []) 23) :: (g3, Obj.cells (kv []) 23) :: (g1, Obj.cells (kv []) 23) :: []) _ by rw [hg10]; exact (HA10.out.alloc (.cells (kv []) 23)).turn (row_grown _ _ (kv [97])) (set_at hal [97]))
  have HG10 := Lib.hid hg10
  clear hal hg10
  go_wp2_with (first | ((with_reducible refine stL (.tmp 10) (.tmp 36) _ [97] [] ?_ ?_ HAL10.out ?_); rfl; rfl))
  refine (O12.out _).mono ?_
  rintro e w7 ⟨rfl, hb⟩
  have HA12 := Lib.hid (HB10.out.grow hb)
  clear hb
  obtain ⟨g12, hg12⟩ : ∃ g, g = w7.heap.size := ⟨_, rfl⟩
  have hal := heap_alloc_new w7 (.cells (kv []) 23)
  have HAL12 := Lib.hid hal
  have HB12 := Lib.hid (show Holds w ((g12, Obj.cells (kv [98]) 23) :: (g10, Obj.cells (kv [97]) 23) :: ((w5.heap.size + 1), Obj.cells (kv [97, 0, 98]) 23) :: (g7, Obj.cells (kv [49, 50, 51, 52, 53, 54, 55, 56, 57, 48, 49, 50, 51, 52, 53, 54]) 23) :: (g5, Obj.cells (kv []) 23) :: (g3, Obj.cells (kv []) 23) :: (g1, Obj.cells (kv []) 23) :: []) _ by rw [hg12]; exact (HA12.out.alloc (.cells (kv []) 23)).turn (row_grown _ _ (kv [98])) (set_at hal [98]))
  have HG12 := Lib.hid hg12
  clear hal hg12
  obtain ⟨V, hV⟩ : ∃ V, V = (w7.alloc (.cells (kv []) 23)).setRow w7.heap.size (kv [98]) := ⟨_, rfl⟩
  have HX := Lib.hid (show V.heap[g10]? = some (.cells (kv [97]) 23 (0, 0)) by rw [hV]; exact (HB12.out.perm (k := ((g10, Obj.cells (kv [97]) 23) :: (g12, Obj.cells (kv [98]) 23) :: ((w5.heap.size + 1), Obj.cells (kv [97, 0, 98]) 23) :: (g7, Obj.cells (kv [49, 50, 51, 52, 53, 54, 55, 56, 57, 48, 49, 50, 51, 52, 53, 54]) 23) :: (g5, Obj.cells (kv []) 23) :: (g3, Obj.cells (kv []) 23) :: (g1, Obj.cells (kv []) 23) :: [])) (by classical rw [List.perm_iff_count]; intro a; simp only [List.count_append, List.count_cons, List.count_nil] <;> omega)).get)
  have HY := Lib.hid (show V.heap[w7.heap.size]? = some (.cells (kv [98]) 23 (0, 0)) by rw [hV]; have h := HB12.out.get; rw [HG12.out] at h; exact h)
  have HVV := Lib.hid hV
  rw [hV] at HX HY
  rw [← HG10.out]
  go_wp2_with (first | ((with_reducible refine stL (.tmp 12) (.tmp 40) _ [98] [] ?_ ?_ HAL12.out ?_); rfl; rfl) | ((with_reducible refine ldL (.tmp 12) _ [98] ?_ ?_ HY.out ?_); rfl; rfl) | ((with_reducible refine ldL (.tmp 10) _ [97] ?_ ?_ HX.out ?_); rfl; rfl) | ((with_reducible refine bsL (.tmp 42) (.tmp 43) (.tmp 44) [98] [97] [98] ?_ ?_ ?_ ?_); rfl; rfl; rfl))
  have hk3 : KAt (((w7.alloc (.cells (kv []) 23)).setRow w7.heap.size (kv [98])).alloc (.cells (kv [98] ++ (kv [97] ++ kv [98])) 23)) (some ⟨w7.heap.size + 1, 0, none⟩) [kY, kX, kY] := fun _ => by
    have hs : ((w7.alloc (.cells (kv []) 23)).setRow w7.heap.size (kv [98])).heap.size = w7.heap.size + 1 := by simp
    have hh := heap_alloc_new ((w7.alloc (.cells (kv []) 23)).setRow w7.heap.size (kv [98])) (.cells (kv [98] ++ (kv [97] ++ kv [98])) 23)
    rw [hs] at hh
    refine ⟨w7.heap.size + 1, 0, rfl, lt_of_block hh, fun t v ht => ?_⟩
    have ef : flat [kY, kX, kY] = (kv [98] ++ (kv [97] ++ kv [98])).toList := rfl
    rw [ef, Array.getElem?_toList] at ht
    simp only [World.cell?, hh, Nat.zero_add, Option.isSome_none, Bool.false_eq_true, if_false]
    exact ht
  have HC := Lib.hid (ksort_calls _ 3 [kY, kX, kY] (by decide) _ hk3)
  have HBV := Lib.hid (HB12.out.alloc_ (.cells (kv [98] ++ (kv [97] ++ kv [98])) 23))
  clear hk3
  refine HC.out.mono ?_
  rintro e w8 ⟨v, rfl, h, hR, hH⟩
  rw [sort_xy] at hR
  obtain ⟨A, c, rfl, _, _⟩ := RowB.form hR
  have HKA := Lib.hid (KAt.of_row hR (show Holds _ (h ++ []) w8 by rw [List.append_nil]; exact hH))
  have HH8 := Lib.hid (HBV.out.grow hH.below)
  rw [HG12.out, HG7.out] at HH8
  clear hR hH
  obtain ⟨bs, os, eA, _, _⟩ := HKA.out (by decide)
  subst eA
  have LX := Lib.hid (fun (w' : World) (hb : Below w8.heap.size w8 w') => show ∀ j, j < 16 → w'.cell? ((⟨bs, os, none⟩ : Addr).add j) = some (.int .u8 (kb kX.1 j)) from by have := keyAt HKA.out 0 kX rfl w' hb; simpa using this)
  have LY := Lib.hid (fun (w' : World) (hb : Below w8.heap.size w8 w') => show ∀ j, j < 16 → w'.cell? ((⟨bs, os + 16, none⟩ : Addr).add j) = some (.int .u8 (kb kY.1 j)) from by have := keyAt HKA.out 1 kY rfl w' hb; simpa using this)
  have B7 := Lib.hid (fun w' (hb : Below w8.heap.size w8 w') => row_cells ((HH8.out.grow hb).perm (k := ((w5.heap.size, Obj.cells (kv [49, 50, 51, 52, 53, 54, 55, 56, 57, 48, 49, 50, 51, 52, 53, 54]) 23) :: (w7.heap.size, Obj.cells (kv [98]) 23) :: (g10, Obj.cells (kv [97]) 23) :: ((w5.heap.size + 1), Obj.cells (kv [97, 0, 98]) 23) :: (g5, Obj.cells (kv []) 23) :: (g3, Obj.cells (kv []) 23) :: (g1, Obj.cells (kv []) 23) :: [])) (by classical rw [List.perm_iff_count]; intro a; simp only [List.count_append, List.count_cons, List.count_nil] <;> omega)).get)
  have B9 := Lib.hid (fun w' (hb : Below w8.heap.size w8 w') => row_cells ((HH8.out.grow hb).perm (k := (((w5.heap.size + 1), Obj.cells (kv [97, 0, 98]) 23) :: (w7.heap.size, Obj.cells (kv [98]) 23) :: (g10, Obj.cells (kv [97]) 23) :: (w5.heap.size, Obj.cells (kv [49, 50, 51, 52, 53, 54, 55, 56, 57, 48, 49, 50, 51, 52, 53, 54]) 23) :: (g5, Obj.cells (kv []) 23) :: (g3, Obj.cells (kv []) 23) :: (g1, Obj.cells (kv []) 23) :: [])) (by classical rw [List.perm_iff_count]; intro a; simp only [List.count_append, List.count_cons, List.count_nil] <;> omega)).get)
  have BX := Lib.hid (fun w' (hb : Below w8.heap.size w8 w') => row_cells ((HH8.out.grow hb).perm (k := ((g10, Obj.cells (kv [97]) 23) :: (w7.heap.size, Obj.cells (kv [98]) 23) :: ((w5.heap.size + 1), Obj.cells (kv [97, 0, 98]) 23) :: (w5.heap.size, Obj.cells (kv [49, 50, 51, 52, 53, 54, 55, 56, 57, 48, 49, 50, 51, 52, 53, 54]) 23) :: (g5, Obj.cells (kv []) 23) :: (g3, Obj.cells (kv []) 23) :: (g1, Obj.cells (kv []) 23) :: [])) (by classical rw [List.perm_iff_count]; intro a; simp only [List.count_append, List.count_cons, List.count_nil] <;> omega)).get)
  have BY := Lib.hid (fun w' (hb : Below w8.heap.size w8 w') => row_cells ((HH8.out.grow hb).perm (k := ((w7.heap.size, Obj.cells (kv [98]) 23) :: (g10, Obj.cells (kv [97]) 23) :: ((w5.heap.size + 1), Obj.cells (kv [97, 0, 98]) 23) :: (w5.heap.size, Obj.cells (kv [49, 50, 51, 52, 53, 54, 55, 56, 57, 48, 49, 50, 51, 52, 53, 54]) 23) :: (g5, Obj.cells (kv []) 23) :: (g3, Obj.cells (kv []) 23) :: (g1, Obj.cells (kv []) 23) :: [])) (by classical rw [List.perm_iff_count]; intro a; simp only [List.count_append, List.count_cons, List.count_nil] <;> omega)).get)
  rw [show [kX, kY].length = 2 from rfl]
  go_wp2_with fail
  refine region_quiet_lit (C := fun w' => Below w8.heap.size w8 w') (by kernel_rfl) (by kernel_rfl) (Below.refl _ _).drew ?_
  simp only [List.append_eq, List.cons_append, List.nil_append]
  go_big_quiet_step (exact fun _ => rfl)
  go_big_quiet_step (exact fun _ => rfl)
  go_big_quiet_step (exact fun _ => rfl)
  go_big_quiet_step (exact fun _ => rfl)
  go_big_quiet_step (exact fun _ => rfl)
  go_big_quiet_step (exact fun _ => rfl)
  go_big_quiet_step (exact fun _ => rfl)
  go_big_quiet_step (exact fun _ => rfl)
  go_big_quiet_step (exact fun _ => rfl)
  go_big_quiet_step (exact fun _ => rfl)
  go_big_quiet_step (exact fun _ => rfl)
  go_big_quiet_step (exact fun _ => rfl)
  go_big_quiet_step (exact fun _ => rfl)
  go_big_quiet_step (exact fun _ => rfl)
  go_big_quiet_step (exact fun _ => rfl)
  refine BigFrame.wpQuiet_want rfl (fun K hK => ?_)
  refine quiet_ldk (.tmp 7) rfl ⟨w5.heap.size, 0, none⟩ (by simp [go_sem]) [49, 50, 51, 52, 53, 54, 55, 56, 57, 48, 49, 50, 51, 52, 53, 54] (fun w2 hw => B7.out w2 hw) (hK _ ?_)
  clear hK K
  simp only [Act.put, List.setIfInBounds_toArray, List.set_cons_zero, List.set_cons_succ]
  refine BigFrame.wpQuiet_want rfl (fun K hK => ?_)
  refine quiet_call 11 #[.agg (kv [49, 50, 51, 52, 53, 54, 55, 56, 57, 48, 49, 50, 51, 52, 53, 54])] (.string ⟨#[49, 50, 51, 52, 53, 54, 55, 56, 57, 48, 49, 50, 51, 52, 53, 54]⟩) (fun w2 => by simp [go_sem]) (fun w2 hw => by have q := textK_calls [49, 50, 51, 52, 53, 54, 55, 56, 57, 48, 49, 50, 51, 52, 53, 54] w2; rw [show txtK [49, 50, 51, 52, 53, 54, 55, 56, 57, 48, 49, 50, 51, 52, 53, 54] = [49, 50, 51, 52, 53, 54, 55, 56, 57, 48, 49, 50, 51, 52, 53, 54] by decide +kernel] at q; exact q.mono fun e w3 hh => ⟨hh.1, hw.trans (hh.2.mono hw.size)⟩) (hK _ ?_)
  clear hK K
  simp only [Act.put, List.setIfInBounds_toArray, List.set_cons_zero, List.set_cons_succ]
  refine BigFrame.wpQuiet_want rfl (fun K hK => ?_)
  refine quiet_val (.bool true) (fun w2 hw => by first | rfl | simp [go_sem] | (simp [go_sem]; decide)) (hK _ ?_)
  clear hK K
  simp only [Act.put, List.setIfInBounds_toArray, List.set_cons_zero, List.set_cons_succ]
  go_big_quiet_step (exact fun _ => rfl)
  go_big_quiet_step (exact fun _ => rfl)
  refine BigFrame.wpQuiet_want rfl (fun K hK => ?_)
  refine quiet_ldk (.tmp 9) rfl ⟨w5.heap.size + 1, 0, none⟩ (by simp [go_sem]) [97, 0, 98] (fun w2 hw => B9.out w2 hw) (hK _ ?_)
  clear hK K
  simp only [Act.put, List.setIfInBounds_toArray, List.set_cons_zero, List.set_cons_succ]
  refine BigFrame.wpQuiet_want rfl (fun K hK => ?_)
  refine quiet_call 12 #[.agg (kv [97, 0, 98])] (.bool false) (fun w2 => by simp [go_sem]) (fun w2 hw => by have q := good_calls [97, 0, 98] w2; rw [show goodB [97, 0, 98] = false by decide +kernel] at q; exact q.mono fun e w3 hh => ⟨hh.1, hw.trans (hh.2.mono hw.size)⟩) (hK _ ?_)
  clear hK K
  simp only [Act.put, List.setIfInBounds_toArray, List.set_cons_zero, List.set_cons_succ]
  go_big_quiet_step (exact fun _ => rfl)
  go_big_quiet_step (exact fun _ => rfl)
  go_big_quiet_step (exact fun _ => rfl)
  refine BigFrame.wpQuiet_want rfl (fun K hK => ?_)
  refine quiet_ldk (.tmp 9) rfl ⟨w5.heap.size + 1, 0, none⟩ (by simp [go_sem]) [97, 0, 98] (fun w2 hw => B9.out w2 hw) (hK _ ?_)
  clear hK K
  simp only [Act.put, List.setIfInBounds_toArray, List.set_cons_zero, List.set_cons_succ]
  refine BigFrame.wpQuiet_want rfl (fun K hK => ?_)
  refine quiet_call 11 #[.agg (kv [97, 0, 98])] (.string ⟨#[]⟩) (fun w2 => by simp [go_sem]) (fun w2 hw => by have q := textK_calls [97, 0, 98] w2; rw [show txtK [97, 0, 98] = [] by decide +kernel] at q; exact q.mono fun e w3 hh => ⟨hh.1, hw.trans (hh.2.mono hw.size)⟩) (hK _ ?_)
  clear hK K
  simp only [Act.put, List.setIfInBounds_toArray, List.set_cons_zero, List.set_cons_succ]
  refine BigFrame.wpQuiet_want rfl (fun K hK => ?_)
  refine quiet_val (.bool true) (fun w2 hw => by first | rfl | simp [go_sem] | (simp [go_sem]; decide)) (hK _ ?_)
  clear hK K
  simp only [Act.put, List.setIfInBounds_toArray, List.set_cons_zero, List.set_cons_succ]
  go_big_quiet_step (exact fun _ => rfl)
  go_big_quiet_step (exact fun _ => rfl)
  go_big_quiet_step (exact fun _ => rfl)
  go_big_quiet_step (exact fun _ => rfl)
  go_big_quiet_step (exact fun _ => rfl)
  go_big_quiet_step (exact fun _ => rfl)
  go_big_quiet_step (exact fun _ => rfl)
  go_big_quiet_step (exact fun _ => rfl)
  go_big_quiet_step (exact fun _ => rfl)
  refine BigFrame.wpQuiet_want rfl (fun K hK => ?_)
  refine quiet_ldk (.tmp 83) rfl ⟨bs, os, none⟩ (by simp [go_sem]) kX.1 (fun w2 hw => LX.out w2 hw) (hK _ ?_)
  clear hK K
  simp only [Act.put, List.setIfInBounds_toArray, List.set_cons_zero, List.set_cons_succ]
  refine BigFrame.wpQuiet_want rfl (fun K hK => ?_)
  refine quiet_ldk (.tmp 10) rfl ⟨g10, 0, none⟩ (by simp [go_sem]) [97] (fun w2 hw => BX.out w2 hw) (hK _ ?_)
  clear hK K
  simp only [Act.put, List.setIfInBounds_toArray, List.set_cons_zero, List.set_cons_succ]
  refine BigFrame.wpQuiet_want rfl (fun K hK => ?_)
  refine quiet_val (.bool true) (fun w2 hw => by simp [go_sem, run_eqIn, show keq kX.1 [97] = true from rfl]) (hK _ ?_)
  clear hK K
  simp only [Act.put, List.setIfInBounds_toArray, List.set_cons_zero, List.set_cons_succ]
  go_big_quiet_step (exact fun _ => rfl)
  go_big_quiet_step (exact fun _ => rfl)
  go_big_quiet_step (exact fun _ => rfl)
  go_big_quiet_step (exact fun _ => rfl)
  refine BigFrame.wpQuiet_want rfl (fun K hK => ?_)
  refine quiet_ldk (.tmp 90) rfl ⟨bs, os + 16, none⟩ (by simp [go_sem]) kY.1 (fun w2 hw => LY.out w2 hw) (hK _ ?_)
  clear hK K
  simp only [Act.put, List.setIfInBounds_toArray, List.set_cons_zero, List.set_cons_succ]
  refine BigFrame.wpQuiet_want rfl (fun K hK => ?_)
  refine quiet_ldk (.tmp 12) rfl ⟨w7.heap.size, 0, none⟩ (by simp [go_sem]) [98] (fun w2 hw => BY.out w2 hw) (hK _ ?_)
  clear hK K
  simp only [Act.put, List.setIfInBounds_toArray, List.set_cons_zero, List.set_cons_succ]
  refine BigFrame.wpQuiet_want rfl (fun K hK => ?_)
  refine quiet_val (.bool true) (fun w2 hw => by simp [go_sem, run_eqIn, show keq kY.1 [98] = true from rfl]) (hK _ ?_)
  clear hK K
  simp only [Act.put, List.setIfInBounds_toArray, List.set_cons_zero, List.set_cons_succ]
  go_big_quiet_step (exact fun _ => rfl)
  go_big_quiet_step (exact fun _ => rfl)
  refine BigFrame.wpQuiet_want rfl (fun K hK => ?_)
  refine quiet_ldk (.tmp 10) rfl ⟨g10, 0, none⟩ (by simp [go_sem]) [97] (fun w2 hw => BX.out w2 hw) (hK _ ?_)
  clear hK K
  simp only [Act.put, List.setIfInBounds_toArray, List.set_cons_zero, List.set_cons_succ]
  refine BigFrame.wpQuiet_want rfl (fun K hK => ?_)
  refine quiet_ldk (.tmp 10) rfl ⟨g10, 0, none⟩ (by simp [go_sem]) [97] (fun w2 hw => BX.out w2 hw) (hK _ ?_)
  clear hK K
  simp only [Act.put, List.setIfInBounds_toArray, List.set_cons_zero, List.set_cons_succ]
  refine BigFrame.wpQuiet_want rfl (fun K hK => ?_)
  refine quiet_ldk (.tmp 12) rfl ⟨w7.heap.size, 0, none⟩ (by simp [go_sem]) [98] (fun w2 hw => BY.out w2 hw) (hK _ ?_)
  clear hK K
  simp only [Act.put, List.setIfInBounds_toArray, List.set_cons_zero, List.set_cons_succ]
  refine BigFrame.wpQuiet_want rfl (fun K hK => ?_)
  refine quiet_call 14 #[.agg (kv [97]), .agg (kv [97]), .agg (kv [98])] (.bool true) (fun w2 => by simp [go_sem]) (fun w2 hw => by have q := within_calls [97] [97] [98] w2; rw [show withinB [97] [97] [98] = true by decide +kernel] at q; exact q.mono fun e w3 hh => ⟨hh.1, hw.trans (hh.2.mono hw.size)⟩) (hK _ ?_)
  clear hK K
  simp only [Act.put, List.setIfInBounds_toArray, List.set_cons_zero, List.set_cons_succ]
  go_big_quiet_step (exact fun _ => rfl)
  go_big_quiet_step (exact fun _ => rfl)
  refine BigFrame.wpQuiet_want rfl (fun K hK => ?_)
  refine quiet_ldk (.tmp 12) rfl ⟨w7.heap.size, 0, none⟩ (by simp [go_sem]) [98] (fun w2 hw => BY.out w2 hw) (hK _ ?_)
  clear hK K
  simp only [Act.put, List.setIfInBounds_toArray, List.set_cons_zero, List.set_cons_succ]
  refine BigFrame.wpQuiet_want rfl (fun K hK => ?_)
  refine quiet_ldk (.tmp 10) rfl ⟨g10, 0, none⟩ (by simp [go_sem]) [97] (fun w2 hw => BX.out w2 hw) (hK _ ?_)
  clear hK K
  simp only [Act.put, List.setIfInBounds_toArray, List.set_cons_zero, List.set_cons_succ]
  refine BigFrame.wpQuiet_want rfl (fun K hK => ?_)
  refine quiet_ldk (.tmp 12) rfl ⟨w7.heap.size, 0, none⟩ (by simp [go_sem]) [98] (fun w2 hw => BY.out w2 hw) (hK _ ?_)
  clear hK K
  simp only [Act.put, List.setIfInBounds_toArray, List.set_cons_zero, List.set_cons_succ]
  refine BigFrame.wpQuiet_want rfl (fun K hK => ?_)
  refine quiet_call 14 #[.agg (kv [98]), .agg (kv [97]), .agg (kv [98])] (.bool false) (fun w2 => by simp [go_sem]) (fun w2 hw => by have q := within_calls [98] [97] [98] w2; rw [show withinB [98] [97] [98] = false by decide +kernel] at q; exact q.mono fun e w3 hh => ⟨hh.1, hw.trans (hh.2.mono hw.size)⟩) (hK _ ?_)
  clear hK K
  simp only [Act.put, List.setIfInBounds_toArray, List.set_cons_zero, List.set_cons_succ]
  go_big_quiet_step (exact fun _ => rfl)
  go_big_quiet_step (exact fun _ => rfl)
  go_big_quiet_step (exact fun _ => rfl)
  refine BigFrame.wpQuiet_want rfl (fun K hK => ?_)
  refine quiet_ldk (.tmp 12) rfl ⟨w7.heap.size, 0, none⟩ (by simp [go_sem]) [98] (fun w2 hw => BY.out w2 hw) (hK _ ?_)
  clear hK K
  simp only [Act.put, List.setIfInBounds_toArray, List.set_cons_zero, List.set_cons_succ]
  refine BigFrame.wpQuiet_want rfl (fun K hK => ?_)
  refine quiet_ldk (.tmp 10) rfl ⟨g10, 0, none⟩ (by simp [go_sem]) [97] (fun w2 hw => BX.out w2 hw) (hK _ ?_)
  clear hK K
  simp only [Act.put, List.setIfInBounds_toArray, List.set_cons_zero, List.set_cons_succ]
  refine BigFrame.wpQuiet_want rfl (fun K hK => ?_)
  refine quiet_val (.agg (kv [])) (fun w2 hw => by simp [go_sem, kv_nil]) (hK _ ?_)
  clear hK K
  simp only [Act.put, List.setIfInBounds_toArray, List.set_cons_zero, List.set_cons_succ]
  refine BigFrame.wpQuiet_want rfl (fun K hK => ?_)
  refine quiet_call 14 #[.agg (kv [98]), .agg (kv [97]), .agg (kv [])] (.bool true) (fun w2 => by simp [go_sem]) (fun w2 hw => by have q := within_calls [98] [97] [] w2; rw [show withinB [98] [97] [] = true by decide +kernel] at q; exact q.mono fun e w3 hh => ⟨hh.1, hw.trans (hh.2.mono hw.size)⟩) (hK _ ?_)
  clear hK K
  simp only [Act.put, List.setIfInBounds_toArray, List.set_cons_zero, List.set_cons_succ]
  go_big_quiet_step (exact fun _ => rfl)
  go_big_quiet_step (exact fun _ => rfl)
  refine BigFrame.wpQuiet_want rfl (fun K hK => ?_)
  refine quiet_ldk (.tmp 10) rfl ⟨g10, 0, none⟩ (by simp [go_sem]) [97] (fun w2 hw => BX.out w2 hw) (hK _ ?_)
  clear hK K
  simp only [Act.put, List.setIfInBounds_toArray, List.set_cons_zero, List.set_cons_succ]
  refine BigFrame.wpQuiet_want rfl (fun K hK => ?_)
  refine quiet_ldk (.tmp 12) rfl ⟨w7.heap.size, 0, none⟩ (by simp [go_sem]) [98] (fun w2 hw => BY.out w2 hw) (hK _ ?_)
  clear hK K
  simp only [Act.put, List.setIfInBounds_toArray, List.set_cons_zero, List.set_cons_succ]
  refine BigFrame.wpQuiet_want rfl (fun K hK => ?_)
  refine quiet_val (.agg (kv [])) (fun w2 hw => by simp [go_sem, kv_nil]) (hK _ ?_)
  clear hK K
  simp only [Act.put, List.setIfInBounds_toArray, List.set_cons_zero, List.set_cons_succ]
  refine BigFrame.wpQuiet_want rfl (fun K hK => ?_)
  refine quiet_call 14 #[.agg (kv [97]), .agg (kv [98]), .agg (kv [])] (.bool false) (fun w2 => by simp [go_sem]) (fun w2 hw => by have q := within_calls [97] [98] [] w2; rw [show withinB [97] [98] [] = false by decide +kernel] at q; exact q.mono fun e w3 hh => ⟨hh.1, hw.trans (hh.2.mono hw.size)⟩) (hK _ ?_)
  clear hK K
  simp only [Act.put, List.setIfInBounds_toArray, List.set_cons_zero, List.set_cons_succ]
  go_big_quiet_step (exact fun _ => rfl)
  go_big_quiet_step (exact fun _ => rfl)
  go_big_quiet_step (exact fun _ => rfl)
  refine wpQuiet_nil ?_
  intro w4 hw4
  have HE := Lib.hid ((HH8.out.grow hw4).below)
  clear hw4
  go_wp2_with fail
  go_ret
  exact ⟨rfl, HE.out⟩
end Go.Proofs.Ytnmnniknklfemaa
