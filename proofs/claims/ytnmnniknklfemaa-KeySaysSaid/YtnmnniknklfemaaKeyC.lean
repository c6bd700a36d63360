/- The sum of a key's bytes, and the law's own awake. No condition. -/
import Derived.Test.YtnmnniknklfemaaKeyB
namespace Go.Proofs.Ytnmnniknklfemaa
open Go.RowKit
set_option linter.unusedVariables false
set_option linter.unusedSimpArgs false

theorem run_kindex (l : List UInt8) (k : Nat) (hk : k < 16) (w : World) : (Instr.index 23 (.agg (kv l)) (.int .i64 (k : Int))).run Try.prog w = .ok (.int .u8 (kb l k)) w := by
  have hp : Try.prog.plainKey 5 = true := by kernel_rfl
  obtain ⟨i5, hi5, hz5⟩ := Option.map_eq_some_iff.1 (show (Try.prog.info? 5).map (·.size) = some 1 by kernel_rfl)
  have p1 := run_part_plain (P := Try.prog) w hp (xs := kv l) (off := k) (kv_get l k hk)
  have hk' : (k : Int) < 16 := by omega
  simp [Instr.index, asIntOf, run_underlying und23, sizeOf, typeInfo, hi5, hz5, hk', p1]
  omega

def rot5 (x : Int) : Int := bits BinOp.or IntKind.u32 (x * 32 % 4294967296) (x / 134217728)
set_option maxHeartbeats 1000000 in
theorem rot_calls (x : Int) (w : World) : Calls Try.prog 31 #[.int .u32 x, .int .i64 5] w fun e w' => e = .returned (.int .u32 (rot5 x)) ∧ w = w' := by
  have h5 : bits BinOp.and IntKind.u64 5 31 = 5 := by decide
  go_enter Try.func31, Try.ntmps31
  go_wp2
  go_ret
  exact ⟨rfl, rfl⟩
def sumTo (l : List UInt8) : Nat → Int
  | 0 => 0
  | k + 1 => bits BinOp.xor IntKind.u32 (rot5 (sumTo l k)) (kb l k)
set_option maxHeartbeats 1000000 in
theorem sum_calls (l : List UInt8) (w : World) : Calls Try.prog 22 #[.agg (kv l)] w fun e w' => e = .returned (.int .u32 (sumTo l 16)) ∧ Below w.heap.size w w' := by
  have HK := Lib.hid (heap_alloc_new w (.cells (kv l) 23))
  go_enter Try.func22, Try.ntmps22
  go_wp2_with (first | refine ld (.tmp 1) rfl rfl _ rfl l HK.out ?_)
  go_loop [3, 7] (fun s i => ∃ k : Nat, k ≤ 16 ∧ i = .int .i64 k ∧ s = .int .u32 (sumTo l k)) (fun _ i => 16 - (intOf i).toNat)
  case atStart => exact ⟨0, by omega, rfl, rfl⟩
  case round =>
    obtain ⟨k, hk, rfl, rfl⟩ := hrel
    obtain ⟨s, hs⟩ : ∃ s, sumTo l k = s := ⟨_, rfl⟩
    have HS := Lib.hid hs
    rw [hs]
    clear hs
    have hb := kb_range l k
    by_cases hlt : k < 16
    · have hx := run_kindex l k hlt
      go_wp2_with fail
      refine (rot_calls s _).mono ?_
      rintro e w1 ⟨rfl, rfl⟩
      go_wp2_with fail
      go_round
      case rel => exact ⟨k + 1, by omega, by go_num, by rw [sumTo, HS.out]⟩
      case measure => simp [intOf]; omega
    · obtain rfl : k = 16 := by omega
      go_wp2
      go_ret
      exact ⟨by rw [HS.out]; rfl, (Below.refl _ _).alloc (Nat.le_refl _) _⟩

/-! ### awake -/
set_option maxHeartbeats 4000000 in
theorem awake_calls (w : World) : Calls Try.prog 9 #[] w fun e w' => e = .returned (.bool true) ∧ Below w.heap.size w w' := by
  have hz := kv_nil
  have o1 := of_calls (⟨#[97, 98]⟩ : ByteArray)
  have o2 := of_calls (⟨#[98]⟩ : ByteArray)
  have e1 : ofK (⟨#[97, 98]⟩ : ByteArray).data.toList = [97, 98] := by decide
  have e2 : ofE (⟨#[97, 98]⟩ : ByteArray).data.toList = 0 := by decide
  have e3 : ofK (⟨#[98]⟩ : ByteArray).data.toList = [98] := by decide
  have e4 : ofE (⟨#[98]⟩ : ByteArray).data.toList = 0 := by decide
  rw [e1, e2] at o1
  rw [e3, e4] at o2
  have c1 := cmpK_calls [97, 98] [98]
  rw [show cmpK [97, 98] [98] = -1 by decide +kernel] at c1
  have c2 := textK_calls [97, 98]
  rw [show txtK [97, 98] = [97, 98] by decide +kernel] at c2
  have c3 := good_calls [97, 98]
  rw [show goodB [97, 98] = true by decide +kernel] at c3
  have c4 := good_calls []
  rw [show goodB [] = false by decide +kernel] at c4
  have c5 := sum_calls [98]
  obtain ⟨t, ht⟩ : ∃ t, sumTo [98] 16 = t := ⟨_, rfl⟩
  rw [ht] at c5
  have htn : (t != 0) = true := by rw [← ht]; decide +kernel
  have O1 := Lib.hid o1
  have O2 := Lib.hid o2
  have C1 := Lib.hid c1
  have C2 := Lib.hid c2
  have C3 := Lib.hid c3
  have C4 := Lib.hid c4
  have C5 := Lib.hid c5
  clear o1 o2 c1 c2 c3 c4 c5 e1 e2 e3 e4 ht
  go_enter Try.func9, Try.ntmps9
  go_wp2_with fail
  refine (O1.out _).mono ?_
  rintro e w1 ⟨rfl, hb1⟩
  have HB1 := Lib.hid hb1
  have hs1 : w.heap.size ≤ w1.heap.size := hb1.size
  clear hb1
  have HN := Lib.hid (heap_alloc_new w1 (.cells (kv []) 23))
  have HN2 := Lib.hid (set_at (W := w1.alloc (.cells (kv []) 23)) HN.out [97, 98])
  have BB1 := Lib.hid (show Below w.heap.size w ((w1.alloc (.cells (kv []) 23)).setRow w1.heap.size (kv [97, 98])) from below_setRow (HB1.out.alloc hs1 _) hs1 _)
  go_wp2_with (refine st (.tmp 1) (.tmp 7) rfl rfl _ [97, 98] [] rfl rfl HN.out ?_)
  refine (O2.out _).mono ?_
  rintro e w2 ⟨rfl, hb2⟩
  have L1 := Lib.hid (bcell hb2 (by simp) HN2.out)
  have hs2 : w1.heap.size < w2.heap.size := by have := hb2.size; simp at this; omega
  have BB2 := Lib.hid (BB1.out.trans (hb2.mono (by simp; omega)))
  clear hb2
  have M := Lib.hid (heap_alloc_new w2 (.cells (kv []) 23))
  have P2 := Lib.hid (set_at (W := w2.alloc (.cells (kv []) 23)) M.out [98])
  have P1 := Lib.hid (show ((w2.alloc (.cells (kv []) 23)).setRow w2.heap.size (kv [98])).heap[w1.heap.size]? = some (.cells (kv [97, 98]) 23 (0, 0)) from (setRow_other _ _ _ _ (by omega)).trans ((Below.heap_alloc _ _ _ hs2).trans L1.out))
  have BA := Lib.hid (show Below w.heap.size w ((w2.alloc (.cells (kv []) 23)).setRow w2.heap.size (kv [98])) from below_setRow (BB2.out.alloc (by omega) _) (by omega) _)
  have SA : Hid (((w2.alloc (.cells (kv []) 23)).setRow w2.heap.size (kv [98])).heap.size = w2.heap.size + 1) := Lib.hid (by simp)
  go_wp2_with (first | refine st (.tmp 3) (.tmp 11) rfl rfl _ [98] [] rfl rfl M.out ?_ | refine ldg (.tmp 1) rfl rfl _ rfl [97, 98] P1.out ?_ | refine ldg (.tmp 3) rfl rfl _ rfl [98] P2.out ?_)
  refine (C1.out _).mono ?_
  rintro e w3 ⟨rfl, hb3⟩
  have P13 := Lib.hid (bcell hb3 (by rw [SA.out]; omega) P1.out)
  have P23 := Lib.hid (bcell hb3 (by rw [SA.out]; omega) P2.out)
  have hs3 : w2.heap.size < w3.heap.size := by have := hb3.size; rw [SA.out] at this; omega
  have B3 := Lib.hid (BA.out.trans (hb3.mono (by rw [SA.out]; omega)))
  clear hb3
  go_wp2_with (first | refine ldg (.tmp 1) rfl rfl _ rfl [97, 98] P13.out ?_)
  refine (C2.out _).mono ?_
  rintro e w4 ⟨rfl, hb4⟩
  have P14 := Lib.hid (bcell hb4 (by omega) P13.out)
  have P24 := Lib.hid (bcell hb4 (by omega) P23.out)
  have hs4 : w3.heap.size ≤ w4.heap.size := hb4.size
  have B4 := Lib.hid (B3.out.trans (hb4.mono (by omega)))
  clear hb4
  go_wp2_with (first | refine ldg (.tmp 1) rfl rfl _ rfl [97, 98] P14.out ?_)
  refine (C3.out _).mono ?_
  rintro e w5 ⟨rfl, hb5⟩
  have P25 := Lib.hid (bcell hb5 (by omega) P24.out)
  have hs5 : w4.heap.size ≤ w5.heap.size := hb5.size
  have B5 := Lib.hid (B4.out.trans (hb5.mono (by omega)))
  clear hb5
  go_wp2_with fail
  refine (C4.out _).mono ?_
  rintro e w6 ⟨rfl, hb6⟩
  have P26 := Lib.hid (bcell hb6 (by omega) P25.out)
  have hs6 : w5.heap.size ≤ w6.heap.size := hb6.size
  have B6 := Lib.hid (B5.out.trans (hb6.mono (by omega)))
  clear hb6
  go_wp2_with (first | refine ldg (.tmp 3) rfl rfl _ rfl [98] P26.out ?_)
  refine (C5.out _).mono ?_
  rintro e w7 ⟨rfl, hb7⟩
  have B7 := Lib.hid (B6.out.trans (hb7.mono (by omega)))
  clear hb7
  go_wp2_with fail
  go_ret
  exact ⟨rfl, B7.out⟩
end Go.Proofs.Ytnmnniknklfemaa
