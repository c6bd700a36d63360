/-
  hourglasslaw10.KeyOrder returns true for every input and leaves its arguments as they were: keys are in the order of their texts. No condition.
-/
import Derived.Test.YtnmnniknklfemaaRows
import Derived.Test.YtnmnniknklfemaaKeyD
import Derived.Test.YtnmnniknklfemaaCmp
import Derived.WalkKit
import Derived.ProofKit
import Derived.OpenShut
import Derived.ShutString
import Derived.ChangeOld
import Derived.Below
namespace Go.Proofs.Ytnmnniknklfemaa.keyOrder
open Go.ChangeShapes Go.WideShapes Go.ChangeAt Go.RowKit
open Go.ChangeMaps (open_string shut_string)
set_option linter.unusedVariables false
set_option linter.unusedSimpArgs false

theorem own : ownKnob Try.prog.godebug = none := by kernel_rfl
theorem laidOut : laidOutB Try.prog = true := by kernel_rfl

/-! ### The walk -/
set_option maxHeartbeats 4000000 in
theorem way_e (s t : ByteArray) (a b : List UInt8) (w : World) (h1 : ¬ (30 : Int) < (s.size : Int)) (h2 : ¬ (30 : Int) < (t.size : Int)) (HA : Hid (ofK s.data.toList = a)) (HB : Hid (ofK t.data.toList = b)) (f1 : Int) (HE : Hid (ofE s.data.toList = 1)) (HF : Hid (ofE t.data.toList = f1)) :
    Calls Try.prog 4 #[.string s, .string t] w fun e w' => e = .returned (.bool true) ∧ Below w.heap.size w w' := by
    have O1 := Lib.hid (of_calls s)
    have O2 := Lib.hid (of_calls t)
    have hz := kv_nil
    go_enter Try.func4, Try.ntmps4
    go_wp2_with fail
    refine (awake_calls _).mono ?_
    rintro e w0 ⟨rfl, hb0⟩
    have B0 := Lib.hid hb0
    have hs0 : w.heap.size ≤ w0.heap.size := hb0.size
    clear hb0
    go_wp2_with fail
    refine (O1.out _).mono ?_
    rw [HA.out, HE.out]
    rintro e w1 ⟨rfl, hb1⟩
    have hs1 : w.heap.size ≤ w1.heap.size := by have := hb1.size; omega
    have B1 := Lib.hid (B0.out.trans (hb1.mono (by omega)))
    clear hb1
    have M1 := Lib.hid (heap_alloc_new w1 (.cells (kv []) 23))
    have N1 := Lib.hid (set_at (W := w1.alloc (.cells (kv []) 23)) M1.out a)
    have BB1 := Lib.hid (show Below w.heap.size w ((w1.alloc (.cells (kv []) 23)).setRow w1.heap.size (kv a)) from below_setRow (B1.out.alloc hs1 _) hs1 _)
    go_wp2_with (((with_reducible refine stL (.tmp 5) (.tmp 22) _ a [] ?_ ?_ M1.out ?_); rfl; rfl))
    refine (O2.out _).mono ?_
    rw [HB.out, HF.out]
    rintro e w2 ⟨rfl, hb2⟩
    have L1 := Lib.hid (bcell hb2 (by simp) N1.out)
    have hs2 : w1.heap.size < w2.heap.size := by have := hb2.size; simp at this; omega
    have BB2 := Lib.hid (BB1.out.trans (hb2.mono (by simp; omega)))
    clear hb2
    have M2 := Lib.hid (heap_alloc_new w2 (.cells (kv []) 23))
    have P2 := Lib.hid (set_at (W := w2.alloc (.cells (kv []) 23)) M2.out b)
    have P1 := Lib.hid (show ((w2.alloc (.cells (kv []) 23)).setRow w2.heap.size (kv b)).heap[w1.heap.size]? = some (.cells (kv a) 23 (0, 0)) from (setRow_other _ _ _ _ (by omega)).trans ((Below.heap_alloc _ _ _ hs2).trans L1.out))
    have BA := Lib.hid (show Below w.heap.size w ((w2.alloc (.cells (kv []) 23)).setRow w2.heap.size (kv b)) from below_setRow (BB2.out.alloc (by omega) _) (by omega) _)
    have SA : Hid (((w2.alloc (.cells (kv []) 23)).setRow w2.heap.size (kv b)).heap.size = w2.heap.size + 1) := Lib.hid (by simp)
    go_wp2_with (((with_reducible refine stL (.tmp 7) (.tmp 27) _ b [] ?_ ?_ M2.out ?_); rfl; rfl))
    obtain ⟨W, hW⟩ : ∃ W, (w2.alloc (.cells (kv []) 23)).setRow w2.heap.size (kv b) = W := ⟨_, rfl⟩
    rw [hW] at P1 P2 BA SA
    rw [hW]
    have HSZ := Lib.hid hs2
    clear hW L1 M1 N1 M2
    go_quiet (fail)
    go_wp2_with fail
    go_ret
    exact ⟨rfl, BA.out.trans (below_drewN (Below.refl _ _) _)⟩

set_option maxHeartbeats 4000000 in
theorem way_f (s t : ByteArray) (a b : List UInt8) (w : World) (h1 : ¬ (30 : Int) < (s.size : Int)) (h2 : ¬ (30 : Int) < (t.size : Int)) (HA : Hid (ofK s.data.toList = a)) (HB : Hid (ofK t.data.toList = b)) (HE : Hid (ofE s.data.toList = 0)) (HF : Hid (ofE t.data.toList = 1)) :
    Calls Try.prog 4 #[.string s, .string t] w fun e w' => e = .returned (.bool true) ∧ Below w.heap.size w w' := by
    have O1 := Lib.hid (of_calls s)
    have O2 := Lib.hid (of_calls t)
    have hz := kv_nil
    go_enter Try.func4, Try.ntmps4
    go_wp2_with fail
    refine (awake_calls _).mono ?_
    rintro e w0 ⟨rfl, hb0⟩
    have B0 := Lib.hid hb0
    have hs0 : w.heap.size ≤ w0.heap.size := hb0.size
    clear hb0
    go_wp2_with fail
    refine (O1.out _).mono ?_
    rw [HA.out, HE.out]
    rintro e w1 ⟨rfl, hb1⟩
    have hs1 : w.heap.size ≤ w1.heap.size := by have := hb1.size; omega
    have B1 := Lib.hid (B0.out.trans (hb1.mono (by omega)))
    clear hb1
    have M1 := Lib.hid (heap_alloc_new w1 (.cells (kv []) 23))
    have N1 := Lib.hid (set_at (W := w1.alloc (.cells (kv []) 23)) M1.out a)
    have BB1 := Lib.hid (show Below w.heap.size w ((w1.alloc (.cells (kv []) 23)).setRow w1.heap.size (kv a)) from below_setRow (B1.out.alloc hs1 _) hs1 _)
    go_wp2_with (((with_reducible refine stL (.tmp 5) (.tmp 22) _ a [] ?_ ?_ M1.out ?_); rfl; rfl))
    refine (O2.out _).mono ?_
    rw [HB.out, HF.out]
    rintro e w2 ⟨rfl, hb2⟩
    have L1 := Lib.hid (bcell hb2 (by simp) N1.out)
    have hs2 : w1.heap.size < w2.heap.size := by have := hb2.size; simp at this; omega
    have BB2 := Lib.hid (BB1.out.trans (hb2.mono (by simp; omega)))
    clear hb2
    have M2 := Lib.hid (heap_alloc_new w2 (.cells (kv []) 23))
    have P2 := Lib.hid (set_at (W := w2.alloc (.cells (kv []) 23)) M2.out b)
    have P1 := Lib.hid (show ((w2.alloc (.cells (kv []) 23)).setRow w2.heap.size (kv b)).heap[w1.heap.size]? = some (.cells (kv a) 23 (0, 0)) from (setRow_other _ _ _ _ (by omega)).trans ((Below.heap_alloc _ _ _ hs2).trans L1.out))
    have BA := Lib.hid (show Below w.heap.size w ((w2.alloc (.cells (kv []) 23)).setRow w2.heap.size (kv b)) from below_setRow (BB2.out.alloc (by omega) _) (by omega) _)
    have SA : Hid (((w2.alloc (.cells (kv []) 23)).setRow w2.heap.size (kv b)).heap.size = w2.heap.size + 1) := Lib.hid (by simp)
    go_wp2_with (((with_reducible refine stL (.tmp 7) (.tmp 27) _ b [] ?_ ?_ M2.out ?_); rfl; rfl))
    obtain ⟨W, hW⟩ : ∃ W, (w2.alloc (.cells (kv []) 23)).setRow w2.heap.size (kv b) = W := ⟨_, rfl⟩
    rw [hW] at P1 P2 BA SA
    rw [hW]
    have HSZ := Lib.hid hs2
    clear hW L1 M1 N1 M2
    go_quiet (fail)
    go_wp2_with fail
    go_ret
    exact ⟨rfl, BA.out.trans (below_drewN (Below.refl _ _) _)⟩

set_option maxHeartbeats 4000000 in
theorem way_ok (s t : ByteArray) (a b : List UInt8) (w : World) (h1 : ¬ (30 : Int) < (s.size : Int)) (h2 : ¬ (30 : Int) < (t.size : Int)) (HA : Hid (ofK s.data.toList = a)) (HB : Hid (ofK t.data.toList = b)) (HE : Hid (ofE s.data.toList = 0)) (HF : Hid (ofE t.data.toList = 0)) (p : Int) (x z : Bool)
    (HP : Hid (cmpK a b = p)) (HR : Hid (cmpK b a = -p)) (hx : decide (p < 0) = x) (hy : Op.bytesLess s.toList t.toList = x) (hz1 : (p == 0) = z) (hz2 : (s.toList == t.toList) = z) (hneg : IntKind.i64.wrap p = p) :
    Calls Try.prog 4 #[.string s, .string t] w fun e w' => e = .returned (.bool true) ∧ Below w.heap.size w w' := by
    have O1 := Lib.hid (of_calls s)
    have O2 := Lib.hid (of_calls t)
    have hz := kv_nil
    go_enter Try.func4, Try.ntmps4
    go_wp2_with fail
    refine (awake_calls _).mono ?_
    rintro e w0 ⟨rfl, hb0⟩
    have B0 := Lib.hid hb0
    have hs0 : w.heap.size ≤ w0.heap.size := hb0.size
    clear hb0
    go_wp2_with fail
    refine (O1.out _).mono ?_
    rw [HA.out, HE.out]
    rintro e w1 ⟨rfl, hb1⟩
    have hs1 : w.heap.size ≤ w1.heap.size := by have := hb1.size; omega
    have B1 := Lib.hid (B0.out.trans (hb1.mono (by omega)))
    clear hb1
    have M1 := Lib.hid (heap_alloc_new w1 (.cells (kv []) 23))
    have N1 := Lib.hid (set_at (W := w1.alloc (.cells (kv []) 23)) M1.out a)
    have BB1 := Lib.hid (show Below w.heap.size w ((w1.alloc (.cells (kv []) 23)).setRow w1.heap.size (kv a)) from below_setRow (B1.out.alloc hs1 _) hs1 _)
    go_wp2_with (((with_reducible refine stL (.tmp 5) (.tmp 22) _ a [] ?_ ?_ M1.out ?_); rfl; rfl))
    refine (O2.out _).mono ?_
    rw [HB.out, HF.out]
    rintro e w2 ⟨rfl, hb2⟩
    have L1 := Lib.hid (bcell hb2 (by simp) N1.out)
    have hs2 : w1.heap.size < w2.heap.size := by have := hb2.size; simp at this; omega
    have BB2 := Lib.hid (BB1.out.trans (hb2.mono (by simp; omega)))
    clear hb2
    have M2 := Lib.hid (heap_alloc_new w2 (.cells (kv []) 23))
    have P2 := Lib.hid (set_at (W := w2.alloc (.cells (kv []) 23)) M2.out b)
    have P1 := Lib.hid (show ((w2.alloc (.cells (kv []) 23)).setRow w2.heap.size (kv b)).heap[w1.heap.size]? = some (.cells (kv a) 23 (0, 0)) from (setRow_other _ _ _ _ (by omega)).trans ((Below.heap_alloc _ _ _ hs2).trans L1.out))
    have BA := Lib.hid (show Below w.heap.size w ((w2.alloc (.cells (kv []) 23)).setRow w2.heap.size (kv b)) from below_setRow (BB2.out.alloc (by omega) _) (by omega) _)
    have SA : Hid (((w2.alloc (.cells (kv []) 23)).setRow w2.heap.size (kv b)).heap.size = w2.heap.size + 1) := Lib.hid (by simp)
    go_wp2_with (((with_reducible refine stL (.tmp 7) (.tmp 27) _ b [] ?_ ?_ M2.out ?_); rfl; rfl))
    obtain ⟨W, hW⟩ : ∃ W, (w2.alloc (.cells (kv []) 23)).setRow w2.heap.size (kv b) = W := ⟨_, rfl⟩
    rw [hW] at P1 P2 BA SA
    rw [hW]
    have HSZ := Lib.hid hs2
    clear hW L1 M1 N1 M2
    refine region_quiet_lit (C := fun w' => Below W.heap.size W w') (by kernel_rfl) (by kernel_rfl) (Below.refl _ _).drew ?_
    refine BigFrame.wpQuiet_want rfl (fun K hK => ?_)
    refine quiet_val (.int .i64 0) (fun w2 hw => rfl) (hK _ ?_)
    clear hK K
    simp only [Act.put, List.setIfInBounds_toArray, List.set_cons_zero, List.set_cons_succ]
    refine BigFrame.wpQuiet_want rfl (fun K hK => ?_)
    refine quiet_val (.bool false) (fun w2 hw => rfl) (hK _ ?_)
    clear hK K
    simp only [Act.put, List.setIfInBounds_toArray, List.set_cons_zero, List.set_cons_succ]
    refine BigFrame.wpQuiet_want rfl (fun K hK => ?_)
    refine quiet_val (.bool false) (fun w2 hw => rfl) (hK _ ?_)
    clear hK K
    simp only [Act.put, List.setIfInBounds_toArray, List.set_cons_zero, List.set_cons_succ]
    refine BigFrame.wpQuiet_want rfl (fun K hK => ?_)
    refine quiet_val (.int .i64 0) (fun w2 hw => rfl) (hK _ ?_)
    clear hK K
    simp only [Act.put, List.setIfInBounds_toArray, List.set_cons_zero, List.set_cons_succ]
    refine BigFrame.wpQuiet_want rfl (fun K hK => ?_)
    refine quiet_val (.bool false) (fun w2 hw => rfl) (hK _ ?_)
    clear hK K
    simp only [Act.put, List.setIfInBounds_toArray, List.set_cons_zero, List.set_cons_succ]
    refine BigFrame.wpQuiet_want rfl (fun K hK => ?_)
    refine quiet_val (.bool false) (fun w2 hw => rfl) (hK _ ?_)
    clear hK K
    simp only [Act.put, List.setIfInBounds_toArray, List.set_cons_zero, List.set_cons_succ]
    refine BigFrame.wpQuiet_want rfl (fun K hK => ?_)
    refine quiet_val (.bool false) (fun w2 hw => rfl) (hK _ ?_)
    clear hK K
    simp only [Act.put, List.setIfInBounds_toArray, List.set_cons_zero, List.set_cons_succ]
    refine BigFrame.wpQuiet_want rfl (fun K hK => ?_)
    refine quiet_ld (.tmp 5) rfl _ rfl a (fun w2 hw => bcell hw (by rw [SA.out]; omega) P1.out) (hK _ ?_)
    clear hK K
    simp only [Act.put, List.setIfInBounds_toArray, List.set_cons_zero, List.set_cons_succ]
    refine BigFrame.wpQuiet_want rfl (fun K hK => ?_)
    refine quiet_ld (.tmp 7) rfl _ rfl b (fun w2 hw => bcell hw (by rw [SA.out]; omega) P2.out) (hK _ ?_)
    clear hK K
    simp only [Act.put, List.setIfInBounds_toArray, List.set_cons_zero, List.set_cons_succ]
    refine BigFrame.wpQuiet_want rfl (fun K hK => ?_)
    refine quiet_call 13 #[.agg (kv a), .agg (kv b)] (.int .i64 p) (fun w2 => by simp [go_sem]) (fun w2 hw => (cmpK_calls a b w2).mono fun e w3 hh => ⟨by rw [hh.1, HP.out], hw.trans (hh.2.mono hw.size)⟩) (hK _ ?_)
    clear hK K
    simp only [Act.put, List.setIfInBounds_toArray, List.set_cons_zero, List.set_cons_succ]
    refine BigFrame.wpQuiet_want rfl (fun K hK => ?_)
    refine quiet_val (.bool x) (fun w2 hw => by simp [go_sem, hx]) (hK _ ?_)
    clear hK K
    simp only [Act.put, List.setIfInBounds_toArray, List.set_cons_zero, List.set_cons_succ]
    refine BigFrame.wpQuiet_want rfl (fun K hK => ?_)
    refine quiet_val (.string s) (fun w2 hw => rfl) (hK _ ?_)
    clear hK K
    simp only [Act.put, List.setIfInBounds_toArray, List.set_cons_zero, List.set_cons_succ]
    refine BigFrame.wpQuiet_want rfl (fun K hK => ?_)
    refine quiet_val (.string t) (fun w2 hw => rfl) (hK _ ?_)
    clear hK K
    simp only [Act.put, List.setIfInBounds_toArray, List.set_cons_zero, List.set_cons_succ]
    refine BigFrame.wpQuiet_want rfl (fun K hK => ?_)
    refine quiet_val (.bool x) (fun w2 hw => by simp [go_sem, hy]) (hK _ ?_)
    clear hK K
    simp only [Act.put, List.setIfInBounds_toArray, List.set_cons_zero, List.set_cons_succ]
    refine BigFrame.wpQuiet_want rfl (fun K hK => ?_)
    refine quiet_val (.bool true) (fun w2 hw => by simp [go_sem]) (hK _ ?_)
    clear hK K
    simp only [Act.put, List.setIfInBounds_toArray, List.set_cons_zero, List.set_cons_succ]
    refine BigFrame.wpQuiet_want rfl (fun K hK => ?_)
    refine quiet_val (.bool true) (fun w2 hw => rfl) (hK _ ?_)
    clear hK K
    simp only [Act.put, List.setIfInBounds_toArray, List.set_cons_zero, List.set_cons_succ]
    refine BigFrame.wpQuiet_want rfl (fun K hK => ?_)
    refine quiet_ld (.tmp 5) rfl _ rfl a (fun w2 hw => bcell hw (by rw [SA.out]; omega) P1.out) (hK _ ?_)
    clear hK K
    simp only [Act.put, List.setIfInBounds_toArray, List.set_cons_zero, List.set_cons_succ]
    refine BigFrame.wpQuiet_want rfl (fun K hK => ?_)
    refine quiet_ld (.tmp 7) rfl _ rfl b (fun w2 hw => bcell hw (by rw [SA.out]; omega) P2.out) (hK _ ?_)
    clear hK K
    simp only [Act.put, List.setIfInBounds_toArray, List.set_cons_zero, List.set_cons_succ]
    refine BigFrame.wpQuiet_want rfl (fun K hK => ?_)
    refine quiet_call 13 #[.agg (kv a), .agg (kv b)] (.int .i64 p) (fun w2 => by simp [go_sem]) (fun w2 hw => (cmpK_calls a b w2).mono fun e w3 hh => ⟨by rw [hh.1, HP.out], hw.trans (hh.2.mono hw.size)⟩) (hK _ ?_)
    clear hK K
    simp only [Act.put, List.setIfInBounds_toArray, List.set_cons_zero, List.set_cons_succ]
    refine BigFrame.wpQuiet_want rfl (fun K hK => ?_)
    refine quiet_val (.bool z) (fun w2 hw => by simp [go_sem, hz1]) (hK _ ?_)
    clear hK K
    simp only [Act.put, List.setIfInBounds_toArray, List.set_cons_zero, List.set_cons_succ]
    refine BigFrame.wpQuiet_want rfl (fun K hK => ?_)
    refine quiet_val (.string s) (fun w2 hw => rfl) (hK _ ?_)
    clear hK K
    simp only [Act.put, List.setIfInBounds_toArray, List.set_cons_zero, List.set_cons_succ]
    refine BigFrame.wpQuiet_want rfl (fun K hK => ?_)
    refine quiet_val (.string t) (fun w2 hw => rfl) (hK _ ?_)
    clear hK K
    simp only [Act.put, List.setIfInBounds_toArray, List.set_cons_zero, List.set_cons_succ]
    refine BigFrame.wpQuiet_want rfl (fun K hK => ?_)
    refine quiet_val (.bool z) (fun w2 hw => by simp [go_sem, hz2]) (hK _ ?_)
    clear hK K
    simp only [Act.put, List.setIfInBounds_toArray, List.set_cons_zero, List.set_cons_succ]
    refine BigFrame.wpQuiet_want rfl (fun K hK => ?_)
    refine quiet_val (.bool true) (fun w2 hw => by simp [go_sem]) (hK _ ?_)
    clear hK K
    simp only [Act.put, List.setIfInBounds_toArray, List.set_cons_zero, List.set_cons_succ]
    refine BigFrame.wpQuiet_want rfl (fun K hK => ?_)
    refine quiet_val (.bool true) (fun w2 hw => rfl) (hK _ ?_)
    clear hK K
    simp only [Act.put, List.setIfInBounds_toArray, List.set_cons_zero, List.set_cons_succ]
    refine BigFrame.wpQuiet_want rfl (fun K hK => ?_)
    refine quiet_val (.bool true) (fun w2 hw => rfl) (hK _ ?_)
    clear hK K
    simp only [Act.put, List.setIfInBounds_toArray, List.set_cons_zero, List.set_cons_succ]
    refine BigFrame.wpQuiet_want rfl (fun K hK => ?_)
    refine quiet_ld (.tmp 5) rfl _ rfl a (fun w2 hw => bcell hw (by rw [SA.out]; omega) P1.out) (hK _ ?_)
    clear hK K
    simp only [Act.put, List.setIfInBounds_toArray, List.set_cons_zero, List.set_cons_succ]
    refine BigFrame.wpQuiet_want rfl (fun K hK => ?_)
    refine quiet_ld (.tmp 7) rfl _ rfl b (fun w2 hw => bcell hw (by rw [SA.out]; omega) P2.out) (hK _ ?_)
    clear hK K
    simp only [Act.put, List.setIfInBounds_toArray, List.set_cons_zero, List.set_cons_succ]
    refine BigFrame.wpQuiet_want rfl (fun K hK => ?_)
    refine quiet_call 13 #[.agg (kv a), .agg (kv b)] (.int .i64 p) (fun w2 => by simp [go_sem]) (fun w2 hw => (cmpK_calls a b w2).mono fun e w3 hh => ⟨by rw [hh.1, HP.out], hw.trans (hh.2.mono hw.size)⟩) (hK _ ?_)
    clear hK K
    simp only [Act.put, List.setIfInBounds_toArray, List.set_cons_zero, List.set_cons_succ]
    refine BigFrame.wpQuiet_want rfl (fun K hK => ?_)
    refine quiet_ld (.tmp 7) rfl _ rfl b (fun w2 hw => bcell hw (by rw [SA.out]; omega) P2.out) (hK _ ?_)
    clear hK K
    simp only [Act.put, List.setIfInBounds_toArray, List.set_cons_zero, List.set_cons_succ]
    refine BigFrame.wpQuiet_want rfl (fun K hK => ?_)
    refine quiet_ld (.tmp 5) rfl _ rfl a (fun w2 hw => bcell hw (by rw [SA.out]; omega) P1.out) (hK _ ?_)
    clear hK K
    simp only [Act.put, List.setIfInBounds_toArray, List.set_cons_zero, List.set_cons_succ]
    refine BigFrame.wpQuiet_want rfl (fun K hK => ?_)
    refine quiet_call 13 #[.agg (kv b), .agg (kv a)] (.int .i64 (-p)) (fun w2 => by simp [go_sem]) (fun w2 hw => (cmpK_calls b a w2).mono fun e w3 hh => ⟨by rw [hh.1, HR.out], hw.trans (hh.2.mono hw.size)⟩) (hK _ ?_)
    clear hK K
    simp only [Act.put, List.setIfInBounds_toArray, List.set_cons_zero, List.set_cons_succ]
    refine BigFrame.wpQuiet_want rfl (fun K hK => ?_)
    refine quiet_val (.int .i64 p) (fun w2 hw => by simp [go_sem, hneg]) (hK _ ?_)
    clear hK K
    simp only [Act.put, List.setIfInBounds_toArray, List.set_cons_zero, List.set_cons_succ]
    refine BigFrame.wpQuiet_want rfl (fun K hK => ?_)
    refine quiet_val (.bool true) (fun w2 hw => by simp [go_sem]) (hK _ ?_)
    clear hK K
    simp only [Act.put, List.setIfInBounds_toArray, List.set_cons_zero, List.set_cons_succ]
    refine BigFrame.wpQuiet_want rfl (fun K hK => ?_)
    refine quiet_val (.bool true) (fun w2 hw => rfl) (hK _ ?_)
    clear hK K
    simp only [Act.put, List.setIfInBounds_toArray, List.set_cons_zero, List.set_cons_succ]
    refine BigFrame.wpQuiet_want rfl (fun K hK => ?_)
    refine quiet_val (.bool true) (fun w2 hw => rfl) (hK _ ?_)
    clear hK K
    simp only [Act.put, List.setIfInBounds_toArray, List.set_cons_zero, List.set_cons_succ]
    refine BigFrame.wpQuiet_want rfl (fun K hK => ?_)
    refine quiet_val (.bool true) (fun w2 hw => rfl) (hK _ ?_)
    clear hK K
    simp only [Act.put, List.setIfInBounds_toArray, List.set_cons_zero, List.set_cons_succ]
    refine wpQuiet_nil ?_
    intro w4 hw4
    have B4 := Lib.hid (BA.out.trans (hw4.mono (by rw [SA.out]; omega)))
    clear hw4
    go_wp2_with fail
    go_ret
    exact ⟨rfl, B4.out⟩


theorem way_s (s t : ByteArray) (w : World) (h1 : (30 : Int) < (s.size : Int)) :
    Calls Try.prog 4 #[.string s, .string t] w fun e w' => e = .returned (.bool true) ∧ Below w.heap.size w w' := by
  go_enter Try.func4, Try.ntmps4
  go_wp2_with fail
  refine (awake_calls _).mono ?_
  rintro e w0 ⟨rfl, hb0⟩
  have B0 := Lib.hid hb0
  clear hb0
  go_wp2_with fail
  go_ret
  exact ⟨rfl, B0.out⟩
theorem way_t (s t : ByteArray) (w : World) (h1 : ¬ (30 : Int) < (s.size : Int)) (h2 : (30 : Int) < (t.size : Int)) :
    Calls Try.prog 4 #[.string s, .string t] w fun e w' => e = .returned (.bool true) ∧ Below w.heap.size w w' := by
  go_enter Try.func4, Try.ntmps4
  go_wp2_with fail
  refine (awake_calls _).mono ?_
  rintro e w0 ⟨rfl, hb0⟩
  have B0 := Lib.hid hb0
  clear hb0
  go_wp2_with fail
  go_ret
  exact ⟨rfl, B0.out⟩

/-! ### The plain law: padded by noughts, texts without noughts keep their order -/
theorem pad_cons (b : UInt8) (l : List UInt8) (n : Nat) : ((List.range (n + 1)).map fun i => (b :: l).getD i 0) = b :: ((List.range n).map fun i => l.getD i 0) := by
  rw [List.range_succ_eq_map, List.map_cons, List.map_map]
  rfl
theorem pad_nil (n : Nat) : ((List.range n).map fun i => ([] : List UInt8).getD i 0) = List.replicate n 0 := by
  apply List.ext_getElem?
  intro i
  simp [List.getElem?_replicate]
  split <;> simp_all
theorem pad_cmp : ∀ (n : Nat) (l m : List UInt8), l.length ≤ n → m.length ≤ n → ¬ (0 : UInt8) ∈ l → ¬ (0 : UInt8) ∈ m →
    Lib.compareBytes ((List.range n).map fun i => l.getD i 0) ((List.range n).map fun i => m.getD i 0) = Lib.compareBytes l m
  | 0, [], [], _, _, _, _ => rfl
  | n + 1, [], [], _, _, _, _ => by rw [(cmp_zero _ _).2 rfl]; rfl
  | n + 1, [], b :: m, _, _, _, h => by
    have hb : (0 : UInt8) < b := by
      rcases cb_cases 0 b with h' | h' | h'
      · exact h'
      · exact absurd (by simp [h']) h
      · have := UInt8.lt_iff_toNat_lt.1 h'; simp at this
    rw [pad_nil, pad_cons, List.replicate_succ]
    simp [Lib.compareBytes, hb]
  | n + 1, b :: l, [], _, _, h, _ => by
    have hb : (0 : UInt8) < b := by
      rcases cb_cases 0 b with h' | h' | h'
      · exact h'
      · exact absurd (by simp [h']) h
      · have := UInt8.lt_iff_toNat_lt.1 h'; simp at this
    rw [pad_nil, pad_cons, List.replicate_succ]
    simp [Lib.compareBytes, hb, cb_asym hb]
  | n + 1, b :: l, c :: m, h1, h2, h3, h4 => by
    rw [pad_cons, pad_cons]
    unfold Lib.compareBytes
    rw [pad_cmp n l m (by simpa using h1) (by simpa using h2) (fun h => h3 (by simp [h])) (fun h => h4 (by simp [h]))]
theorem ok_parts (l : List UInt8) (h : ofE l = 0) : ofK l = l ∧ l.length ≤ 16 ∧ ¬ (0 : UInt8) ∈ l := by
  have hk : okS l = true := by
    cases h' : okS l
    · simp [ofE, h'] at h
    · rfl
  have h2 := hk
  simp only [okS, Bool.and_eq_true, decide_eq_true_eq, Bool.not_eq_true', List.contains_eq_mem, decide_eq_false_iff_not] at h2
  exact ⟨by simp [ofK, hk], h2.1.2, h2.2⟩
theorem less_cmp : ∀ l m : List UInt8, Op.bytesLess l m = decide (Lib.compareBytes l m < 0)
  | [], [] => by simp [Op.bytesLess, Lib.compareBytes]
  | _ :: _, [] => by simp [Op.bytesLess, Lib.compareBytes]
  | [], _ :: _ => by simp [Op.bytesLess, Lib.compareBytes]
  | a :: l, b :: m => by
    have ih := less_cmp l m
    unfold Op.bytesLess Lib.compareBytes
    rcases cb_cases a b with h | h | h
    · simp [h]
    · subst h; simp [cb_irr, ih]
    · have hne : a ≠ b := fun e => cb_irr b (e ▸ h)
      simp [h, cb_asym h, hne]

theorem walk (s t : ByteArray) (w : World) (_ : s.size ≤ maxLen) (_ : t.size ≤ maxLen) :
    Calls Try.prog 4 #[.string s, .string t] w fun e w' => e = .returned (.bool true) ∧ Below w.heap.size w w' := by
  by_cases h1 : (30 : Int) < (s.size : Int)
  · exact way_s s t w h1
  by_cases h2 : (30 : Int) < (t.size : Int)
  · exact way_t s t w h1 h2
  have he : ∀ l, ofE l = 0 ∨ ofE l = 1 := fun l => by unfold ofE; split <;> simp
  rcases he s.data.toList with e1 | e1
  · rcases he t.data.toList with f1 | f1
    · obtain ⟨k1, l1, n1⟩ := ok_parts _ e1
      obtain ⟨k2, l2, n2⟩ := ok_parts _ f1
      have hc : cmpK s.data.toList t.data.toList = Lib.compareBytes s.data.toList t.data.toList := pad_cmp 16 _ _ l1 l2 n1 n2
      have hv := cmp_vals s.data.toList t.data.toList
      have hs : s.toList = s.data.toList := ByteArray.toList_eq s
      have ht : t.toList = t.data.toList := ByteArray.toList_eq t
      refine way_ok s t s.data.toList t.data.toList w h1 h2 (Lib.hid k1) (Lib.hid k2) (Lib.hid e1) (Lib.hid f1) (cmpK s.data.toList t.data.toList) _ _ (Lib.hid rfl) (Lib.hid (by unfold cmpK; exact cmp_neg _ _)) rfl ?_ rfl ?_ ?_
      · rw [hs, ht, less_cmp, hc]
      · rw [hs, ht, hc, Bool.eq_iff_iff]
        simp only [beq_iff_eq]
        exact (cmp_zero _ _).symm
      · rw [hc, IntKind.wrap_i64]
        omega
    · exact way_f s t _ _ w h1 h2 (Lib.hid rfl) (Lib.hid rfl) (Lib.hid e1) (Lib.hid f1)
  · exact way_e s t _ _ w h1 h2 (Lib.hid rfl) (Lib.hid rfl) _ (Lib.hid e1) (Lib.hid rfl)

/-! ### The row's step -/
set_option maxRecDepth 100000 in
theorem lifted (os : Os) (started : os.Started) (H : Type) (enc : TypeId × Value → H) :
    ReturnsInHanded {} Try.checked os 4 .any (Rows.keyOrderSpec.pre6 enc Try.prog Try.f4 Rows.keyOrderRow.domain false) (Rows.keyOrderSpec.post enc Try.prog Try.f4 false true false false) := by
  refine returnsInHanded_of_change (C := Try.checked) own started (by kernel_rfl) Try.func4
    (ChangeSpec.witness6 (enc := enc) (C := Try.checked) false ⟨#[], #[.string ByteArray.empty, .string ByteArray.empty], []⟩ 8 (by kernel_rfl) (by kernel_rfl) (by kernel_rfl) (by kernel_rfl)) ?_
  intro W base args ds gs before hval0 hW hcnd _
  have hval : ∀ (j : Nat) t v, Try.f4.params[j]? = some t → args[j]? = some v → Value.okWide Try.prog W .any base t v := hval0
  have hW' := hW
  obtain ⟨p, q, hA0, hV, rfl, hfz, hnd⟩ := hW
  have hA : DataW.TrodAll enc Try.prog W 0 (fun _ => true) true Try.f4.params.toList args.toList ds p := hA0
  rw [Try.params4] at hA hval
  obtain ⟨v0, vs0, d0, ds0, p0, q0, hargs, rfl, rfl, h0, r0⟩ := trodAll_cons hA
  obtain ⟨v1, vs1, d1, ds1, p1, q1, rfl, rfl, rfl, h1, r1⟩ := trodAll_cons r0
  obtain ⟨rfl, rfl, rfl⟩ := trodAll_nil r1
  obtain rfl : args = #[v0, v1] := by cases args; simp_all
  obtain ⟨rfl, rfl⟩ := trodVars_none hV
  obtain ⟨a0, rfl, rfl, rfl, w0⟩ := open_string Try.underlying9 (hval 0 9 v0 rfl rfl) h0
  obtain ⟨a1, rfl, rfl, rfl, w1⟩ := open_string Try.underlying9 (hval 1 9 v1 rfl rfl) h1
  clear hA0 hval0
  refine (walk a0 a1 W w0 w1).mono fun e W' ⟨he, bel⟩ => ?_
  subst he
  exact ⟨_, rfl, _, _, _, [], _, [], hW', trodAll_mk1 (shut_bool Try.underlying4 _), (trodAll_cons_mk (shut_string Try.underlying9 w0) (trodAll_cons_mk (shut_string Try.underlying9 w1) trodAll_mk0)), rfl, bel.frame _, fun h => by cases h⟩

theorem over : Rows.keyOrderRow.holds Try.pinned (OpenSpec.ofChange Rows.keyOrderSpec) :=
  OpenClaim.holds_of_wide 4 Try.f4 rfl rfl rfl rfl rfl rfl rfl ⟨rfl, rfl, rfl, rfl, rfl⟩ rfl rfl rfl rfl rfl (by kernel_rfl) Try.func4 (by kernel_rfl)
    (of_decide_eq_true (by kernel_rfl)) (by unfold Func.isWrapper; first | (rw [if_pos (by decide +kernel)]; kernel_rfl) | (rw [if_neg (by decide +kernel)]; exact ⟨rfl, rfl⟩))
    (fun os started H enc _ => lifted os started H enc)

theorem proved : Rows.KeyOrderSaid := over
#print axioms proved
end Go.Proofs.Ytnmnniknklfemaa.keyOrder
