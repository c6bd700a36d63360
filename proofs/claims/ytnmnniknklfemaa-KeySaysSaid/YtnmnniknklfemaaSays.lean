/- The walk of KeySays. No condition other than the reach. -/
import Derived.Test.YtnmnniknklfemaaKw
import Derived.Test.YtnmnniknklfemaaKo
import Derived.Test.YtnmnniknklfemaaKeyD
namespace Go.Proofs.Ytnmnniknklfemaa
open Go.RowKit
open Go.Proofs.Ytnmnniknklfemaa.Sp
set_option linter.unusedVariables false
set_option linter.unusedSimpArgs false
theorem keq_refl (l : List UInt8) : keq l l = true := by simp [keq]
set_option maxRecDepth 100000 in
set_option maxHeartbeats 16000000 in
theorem says_true (s : ByteArray) (a b c : K16) (A : Option Addr) (cap : Nat) (ks : List K16) (w : World) (hA : KAt w A ks) (h100 : ¬ (100 : Int) < (s.size : Int)) (h40 : ¬ (40 : Int) < (ks.length : Int)) (hok : okS s.data.toList = true) :
    Calls Try.prog 8 #[.string s, .agg (kv a.1), .agg (kv b.1), .agg (kv c.1), .slice A ks.length cap] w fun e w' => e = .returned (.bool true) ∧ Below w.heap.size w w' := by
  have HA := Lib.hid hA
  obtain ⟨n, en⟩ : ∃ n, ks.length = n := ⟨_, rfl⟩
  have HN := Lib.hid en
  rw [en] at h40 ⊢
  obtain ⟨S, hS⟩ : ∃ S, S = ksort ks := ⟨_, rfl⟩
  have hSL : S.length ≤ n := by rw [hS, ← en]; exact ksort_len ks
  have HS := Lib.hid hS
  obtain ⟨m, em⟩ : ∃ m, S.length = m := ⟨_, rfl⟩
  have HM := Lib.hid em
  rw [em] at hSL
  obtain ⟨k, hk⟩ : ∃ k, ofK s.data.toList = k := ⟨_, rfl⟩
  have HOF := Lib.hid (fun w => by have := of_calls s w; rw [hk, show ofE s.data.toList = 0 by simp [ofE, hok]] at this; exact this)
  have HROF := Lib.hid (fun w => by have := rof_calls s w; rw [hk, hok] at this; exact this)
  have HZ := Lib.hid (((((Holds.nil w).alloc (.cells (kv a.1) 23)).alloc (.cells (kv b.1) 23)).alloc (.cells (kv c.1) 23)).perm (k := (((w.heap.size + 2), Obj.cells (kv c.1) 23) :: ((w.heap.size + 1), Obj.cells (kv b.1) 23) :: (w.heap.size, Obj.cells (kv a.1) 23) :: [])) (by simp))
  clear hA en hS em hk hok
  go_enter Try.func8, Try.ntmps8
  go_wp2_with fail
  refine (awake_calls _).mono ?_
  rintro e w1 ⟨rfl, hb1⟩
  have HH1 := Lib.hid (HZ.out.grow hb1)
  clear hb1
  go_wp2_with fail
  refine (HOF.out w1).mono ?_
  rintro e w2 ⟨rfl, hb2⟩
  have HH2 := Lib.hid (HH1.out.grow hb2)
  clear hb2
  obtain ⟨gk, hgk⟩ : ∃ g, g = w2.heap.size := ⟨_, rfl⟩
  have HG := Lib.hid hgk
  have hal2 := heap_alloc_new w2 (.cells (kv []) 23)
  have HAL2 := Lib.hid hal2
  have HH3 := Lib.hid ((HH2.out.alloc (.cells (kv []) 23)).turn (row_grown _ _ (kv k)) (set_at hal2 k))
  have hz := kv_nil
  clear hal2 hgk
  go_wp2_with (first | ((with_reducible refine stL (.tmp 11) (.tmp 28) _ k [] ?_ ?_ HAL2.out ?_); rfl; rfl))
  refine (HROF.out _).mono ?_
  rintro e w3 ⟨rfl, hb3⟩
  have HH3b := Lib.hid (HH3.out.grow hb3)
  clear hb3
  have hal3 := heap_alloc_new w3 (.cells (kv []) 23)
  have HAL3 := Lib.hid hal3
  obtain ⟨gr, hgr⟩ : ∃ g, g = w3.heap.size := ⟨_, rfl⟩
  have HGR := Lib.hid hgr
  have HH4 := Lib.hid (show Holds w ((gr, Obj.cells (kv k) 23) :: (gk, Obj.cells (kv k) 23) :: ((w.heap.size + 2), Obj.cells (kv c.1) 23) :: ((w.heap.size + 1), Obj.cells (kv b.1) 23) :: (w.heap.size, Obj.cells (kv a.1) 23) :: []) _ by rw [HG.out, hgr]; exact (HH3b.out.alloc (.cells (kv []) 23)).turn (row_grown _ _ (kv k)) (set_at hal3 k))
  clear hal3 hgr
  go_wp2_with (first | ((with_reducible refine stL (.tmp 13) (.tmp 33) _ k [] ?_ ?_ HAL3.out ?_); rfl; rfl))
  rw [← HG.out, ← HGR.out]
  refine wp_region_own 64 (fun k => match k with | 62 => [59, 61] | _ => []) (by kernel_rfl) (by kernel_rfl) (by kernel_rfl) (by kernel_rfl) (Nat.le_of_ble_eq_true (by kernel_rfl)) w (fun Ls hs => hs = ((gr, Obj.cells (kv k) 23) :: (gk, Obj.cells (kv k) 23) :: ((w.heap.size + 2), Obj.cells (kv c.1) 23) :: ((w.heap.size + 1), Obj.cells (kv b.1) 23) :: (w.heap.size, Obj.cells (kv a.1) 23) :: [])) (fun i v h => match i with | 0 => v = Value.agg (kv k) ∧ h = [] | 1 => v = Value.agg (kv k) ∧ h = [] | 2 => v = .bool true ∧ h = [] | 3 => v = .bool true ∧ h = [] | 4 => v = .int .i64 0 ∧ h = [] | 5 => v = .bool true ∧ h = [] | 6 => v = .bool true ∧ h = [] | 7 => v = .bool true ∧ h = [] | 8 => v = .bool true ∧ h = [] | 9 => v = .bool true ∧ h = [] | 10 => v = .bool true ∧ h = [] | 11 => v = .bool true ∧ h = [] | 12 => v = undef ∧ h = [] | 13 => v = undef ∧ h = [] | 14 => v = .bool true ∧ h = [] | 15 => v = .bool true ∧ h = [] | 16 => v = .bool true ∧ h = [] | 17 => v = Value.agg (kv a.1) ∧ h = [] | 18 => v = .string ⟨(txtK a.1).toArray⟩ ∧ h = [] | 19 => v = Value.agg (kv a.1) ∧ h = [] | 20 => v = .string ⟨(txtK a.1).toArray⟩ ∧ h = [] | 21 => v = .bool true ∧ h = [] | 22 => v = .bool true ∧ h = [] | 23 => v = .bool true ∧ h = [] | 24 => v = Value.agg (kv a.1) ∧ h = [] | 25 => v = .bool (goodB a.1) ∧ h = [] | 26 => v = Value.agg (kv a.1) ∧ h = [] | 27 => v = .bool (goodB a.1) ∧ h = [] | 28 => v = .bool true ∧ h = [] | 29 => v = .bool true ∧ h = [] | 30 => v = .bool true ∧ h = [] | 31 => v = Value.agg (kv a.1) ∧ h = [] | 32 => v = Value.agg (kv b.1) ∧ h = [] | 33 => v = .int .i64 (cmpK a.1 b.1) ∧ h = [] | 34 => v = Value.agg (kv a.1) ∧ h = [] | 35 => v = Value.agg (kv b.1) ∧ h = [] | 36 => v = .int .i64 (cmpK a.1 b.1) ∧ h = [] | 37 => v = .bool true ∧ h = [] | 38 => v = .bool true ∧ h = [] | 39 => v = .bool true ∧ h = [] | 40 => v = Value.agg (kv a.1) ∧ h = [] | 41 => v = Value.agg (kv b.1) ∧ h = [] | 42 => v = Value.agg (kv c.1) ∧ h = [] | 43 => v = .bool (withinB a.1 b.1 c.1) ∧ h = [] | 44 => v = Value.agg (kv a.1) ∧ h = [] | 45 => v = Value.agg (kv b.1) ∧ h = [] | 46 => v = Value.agg (kv c.1) ∧ h = [] | 47 => v = .bool (withinB a.1 b.1 c.1) ∧ h = [] | 48 => v = .bool true ∧ h = [] | 49 => v = .bool true ∧ h = [] | 50 => v = .bool true ∧ h = [] | 51 => v = Value.agg (kv a.1) ∧ h = [] | 52 => v = .int .u32 (sumTo a.1 16) ∧ h = [] | 53 => v = Value.agg (kv a.1) ∧ h = [] | 54 => v = .int .u32 (sumTo a.1 16) ∧ h = [] | 55 => v = .bool true ∧ h = [] | 56 => v = .bool true ∧ h = [] | 57 => v = .bool true ∧ h = [] | 58 => v = .slice A n cap ∧ h = [] | 59 => RowB 23 16 v m (flat S) h | 60 => v = .slice A n cap ∧ h = [] | 61 => RowB 23 16 v m (flat S) h | 62 => v = .bool true ∧ h = [] | 63 => v = .bool true ∧ h = [] | _ => True) (((gr, Obj.cells (kv k) 23) :: (gk, Obj.cells (kv k) 23) :: ((w.heap.size + 2), Obj.cells (kv c.1) 23) :: ((w.heap.size + 1), Obj.cells (kv b.1) 23) :: (w.heap.size, Obj.cells (kv a.1) 23) :: [])) (rfl) ((by have h := HH4.out.drew; rw [← HGR.out] at h; exact h)) ?_ ?_
  · intro i o hi ho Ls f Hf hs R w1 hI hL hd hH
    simp only [List.append_eq, List.cons_append, List.nil_append, fill, List.take_succ_cons, List.take_zero, Act.put, List.setIfInBounds_toArray, List.set_cons_zero, List.set_cons_succ]
    match i, hi with
    | 0, _ =>
      obtain rfl := Option.some.inj ho
      clear hd ho
      have hH : Holds w (hs ++ ([] ++ R)) w1 := hH
      rw [show hs = ((gr, Obj.cells (kv k) 23) :: (gk, Obj.cells (kv k) 23) :: ((w.heap.size + 2), Obj.cells (kv c.1) 23) :: ((w.heap.size + 1), Obj.cells (kv b.1) 23) :: (w.heap.size, Obj.cells (kv a.1) 23) :: []) from hI] at hH
      clear hI
      unfold wpOp
      refine Or.inl ?_
      unfold Oper.wp
      have hX : Holds w ((gk, Obj.cells (kv k) 23) :: (((gr, Obj.cells (kv k) 23) :: ((w.heap.size + 2), Obj.cells (kv c.1) 23) :: ((w.heap.size + 1), Obj.cells (kv b.1) 23) :: (w.heap.size, Obj.cells (kv a.1) 23) :: []) ++ R)) w1 := hH.perm (by classical rw [List.perm_iff_count]; intro a; simp only [List.count_append, List.count_cons, List.count_nil] <;> omega)
      refine wpK (.tmp 11) ⟨gk, 0, none⟩ rfl rfl (run_load_key _ _ (row_cells hX.get)) ?_
      exact OwnBy.mk _ _ _ rfl (rfl) (⟨rfl, rfl⟩) (hH)
    | 1, _ =>
      obtain rfl := Option.some.inj ho
      clear hd ho
      have hH : Holds w (hs ++ ([] ++ R)) w1 := hH
      rw [show hs = ((gr, Obj.cells (kv k) 23) :: (gk, Obj.cells (kv k) 23) :: ((w.heap.size + 2), Obj.cells (kv c.1) 23) :: ((w.heap.size + 1), Obj.cells (kv b.1) 23) :: (w.heap.size, Obj.cells (kv a.1) 23) :: []) from hI] at hH
      clear hI
      unfold wpOp
      refine Or.inl ?_
      unfold Oper.wp
      have hX : Holds w ((gr, Obj.cells (kv k) 23) :: (((gk, Obj.cells (kv k) 23) :: ((w.heap.size + 2), Obj.cells (kv c.1) 23) :: ((w.heap.size + 1), Obj.cells (kv b.1) 23) :: (w.heap.size, Obj.cells (kv a.1) 23) :: []) ++ R)) w1 := hH.perm (by classical rw [List.perm_iff_count]; intro a; simp only [List.count_append, List.count_cons, List.count_nil] <;> omega)
      refine wpK (.tmp 13) ⟨gr, 0, none⟩ rfl rfl (run_load_key _ _ (row_cells hX.get)) ?_
      exact OwnBy.mk _ _ _ rfl (rfl) (⟨rfl, rfl⟩) (hH)
    | 2, _ =>
      obtain rfl := Option.some.inj ho
      have e0 : f 0 = Value.agg (kv k) := (hd ⟨0, .data⟩ (by simp) rfl).2.1
      have e1 : f 1 = Value.agg (kv k) := (hd ⟨1, .data⟩ (by simp) rfl).2.1
      clear hd ho
      have hH : Holds w (hs ++ ([] ++ R)) w1 := hH
      rw [show hs = ((gr, Obj.cells (kv k) 23) :: (gk, Obj.cells (kv k) 23) :: ((w.heap.size + 2), Obj.cells (kv c.1) 23) :: ((w.heap.size + 1), Obj.cells (kv b.1) 23) :: (w.heap.size, Obj.cells (kv a.1) 23) :: []) from hI] at hH
      clear hI
      unfold wpOp
      refine Or.inl ?_
      simp only [e0, e1]
      unfold Oper.wp
      have q := run_eqIn k k w1
      rw [keq_refl] at q
      go_simp
      exact OwnBy.mk _ _ _ rfl (rfl) (⟨rfl, rfl⟩) (hH)
    | 3, _ =>
      obtain rfl := Option.some.inj ho
      have e2 : f 2 = .bool true := (hd ⟨2, .data⟩ (by simp) rfl).2.1
      clear hd ho
      have hH : Holds w (hs ++ ([] ++ R)) w1 := hH
      rw [show hs = ((gr, Obj.cells (kv k) 23) :: (gk, Obj.cells (kv k) 23) :: ((w.heap.size + 2), Obj.cells (kv c.1) 23) :: ((w.heap.size + 1), Obj.cells (kv b.1) 23) :: (w.heap.size, Obj.cells (kv a.1) 23) :: []) from hI] at hH
      clear hI
      unfold wpOp
      refine Or.inl ?_
      simp only [e2]
      unfold Oper.wp
      go_simp
      exact OwnBy.mk _ _ _ rfl (rfl) (⟨rfl, rfl⟩) (hH)
    | 4, _ =>
      obtain rfl := Option.some.inj ho
      have e3 : f 3 = .bool true := (hd ⟨3, .guard⟩ (by simp) rfl).2.1
      clear hd ho
      have hH : Holds w (hs ++ ([] ++ R)) w1 := hH
      rw [show hs = ((gr, Obj.cells (kv k) 23) :: (gk, Obj.cells (kv k) 23) :: ((w.heap.size + 2), Obj.cells (kv c.1) 23) :: ((w.heap.size + 1), Obj.cells (kv b.1) 23) :: (w.heap.size, Obj.cells (kv a.1) 23) :: []) from hI] at hH
      clear hI
      unfold wpOp
      simp only [e3]
      refine Or.inl ?_
      unfold Oper.wp
      go_simp
      exact OwnBy.mk _ _ _ rfl (rfl) (⟨rfl, rfl⟩) (hH)
    | 5, _ =>
      obtain rfl := Option.some.inj ho
      have e4 : f 4 = .int .i64 0 := (hd ⟨4, .data⟩ (by simp) rfl).2.1
      have e3 : f 3 = .bool true := (hd ⟨3, .guard⟩ (by simp) rfl).2.1
      clear hd ho
      have hH : Holds w (hs ++ ([] ++ R)) w1 := hH
      rw [show hs = ((gr, Obj.cells (kv k) 23) :: (gk, Obj.cells (kv k) 23) :: ((w.heap.size + 2), Obj.cells (kv c.1) 23) :: ((w.heap.size + 1), Obj.cells (kv b.1) 23) :: (w.heap.size, Obj.cells (kv a.1) 23) :: []) from hI] at hH
      clear hI
      unfold wpOp
      simp only [e4, e3]
      refine Or.inl ?_
      unfold Oper.wp
      go_simp
      exact OwnBy.mk _ _ _ rfl (rfl) (⟨rfl, rfl⟩) (hH)
    | 6, _ =>
      obtain rfl := Option.some.inj ho
      have e3 : f 3 = .bool true := (hd ⟨3, .guard⟩ (by simp) rfl).2.1
      clear hd ho
      have hH : Holds w (hs ++ ([] ++ R)) w1 := hH
      rw [show hs = ((gr, Obj.cells (kv k) 23) :: (gk, Obj.cells (kv k) 23) :: ((w.heap.size + 2), Obj.cells (kv c.1) 23) :: ((w.heap.size + 1), Obj.cells (kv b.1) 23) :: (w.heap.size, Obj.cells (kv a.1) 23) :: []) from hI] at hH
      clear hI
      unfold wpOp
      simp only [e3]
      refine Or.inl ?_
      unfold Oper.wp
      go_simp
      exact OwnBy.mk _ _ _ rfl (rfl) (⟨rfl, rfl⟩) (hH)
    | 7, _ =>
      obtain rfl := Option.some.inj ho
      have e5 : f 5 = .bool true := (hd ⟨5, .data⟩ (by simp) rfl).2.1
      have e6 : f 6 = .bool true := (hd ⟨6, .data⟩ (by simp) rfl).2.1
      have e3 : f 3 = .bool true := (hd ⟨3, .guard⟩ (by simp) rfl).2.1
      clear hd ho
      have hH : Holds w (hs ++ ([] ++ R)) w1 := hH
      rw [show hs = ((gr, Obj.cells (kv k) 23) :: (gk, Obj.cells (kv k) 23) :: ((w.heap.size + 2), Obj.cells (kv c.1) 23) :: ((w.heap.size + 1), Obj.cells (kv b.1) 23) :: (w.heap.size, Obj.cells (kv a.1) 23) :: []) from hI] at hH
      clear hI
      unfold wpOp
      simp only [e5, e6, e3]
      refine Or.inl ?_
      unfold Oper.wp
      go_simp
      exact OwnBy.mk _ _ _ rfl (rfl) (⟨rfl, rfl⟩) (hH)
    | 8, _ =>
      obtain rfl := Option.some.inj ho
      have e3 : f 3 = .bool true := (hd ⟨3, .data⟩ (by simp) rfl).2.1
      have e7 : f 7 = .bool true := (hd ⟨7, .data⟩ (by simp) rfl).2.1
      clear hd ho
      have hH : Holds w (hs ++ ([] ++ R)) w1 := hH
      rw [show hs = ((gr, Obj.cells (kv k) 23) :: (gk, Obj.cells (kv k) 23) :: ((w.heap.size + 2), Obj.cells (kv c.1) 23) :: ((w.heap.size + 1), Obj.cells (kv b.1) 23) :: (w.heap.size, Obj.cells (kv a.1) 23) :: []) from hI] at hH
      clear hI
      unfold wpOp
      refine Or.inl ?_
      simp only [e3, e7]
      unfold Oper.wp
      go_simp
      exact OwnBy.mk _ _ _ rfl (rfl) (⟨rfl, rfl⟩) (hH)
    | 9, _ =>
      obtain rfl := Option.some.inj ho
      have e8 : f 8 = .bool true := (hd ⟨8, .data⟩ (by simp) rfl).2.1
      clear hd ho
      have hH : Holds w (hs ++ ([] ++ R)) w1 := hH
      rw [show hs = ((gr, Obj.cells (kv k) 23) :: (gk, Obj.cells (kv k) 23) :: ((w.heap.size + 2), Obj.cells (kv c.1) 23) :: ((w.heap.size + 1), Obj.cells (kv b.1) 23) :: (w.heap.size, Obj.cells (kv a.1) 23) :: []) from hI] at hH
      clear hI
      unfold wpOp
      refine Or.inl ?_
      simp only [e8]
      unfold Oper.wp
      go_simp
      exact OwnBy.mk _ _ _ rfl (rfl) (⟨rfl, rfl⟩) (hH)
    | 10, _ =>
      obtain rfl := Option.some.inj ho
      have e9 : f 9 = .bool true := (hd ⟨9, .guard⟩ (by simp) rfl).2.1
      clear hd ho
      have hH : Holds w (hs ++ ([] ++ R)) w1 := hH
      rw [show hs = ((gr, Obj.cells (kv k) 23) :: (gk, Obj.cells (kv k) 23) :: ((w.heap.size + 2), Obj.cells (kv c.1) 23) :: ((w.heap.size + 1), Obj.cells (kv b.1) 23) :: (w.heap.size, Obj.cells (kv a.1) 23) :: []) from hI] at hH
      clear hI
      unfold wpOp
      simp only [e9]
      refine Or.inl ?_
      unfold Oper.wp
      go_simp
      exact OwnBy.mk _ _ _ rfl (rfl) (⟨rfl, rfl⟩) (hH)
    | 11, _ =>
      obtain rfl := Option.some.inj ho
      have e10 : f 10 = .bool true := (hd ⟨10, .data⟩ (by simp) rfl).2.1
      have e9 : f 9 = .bool true := (hd ⟨9, .guard⟩ (by simp) rfl).2.1
      clear hd ho
      have hH : Holds w (hs ++ ([] ++ R)) w1 := hH
      rw [show hs = ((gr, Obj.cells (kv k) 23) :: (gk, Obj.cells (kv k) 23) :: ((w.heap.size + 2), Obj.cells (kv c.1) 23) :: ((w.heap.size + 1), Obj.cells (kv b.1) 23) :: (w.heap.size, Obj.cells (kv a.1) 23) :: []) from hI] at hH
      clear hI
      unfold wpOp
      simp only [e10, e9]
      refine Or.inl ?_
      unfold Oper.wp
      go_simp
      exact OwnBy.mk _ _ _ rfl (rfl) (⟨rfl, rfl⟩) (hH)
    | 12, _ =>
      obtain rfl := Option.some.inj ho
      have e11 : f 11 = .bool true := (hd ⟨11, .guard⟩ (by simp) rfl).2.1
      clear hd ho
      have hH : Holds w (hs ++ ([] ++ R)) w1 := hH
      rw [show hs = ((gr, Obj.cells (kv k) 23) :: (gk, Obj.cells (kv k) 23) :: ((w.heap.size + 2), Obj.cells (kv c.1) 23) :: ((w.heap.size + 1), Obj.cells (kv b.1) 23) :: (w.heap.size, Obj.cells (kv a.1) 23) :: []) from hI] at hH
      clear hI
      unfold wpOp
      simp only [e11]
      refine Eq.mpr (if_neg (fun h => absurd (show false = true from h) (by decide))) ?_
      exact OwnBy.mk undef [] _ rfl (rfl) ⟨rfl, rfl⟩ hH
    | 13, _ =>
      obtain rfl := Option.some.inj ho
      have e11 : f 11 = .bool true := (hd ⟨11, .guard⟩ (by simp) rfl).2.1
      clear hd ho
      have hH : Holds w (hs ++ ([] ++ R)) w1 := hH
      rw [show hs = ((gr, Obj.cells (kv k) 23) :: (gk, Obj.cells (kv k) 23) :: ((w.heap.size + 2), Obj.cells (kv c.1) 23) :: ((w.heap.size + 1), Obj.cells (kv b.1) 23) :: (w.heap.size, Obj.cells (kv a.1) 23) :: []) from hI] at hH
      clear hI
      unfold wpOp
      simp only [e11]
      refine Eq.mpr (if_neg (fun h => absurd (show false = true from h) (by decide))) ?_
      exact OwnBy.mk undef [] _ rfl (rfl) ⟨rfl, rfl⟩ hH
    | 14, _ =>
      obtain rfl := Option.some.inj ho
      have e11 : f 11 = .bool true := (hd ⟨11, .data⟩ (by simp) rfl).2.1
      have e9 : f 9 = .bool true := (hd ⟨9, .guard⟩ (by simp) rfl).2.1
      clear hd ho
      have hH : Holds w (hs ++ ([] ++ R)) w1 := hH
      rw [show hs = ((gr, Obj.cells (kv k) 23) :: (gk, Obj.cells (kv k) 23) :: ((w.heap.size + 2), Obj.cells (kv c.1) 23) :: ((w.heap.size + 1), Obj.cells (kv b.1) 23) :: (w.heap.size, Obj.cells (kv a.1) 23) :: []) from hI] at hH
      clear hI
      unfold wpOp
      simp only [e11, e9]
      refine Or.inl ?_
      unfold Oper.wp
      go_simp
      exact OwnBy.mk _ _ _ rfl (rfl) (⟨rfl, rfl⟩) (hH)
    | 15, _ =>
      obtain rfl := Option.some.inj ho
      have e9 : f 9 = .bool true := (hd ⟨9, .data⟩ (by simp) rfl).2.1
      have e14 : f 14 = .bool true := (hd ⟨14, .data⟩ (by simp) rfl).2.1
      clear hd ho
      have hH : Holds w (hs ++ ([] ++ R)) w1 := hH
      rw [show hs = ((gr, Obj.cells (kv k) 23) :: (gk, Obj.cells (kv k) 23) :: ((w.heap.size + 2), Obj.cells (kv c.1) 23) :: ((w.heap.size + 1), Obj.cells (kv b.1) 23) :: (w.heap.size, Obj.cells (kv a.1) 23) :: []) from hI] at hH
      clear hI
      unfold wpOp
      refine Or.inl ?_
      simp only [e9, e14]
      unfold Oper.wp
      go_simp
      exact OwnBy.mk _ _ _ rfl (rfl) (⟨rfl, rfl⟩) (hH)
    | 16, _ =>
      obtain rfl := Option.some.inj ho
      have e15 : f 15 = .bool true := (hd ⟨15, .data⟩ (by simp) rfl).2.1
      clear hd ho
      have hH : Holds w (hs ++ ([] ++ R)) w1 := hH
      rw [show hs = ((gr, Obj.cells (kv k) 23) :: (gk, Obj.cells (kv k) 23) :: ((w.heap.size + 2), Obj.cells (kv c.1) 23) :: ((w.heap.size + 1), Obj.cells (kv b.1) 23) :: (w.heap.size, Obj.cells (kv a.1) 23) :: []) from hI] at hH
      clear hI
      unfold wpOp
      refine Or.inl ?_
      simp only [e15]
      unfold Oper.wp
      go_simp
      exact OwnBy.mk _ _ _ rfl (rfl) (⟨rfl, rfl⟩) (hH)
    | 17, _ =>
      obtain rfl := Option.some.inj ho
      have e16 : f 16 = .bool true := (hd ⟨16, .guard⟩ (by simp) rfl).2.1
      clear hd ho
      have hH : Holds w (hs ++ ([] ++ R)) w1 := hH
      rw [show hs = ((gr, Obj.cells (kv k) 23) :: (gk, Obj.cells (kv k) 23) :: ((w.heap.size + 2), Obj.cells (kv c.1) 23) :: ((w.heap.size + 1), Obj.cells (kv b.1) 23) :: (w.heap.size, Obj.cells (kv a.1) 23) :: []) from hI] at hH
      clear hI
      unfold wpOp
      simp only [e16]
      refine Or.inl ?_
      unfold Oper.wp
      have hX : Holds w ((w.heap.size, Obj.cells (kv a.1) 23) :: (((gr, Obj.cells (kv k) 23) :: (gk, Obj.cells (kv k) 23) :: ((w.heap.size + 2), Obj.cells (kv c.1) 23) :: ((w.heap.size + 1), Obj.cells (kv b.1) 23) :: []) ++ R)) w1 := hH.perm (by classical rw [List.perm_iff_count]; intro a; simp only [List.count_append, List.count_cons, List.count_nil] <;> omega)
      refine wpK (.tmp 6) ⟨w.heap.size, 0, none⟩ rfl rfl (run_load_key _ _ (row_cells hX.get)) ?_
      exact OwnBy.mk _ _ _ rfl (rfl) (⟨rfl, rfl⟩) (hH)
    | 18, _ =>
      obtain rfl := Option.some.inj ho
      have e17 : f 17 = Value.agg (kv a.1) := (hd ⟨17, .data⟩ (by simp) rfl).2.1
      have e16 : f 16 = .bool true := (hd ⟨16, .guard⟩ (by simp) rfl).2.1
      clear hd ho
      have hH : Holds w (hs ++ ([] ++ R)) w1 := hH
      rw [show hs = ((gr, Obj.cells (kv k) 23) :: (gk, Obj.cells (kv k) 23) :: ((w.heap.size + 2), Obj.cells (kv c.1) 23) :: ((w.heap.size + 1), Obj.cells (kv b.1) 23) :: (w.heap.size, Obj.cells (kv a.1) 23) :: []) from hI] at hH
      clear hI
      unfold wpOp
      simp only [e17, e16]
      refine Or.inl ?_
      unfold Oper.wp
      go_simp
      refine (textK_calls a.1 w1).mono ?_
      rintro e w3 ⟨rfl, hb⟩
      exact OwnBy.mk _ _ _ rfl (rfl) (⟨rfl, rfl⟩) (hH.grow hb)
    | 19, _ =>
      obtain rfl := Option.some.inj ho
      have e16 : f 16 = .bool true := (hd ⟨16, .guard⟩ (by simp) rfl).2.1
      clear hd ho
      have hH : Holds w (hs ++ ([] ++ R)) w1 := hH
      rw [show hs = ((gr, Obj.cells (kv k) 23) :: (gk, Obj.cells (kv k) 23) :: ((w.heap.size + 2), Obj.cells (kv c.1) 23) :: ((w.heap.size + 1), Obj.cells (kv b.1) 23) :: (w.heap.size, Obj.cells (kv a.1) 23) :: []) from hI] at hH
      clear hI
      unfold wpOp
      simp only [e16]
      refine Or.inl ?_
      unfold Oper.wp
      have hX : Holds w ((w.heap.size, Obj.cells (kv a.1) 23) :: (((gr, Obj.cells (kv k) 23) :: (gk, Obj.cells (kv k) 23) :: ((w.heap.size + 2), Obj.cells (kv c.1) 23) :: ((w.heap.size + 1), Obj.cells (kv b.1) 23) :: []) ++ R)) w1 := hH.perm (by classical rw [List.perm_iff_count]; intro a; simp only [List.count_append, List.count_cons, List.count_nil] <;> omega)
      refine wpK (.tmp 6) ⟨w.heap.size, 0, none⟩ rfl rfl (run_load_key _ _ (row_cells hX.get)) ?_
      exact OwnBy.mk _ _ _ rfl (rfl) (⟨rfl, rfl⟩) (hH)
    | 20, _ =>
      obtain rfl := Option.some.inj ho
      have e19 : f 19 = Value.agg (kv a.1) := (hd ⟨19, .data⟩ (by simp) rfl).2.1
      have e16 : f 16 = .bool true := (hd ⟨16, .guard⟩ (by simp) rfl).2.1
      clear hd ho
      have hH : Holds w (hs ++ ([] ++ R)) w1 := hH
      rw [show hs = ((gr, Obj.cells (kv k) 23) :: (gk, Obj.cells (kv k) 23) :: ((w.heap.size + 2), Obj.cells (kv c.1) 23) :: ((w.heap.size + 1), Obj.cells (kv b.1) 23) :: (w.heap.size, Obj.cells (kv a.1) 23) :: []) from hI] at hH
      clear hI
      unfold wpOp
      simp only [e19, e16]
      refine Or.inl ?_
      unfold Oper.wp
      go_simp
      refine (rtext_calls a.1 w1).mono ?_
      rintro e w3 ⟨rfl, hb⟩
      exact OwnBy.mk _ _ _ rfl (rfl) (⟨rfl, rfl⟩) (hH.grow hb)
    | 21, _ =>
      obtain rfl := Option.some.inj ho
      have e18 : f 18 = .string ⟨(txtK a.1).toArray⟩ := (hd ⟨18, .data⟩ (by simp) rfl).2.1
      have e20 : f 20 = .string ⟨(txtK a.1).toArray⟩ := (hd ⟨20, .data⟩ (by simp) rfl).2.1
      have e16 : f 16 = .bool true := (hd ⟨16, .guard⟩ (by simp) rfl).2.1
      clear hd ho
      have hH : Holds w (hs ++ ([] ++ R)) w1 := hH
      rw [show hs = ((gr, Obj.cells (kv k) 23) :: (gk, Obj.cells (kv k) 23) :: ((w.heap.size + 2), Obj.cells (kv c.1) 23) :: ((w.heap.size + 1), Obj.cells (kv b.1) 23) :: (w.heap.size, Obj.cells (kv a.1) 23) :: []) from hI] at hH
      clear hI
      unfold wpOp
      simp only [e18, e20, e16]
      refine Or.inl ?_
      unfold Oper.wp
      go_simp
      exact OwnBy.mk _ _ _ rfl (rfl) (⟨rfl, rfl⟩) (hH)
    | 22, _ =>
      obtain rfl := Option.some.inj ho
      have e16 : f 16 = .bool true := (hd ⟨16, .data⟩ (by simp) rfl).2.1
      have e21 : f 21 = .bool true := (hd ⟨21, .data⟩ (by simp) rfl).2.1
      clear hd ho
      have hH : Holds w (hs ++ ([] ++ R)) w1 := hH
      rw [show hs = ((gr, Obj.cells (kv k) 23) :: (gk, Obj.cells (kv k) 23) :: ((w.heap.size + 2), Obj.cells (kv c.1) 23) :: ((w.heap.size + 1), Obj.cells (kv b.1) 23) :: (w.heap.size, Obj.cells (kv a.1) 23) :: []) from hI] at hH
      clear hI
      unfold wpOp
      refine Or.inl ?_
      simp only [e16, e21]
      unfold Oper.wp
      go_simp
      exact OwnBy.mk _ _ _ rfl (rfl) (⟨rfl, rfl⟩) (hH)
    | 23, _ =>
      obtain rfl := Option.some.inj ho
      have e22 : f 22 = .bool true := (hd ⟨22, .data⟩ (by simp) rfl).2.1
      clear hd ho
      have hH : Holds w (hs ++ ([] ++ R)) w1 := hH
      rw [show hs = ((gr, Obj.cells (kv k) 23) :: (gk, Obj.cells (kv k) 23) :: ((w.heap.size + 2), Obj.cells (kv c.1) 23) :: ((w.heap.size + 1), Obj.cells (kv b.1) 23) :: (w.heap.size, Obj.cells (kv a.1) 23) :: []) from hI] at hH
      clear hI
      unfold wpOp
      refine Or.inl ?_
      simp only [e22]
      unfold Oper.wp
      go_simp
      exact OwnBy.mk _ _ _ rfl (rfl) (⟨rfl, rfl⟩) (hH)
    | 24, _ =>
      obtain rfl := Option.some.inj ho
      have e23 : f 23 = .bool true := (hd ⟨23, .guard⟩ (by simp) rfl).2.1
      clear hd ho
      have hH : Holds w (hs ++ ([] ++ R)) w1 := hH
      rw [show hs = ((gr, Obj.cells (kv k) 23) :: (gk, Obj.cells (kv k) 23) :: ((w.heap.size + 2), Obj.cells (kv c.1) 23) :: ((w.heap.size + 1), Obj.cells (kv b.1) 23) :: (w.heap.size, Obj.cells (kv a.1) 23) :: []) from hI] at hH
      clear hI
      unfold wpOp
      simp only [e23]
      refine Or.inl ?_
      unfold Oper.wp
      have hX : Holds w ((w.heap.size, Obj.cells (kv a.1) 23) :: (((gr, Obj.cells (kv k) 23) :: (gk, Obj.cells (kv k) 23) :: ((w.heap.size + 2), Obj.cells (kv c.1) 23) :: ((w.heap.size + 1), Obj.cells (kv b.1) 23) :: []) ++ R)) w1 := hH.perm (by classical rw [List.perm_iff_count]; intro a; simp only [List.count_append, List.count_cons, List.count_nil] <;> omega)
      refine wpK (.tmp 6) ⟨w.heap.size, 0, none⟩ rfl rfl (run_load_key _ _ (row_cells hX.get)) ?_
      exact OwnBy.mk _ _ _ rfl (rfl) (⟨rfl, rfl⟩) (hH)
    | 25, _ =>
      obtain rfl := Option.some.inj ho
      have e24 : f 24 = Value.agg (kv a.1) := (hd ⟨24, .data⟩ (by simp) rfl).2.1
      have e23 : f 23 = .bool true := (hd ⟨23, .guard⟩ (by simp) rfl).2.1
      clear hd ho
      have hH : Holds w (hs ++ ([] ++ R)) w1 := hH
      rw [show hs = ((gr, Obj.cells (kv k) 23) :: (gk, Obj.cells (kv k) 23) :: ((w.heap.size + 2), Obj.cells (kv c.1) 23) :: ((w.heap.size + 1), Obj.cells (kv b.1) 23) :: (w.heap.size, Obj.cells (kv a.1) 23) :: []) from hI] at hH
      clear hI
      unfold wpOp
      simp only [e24, e23]
      refine Or.inl ?_
      unfold Oper.wp
      go_simp
      refine (good_calls a.1 w1).mono ?_
      rintro e w3 ⟨rfl, hb⟩
      exact OwnBy.mk _ _ _ rfl (rfl) (⟨rfl, rfl⟩) (hH.grow hb)
    | 26, _ =>
      obtain rfl := Option.some.inj ho
      have e23 : f 23 = .bool true := (hd ⟨23, .guard⟩ (by simp) rfl).2.1
      clear hd ho
      have hH : Holds w (hs ++ ([] ++ R)) w1 := hH
      rw [show hs = ((gr, Obj.cells (kv k) 23) :: (gk, Obj.cells (kv k) 23) :: ((w.heap.size + 2), Obj.cells (kv c.1) 23) :: ((w.heap.size + 1), Obj.cells (kv b.1) 23) :: (w.heap.size, Obj.cells (kv a.1) 23) :: []) from hI] at hH
      clear hI
      unfold wpOp
      simp only [e23]
      refine Or.inl ?_
      unfold Oper.wp
      have hX : Holds w ((w.heap.size, Obj.cells (kv a.1) 23) :: (((gr, Obj.cells (kv k) 23) :: (gk, Obj.cells (kv k) 23) :: ((w.heap.size + 2), Obj.cells (kv c.1) 23) :: ((w.heap.size + 1), Obj.cells (kv b.1) 23) :: []) ++ R)) w1 := hH.perm (by classical rw [List.perm_iff_count]; intro a; simp only [List.count_append, List.count_cons, List.count_nil] <;> omega)
      refine wpK (.tmp 6) ⟨w.heap.size, 0, none⟩ rfl rfl (run_load_key _ _ (row_cells hX.get)) ?_
      exact OwnBy.mk _ _ _ rfl (rfl) (⟨rfl, rfl⟩) (hH)
    | 27, _ =>
      obtain rfl := Option.some.inj ho
      have e26 : f 26 = Value.agg (kv a.1) := (hd ⟨26, .data⟩ (by simp) rfl).2.1
      have e23 : f 23 = .bool true := (hd ⟨23, .guard⟩ (by simp) rfl).2.1
      clear hd ho
      have hH : Holds w (hs ++ ([] ++ R)) w1 := hH
      rw [show hs = ((gr, Obj.cells (kv k) 23) :: (gk, Obj.cells (kv k) 23) :: ((w.heap.size + 2), Obj.cells (kv c.1) 23) :: ((w.heap.size + 1), Obj.cells (kv b.1) 23) :: (w.heap.size, Obj.cells (kv a.1) 23) :: []) from hI] at hH
      clear hI
      unfold wpOp
      simp only [e26, e23]
      refine Or.inl ?_
      unfold Oper.wp
      go_simp
      refine (rgood_calls a.1 w1).mono ?_
      rintro e w3 ⟨rfl, hb⟩
      exact OwnBy.mk _ _ _ rfl (rfl) (⟨rfl, rfl⟩) (hH.grow hb)
    | 28, _ =>
      obtain rfl := Option.some.inj ho
      have e25 : f 25 = .bool (goodB a.1) := (hd ⟨25, .data⟩ (by simp) rfl).2.1
      have e27 : f 27 = .bool (goodB a.1) := (hd ⟨27, .data⟩ (by simp) rfl).2.1
      have e23 : f 23 = .bool true := (hd ⟨23, .guard⟩ (by simp) rfl).2.1
      clear hd ho
      have hH : Holds w (hs ++ ([] ++ R)) w1 := hH
      rw [show hs = ((gr, Obj.cells (kv k) 23) :: (gk, Obj.cells (kv k) 23) :: ((w.heap.size + 2), Obj.cells (kv c.1) 23) :: ((w.heap.size + 1), Obj.cells (kv b.1) 23) :: (w.heap.size, Obj.cells (kv a.1) 23) :: []) from hI] at hH
      clear hI
      unfold wpOp
      simp only [e25, e27, e23]
      refine Or.inl ?_
      unfold Oper.wp
      go_simp
      exact OwnBy.mk _ _ _ rfl (rfl) (⟨rfl, rfl⟩) (hH)
    | 29, _ =>
      obtain rfl := Option.some.inj ho
      have e23 : f 23 = .bool true := (hd ⟨23, .data⟩ (by simp) rfl).2.1
      have e28 : f 28 = .bool true := (hd ⟨28, .data⟩ (by simp) rfl).2.1
      clear hd ho
      have hH : Holds w (hs ++ ([] ++ R)) w1 := hH
      rw [show hs = ((gr, Obj.cells (kv k) 23) :: (gk, Obj.cells (kv k) 23) :: ((w.heap.size + 2), Obj.cells (kv c.1) 23) :: ((w.heap.size + 1), Obj.cells (kv b.1) 23) :: (w.heap.size, Obj.cells (kv a.1) 23) :: []) from hI] at hH
      clear hI
      unfold wpOp
      refine Or.inl ?_
      simp only [e23, e28]
      unfold Oper.wp
      go_simp
      exact OwnBy.mk _ _ _ rfl (rfl) (⟨rfl, rfl⟩) (hH)
    | 30, _ =>
      obtain rfl := Option.some.inj ho
      have e29 : f 29 = .bool true := (hd ⟨29, .data⟩ (by simp) rfl).2.1
      clear hd ho
      have hH : Holds w (hs ++ ([] ++ R)) w1 := hH
      rw [show hs = ((gr, Obj.cells (kv k) 23) :: (gk, Obj.cells (kv k) 23) :: ((w.heap.size + 2), Obj.cells (kv c.1) 23) :: ((w.heap.size + 1), Obj.cells (kv b.1) 23) :: (w.heap.size, Obj.cells (kv a.1) 23) :: []) from hI] at hH
      clear hI
      unfold wpOp
      refine Or.inl ?_
      simp only [e29]
      unfold Oper.wp
      go_simp
      exact OwnBy.mk _ _ _ rfl (rfl) (⟨rfl, rfl⟩) (hH)
    | 31, _ =>
      obtain rfl := Option.some.inj ho
      have e30 : f 30 = .bool true := (hd ⟨30, .guard⟩ (by simp) rfl).2.1
      clear hd ho
      have hH : Holds w (hs ++ ([] ++ R)) w1 := hH
      rw [show hs = ((gr, Obj.cells (kv k) 23) :: (gk, Obj.cells (kv k) 23) :: ((w.heap.size + 2), Obj.cells (kv c.1) 23) :: ((w.heap.size + 1), Obj.cells (kv b.1) 23) :: (w.heap.size, Obj.cells (kv a.1) 23) :: []) from hI] at hH
      clear hI
      unfold wpOp
      simp only [e30]
      refine Or.inl ?_
      unfold Oper.wp
      have hX : Holds w ((w.heap.size, Obj.cells (kv a.1) 23) :: (((gr, Obj.cells (kv k) 23) :: (gk, Obj.cells (kv k) 23) :: ((w.heap.size + 2), Obj.cells (kv c.1) 23) :: ((w.heap.size + 1), Obj.cells (kv b.1) 23) :: []) ++ R)) w1 := hH.perm (by classical rw [List.perm_iff_count]; intro a; simp only [List.count_append, List.count_cons, List.count_nil] <;> omega)
      refine wpK (.tmp 6) ⟨w.heap.size, 0, none⟩ rfl rfl (run_load_key _ _ (row_cells hX.get)) ?_
      exact OwnBy.mk _ _ _ rfl (rfl) (⟨rfl, rfl⟩) (hH)
    | 32, _ =>
      obtain rfl := Option.some.inj ho
      have e30 : f 30 = .bool true := (hd ⟨30, .guard⟩ (by simp) rfl).2.1
      clear hd ho
      have hH : Holds w (hs ++ ([] ++ R)) w1 := hH
      rw [show hs = ((gr, Obj.cells (kv k) 23) :: (gk, Obj.cells (kv k) 23) :: ((w.heap.size + 2), Obj.cells (kv c.1) 23) :: ((w.heap.size + 1), Obj.cells (kv b.1) 23) :: (w.heap.size, Obj.cells (kv a.1) 23) :: []) from hI] at hH
      clear hI
      unfold wpOp
      simp only [e30]
      refine Or.inl ?_
      unfold Oper.wp
      have hX : Holds w (((w.heap.size + 1), Obj.cells (kv b.1) 23) :: (((gr, Obj.cells (kv k) 23) :: (gk, Obj.cells (kv k) 23) :: ((w.heap.size + 2), Obj.cells (kv c.1) 23) :: (w.heap.size, Obj.cells (kv a.1) 23) :: []) ++ R)) w1 := hH.perm (by classical rw [List.perm_iff_count]; intro a; simp only [List.count_append, List.count_cons, List.count_nil] <;> omega)
      refine wpK (.tmp 7) ⟨(w.heap.size + 1), 0, none⟩ rfl rfl (run_load_key _ _ (row_cells hX.get)) ?_
      exact OwnBy.mk _ _ _ rfl (rfl) (⟨rfl, rfl⟩) (hH)
    | 33, _ =>
      obtain rfl := Option.some.inj ho
      have e31 : f 31 = Value.agg (kv a.1) := (hd ⟨31, .data⟩ (by simp) rfl).2.1
      have e32 : f 32 = Value.agg (kv b.1) := (hd ⟨32, .data⟩ (by simp) rfl).2.1
      have e30 : f 30 = .bool true := (hd ⟨30, .guard⟩ (by simp) rfl).2.1
      clear hd ho
      have hH : Holds w (hs ++ ([] ++ R)) w1 := hH
      rw [show hs = ((gr, Obj.cells (kv k) 23) :: (gk, Obj.cells (kv k) 23) :: ((w.heap.size + 2), Obj.cells (kv c.1) 23) :: ((w.heap.size + 1), Obj.cells (kv b.1) 23) :: (w.heap.size, Obj.cells (kv a.1) 23) :: []) from hI] at hH
      clear hI
      unfold wpOp
      simp only [e31, e32, e30]
      refine Or.inl ?_
      unfold Oper.wp
      go_simp
      refine (cmpK_calls a.1 b.1 w1).mono ?_
      rintro e w3 ⟨rfl, hb⟩
      exact OwnBy.mk _ _ _ rfl (rfl) (⟨rfl, rfl⟩) (hH.grow hb)
    | 34, _ =>
      obtain rfl := Option.some.inj ho
      have e30 : f 30 = .bool true := (hd ⟨30, .guard⟩ (by simp) rfl).2.1
      clear hd ho
      have hH : Holds w (hs ++ ([] ++ R)) w1 := hH
      rw [show hs = ((gr, Obj.cells (kv k) 23) :: (gk, Obj.cells (kv k) 23) :: ((w.heap.size + 2), Obj.cells (kv c.1) 23) :: ((w.heap.size + 1), Obj.cells (kv b.1) 23) :: (w.heap.size, Obj.cells (kv a.1) 23) :: []) from hI] at hH
      clear hI
      unfold wpOp
      simp only [e30]
      refine Or.inl ?_
      unfold Oper.wp
      have hX : Holds w ((w.heap.size, Obj.cells (kv a.1) 23) :: (((gr, Obj.cells (kv k) 23) :: (gk, Obj.cells (kv k) 23) :: ((w.heap.size + 2), Obj.cells (kv c.1) 23) :: ((w.heap.size + 1), Obj.cells (kv b.1) 23) :: []) ++ R)) w1 := hH.perm (by classical rw [List.perm_iff_count]; intro a; simp only [List.count_append, List.count_cons, List.count_nil] <;> omega)
      refine wpK (.tmp 6) ⟨w.heap.size, 0, none⟩ rfl rfl (run_load_key _ _ (row_cells hX.get)) ?_
      exact OwnBy.mk _ _ _ rfl (rfl) (⟨rfl, rfl⟩) (hH)
    | 35, _ =>
      obtain rfl := Option.some.inj ho
      have e30 : f 30 = .bool true := (hd ⟨30, .guard⟩ (by simp) rfl).2.1
      clear hd ho
      have hH : Holds w (hs ++ ([] ++ R)) w1 := hH
      rw [show hs = ((gr, Obj.cells (kv k) 23) :: (gk, Obj.cells (kv k) 23) :: ((w.heap.size + 2), Obj.cells (kv c.1) 23) :: ((w.heap.size + 1), Obj.cells (kv b.1) 23) :: (w.heap.size, Obj.cells (kv a.1) 23) :: []) from hI] at hH
      clear hI
      unfold wpOp
      simp only [e30]
      refine Or.inl ?_
      unfold Oper.wp
      have hX : Holds w (((w.heap.size + 1), Obj.cells (kv b.1) 23) :: (((gr, Obj.cells (kv k) 23) :: (gk, Obj.cells (kv k) 23) :: ((w.heap.size + 2), Obj.cells (kv c.1) 23) :: (w.heap.size, Obj.cells (kv a.1) 23) :: []) ++ R)) w1 := hH.perm (by classical rw [List.perm_iff_count]; intro a; simp only [List.count_append, List.count_cons, List.count_nil] <;> omega)
      refine wpK (.tmp 7) ⟨(w.heap.size + 1), 0, none⟩ rfl rfl (run_load_key _ _ (row_cells hX.get)) ?_
      exact OwnBy.mk _ _ _ rfl (rfl) (⟨rfl, rfl⟩) (hH)
    | 36, _ =>
      obtain rfl := Option.some.inj ho
      have e34 : f 34 = Value.agg (kv a.1) := (hd ⟨34, .data⟩ (by simp) rfl).2.1
      have e35 : f 35 = Value.agg (kv b.1) := (hd ⟨35, .data⟩ (by simp) rfl).2.1
      have e30 : f 30 = .bool true := (hd ⟨30, .guard⟩ (by simp) rfl).2.1
      clear hd ho
      have hH : Holds w (hs ++ ([] ++ R)) w1 := hH
      rw [show hs = ((gr, Obj.cells (kv k) 23) :: (gk, Obj.cells (kv k) 23) :: ((w.heap.size + 2), Obj.cells (kv c.1) 23) :: ((w.heap.size + 1), Obj.cells (kv b.1) 23) :: (w.heap.size, Obj.cells (kv a.1) 23) :: []) from hI] at hH
      clear hI
      unfold wpOp
      simp only [e34, e35, e30]
      refine Or.inl ?_
      unfold Oper.wp
      go_simp
      refine (rcmp_calls a.1 b.1 w1).mono ?_
      rintro e w3 ⟨rfl, hb⟩
      exact OwnBy.mk _ _ _ rfl (rfl) (⟨rfl, rfl⟩) (hH.grow hb)
    | 37, _ =>
      obtain rfl := Option.some.inj ho
      have e33 : f 33 = .int .i64 (cmpK a.1 b.1) := (hd ⟨33, .data⟩ (by simp) rfl).2.1
      have e36 : f 36 = .int .i64 (cmpK a.1 b.1) := (hd ⟨36, .data⟩ (by simp) rfl).2.1
      have e30 : f 30 = .bool true := (hd ⟨30, .guard⟩ (by simp) rfl).2.1
      clear hd ho
      have hH : Holds w (hs ++ ([] ++ R)) w1 := hH
      rw [show hs = ((gr, Obj.cells (kv k) 23) :: (gk, Obj.cells (kv k) 23) :: ((w.heap.size + 2), Obj.cells (kv c.1) 23) :: ((w.heap.size + 1), Obj.cells (kv b.1) 23) :: (w.heap.size, Obj.cells (kv a.1) 23) :: []) from hI] at hH
      clear hI
      unfold wpOp
      simp only [e33, e36, e30]
      refine Or.inl ?_
      unfold Oper.wp
      go_simp
      exact OwnBy.mk _ _ _ rfl (rfl) (⟨rfl, rfl⟩) (hH)
    | 38, _ =>
      obtain rfl := Option.some.inj ho
      have e30 : f 30 = .bool true := (hd ⟨30, .data⟩ (by simp) rfl).2.1
      have e37 : f 37 = .bool true := (hd ⟨37, .data⟩ (by simp) rfl).2.1
      clear hd ho
      have hH : Holds w (hs ++ ([] ++ R)) w1 := hH
      rw [show hs = ((gr, Obj.cells (kv k) 23) :: (gk, Obj.cells (kv k) 23) :: ((w.heap.size + 2), Obj.cells (kv c.1) 23) :: ((w.heap.size + 1), Obj.cells (kv b.1) 23) :: (w.heap.size, Obj.cells (kv a.1) 23) :: []) from hI] at hH
      clear hI
      unfold wpOp
      refine Or.inl ?_
      simp only [e30, e37]
      unfold Oper.wp
      go_simp
      exact OwnBy.mk _ _ _ rfl (rfl) (⟨rfl, rfl⟩) (hH)
    | 39, _ =>
      obtain rfl := Option.some.inj ho
      have e38 : f 38 = .bool true := (hd ⟨38, .data⟩ (by simp) rfl).2.1
      clear hd ho
      have hH : Holds w (hs ++ ([] ++ R)) w1 := hH
      rw [show hs = ((gr, Obj.cells (kv k) 23) :: (gk, Obj.cells (kv k) 23) :: ((w.heap.size + 2), Obj.cells (kv c.1) 23) :: ((w.heap.size + 1), Obj.cells (kv b.1) 23) :: (w.heap.size, Obj.cells (kv a.1) 23) :: []) from hI] at hH
      clear hI
      unfold wpOp
      refine Or.inl ?_
      simp only [e38]
      unfold Oper.wp
      go_simp
      exact OwnBy.mk _ _ _ rfl (rfl) (⟨rfl, rfl⟩) (hH)
    | 40, _ =>
      obtain rfl := Option.some.inj ho
      have e39 : f 39 = .bool true := (hd ⟨39, .guard⟩ (by simp) rfl).2.1
      clear hd ho
      have hH : Holds w (hs ++ ([] ++ R)) w1 := hH
      rw [show hs = ((gr, Obj.cells (kv k) 23) :: (gk, Obj.cells (kv k) 23) :: ((w.heap.size + 2), Obj.cells (kv c.1) 23) :: ((w.heap.size + 1), Obj.cells (kv b.1) 23) :: (w.heap.size, Obj.cells (kv a.1) 23) :: []) from hI] at hH
      clear hI
      unfold wpOp
      simp only [e39]
      refine Or.inl ?_
      unfold Oper.wp
      have hX : Holds w ((w.heap.size, Obj.cells (kv a.1) 23) :: (((gr, Obj.cells (kv k) 23) :: (gk, Obj.cells (kv k) 23) :: ((w.heap.size + 2), Obj.cells (kv c.1) 23) :: ((w.heap.size + 1), Obj.cells (kv b.1) 23) :: []) ++ R)) w1 := hH.perm (by classical rw [List.perm_iff_count]; intro a; simp only [List.count_append, List.count_cons, List.count_nil] <;> omega)
      refine wpK (.tmp 6) ⟨w.heap.size, 0, none⟩ rfl rfl (run_load_key _ _ (row_cells hX.get)) ?_
      exact OwnBy.mk _ _ _ rfl (rfl) (⟨rfl, rfl⟩) (hH)
    | 41, _ =>
      obtain rfl := Option.some.inj ho
      have e39 : f 39 = .bool true := (hd ⟨39, .guard⟩ (by simp) rfl).2.1
      clear hd ho
      have hH : Holds w (hs ++ ([] ++ R)) w1 := hH
      rw [show hs = ((gr, Obj.cells (kv k) 23) :: (gk, Obj.cells (kv k) 23) :: ((w.heap.size + 2), Obj.cells (kv c.1) 23) :: ((w.heap.size + 1), Obj.cells (kv b.1) 23) :: (w.heap.size, Obj.cells (kv a.1) 23) :: []) from hI] at hH
      clear hI
      unfold wpOp
      simp only [e39]
      refine Or.inl ?_
      unfold Oper.wp
      have hX : Holds w (((w.heap.size + 1), Obj.cells (kv b.1) 23) :: (((gr, Obj.cells (kv k) 23) :: (gk, Obj.cells (kv k) 23) :: ((w.heap.size + 2), Obj.cells (kv c.1) 23) :: (w.heap.size, Obj.cells (kv a.1) 23) :: []) ++ R)) w1 := hH.perm (by classical rw [List.perm_iff_count]; intro a; simp only [List.count_append, List.count_cons, List.count_nil] <;> omega)
      refine wpK (.tmp 7) ⟨(w.heap.size + 1), 0, none⟩ rfl rfl (run_load_key _ _ (row_cells hX.get)) ?_
      exact OwnBy.mk _ _ _ rfl (rfl) (⟨rfl, rfl⟩) (hH)
    | 42, _ =>
      obtain rfl := Option.some.inj ho
      have e39 : f 39 = .bool true := (hd ⟨39, .guard⟩ (by simp) rfl).2.1
      clear hd ho
      have hH : Holds w (hs ++ ([] ++ R)) w1 := hH
      rw [show hs = ((gr, Obj.cells (kv k) 23) :: (gk, Obj.cells (kv k) 23) :: ((w.heap.size + 2), Obj.cells (kv c.1) 23) :: ((w.heap.size + 1), Obj.cells (kv b.1) 23) :: (w.heap.size, Obj.cells (kv a.1) 23) :: []) from hI] at hH
      clear hI
      unfold wpOp
      simp only [e39]
      refine Or.inl ?_
      unfold Oper.wp
      have hX : Holds w (((w.heap.size + 2), Obj.cells (kv c.1) 23) :: (((gr, Obj.cells (kv k) 23) :: (gk, Obj.cells (kv k) 23) :: ((w.heap.size + 1), Obj.cells (kv b.1) 23) :: (w.heap.size, Obj.cells (kv a.1) 23) :: []) ++ R)) w1 := hH.perm (by classical rw [List.perm_iff_count]; intro a; simp only [List.count_append, List.count_cons, List.count_nil] <;> omega)
      refine wpK (.tmp 8) ⟨(w.heap.size + 2), 0, none⟩ rfl rfl (run_load_key _ _ (row_cells hX.get)) ?_
      exact OwnBy.mk _ _ _ rfl (rfl) (⟨rfl, rfl⟩) (hH)
    | 43, _ =>
      obtain rfl := Option.some.inj ho
      have e40 : f 40 = Value.agg (kv a.1) := (hd ⟨40, .data⟩ (by simp) rfl).2.1
      have e41 : f 41 = Value.agg (kv b.1) := (hd ⟨41, .data⟩ (by simp) rfl).2.1
      have e42 : f 42 = Value.agg (kv c.1) := (hd ⟨42, .data⟩ (by simp) rfl).2.1
      have e39 : f 39 = .bool true := (hd ⟨39, .guard⟩ (by simp) rfl).2.1
      clear hd ho
      have hH : Holds w (hs ++ ([] ++ R)) w1 := hH
      rw [show hs = ((gr, Obj.cells (kv k) 23) :: (gk, Obj.cells (kv k) 23) :: ((w.heap.size + 2), Obj.cells (kv c.1) 23) :: ((w.heap.size + 1), Obj.cells (kv b.1) 23) :: (w.heap.size, Obj.cells (kv a.1) 23) :: []) from hI] at hH
      clear hI
      unfold wpOp
      simp only [e40, e41, e42, e39]
      refine Or.inl ?_
      unfold Oper.wp
      go_simp
      refine (within_calls a.1 b.1 c.1 w1).mono ?_
      rintro e w3 ⟨rfl, hb⟩
      exact OwnBy.mk _ _ _ rfl (rfl) (⟨rfl, rfl⟩) (hH.grow hb)
    | 44, _ =>
      obtain rfl := Option.some.inj ho
      have e39 : f 39 = .bool true := (hd ⟨39, .guard⟩ (by simp) rfl).2.1
      clear hd ho
      have hH : Holds w (hs ++ ([] ++ R)) w1 := hH
      rw [show hs = ((gr, Obj.cells (kv k) 23) :: (gk, Obj.cells (kv k) 23) :: ((w.heap.size + 2), Obj.cells (kv c.1) 23) :: ((w.heap.size + 1), Obj.cells (kv b.1) 23) :: (w.heap.size, Obj.cells (kv a.1) 23) :: []) from hI] at hH
      clear hI
      unfold wpOp
      simp only [e39]
      refine Or.inl ?_
      unfold Oper.wp
      have hX : Holds w ((w.heap.size, Obj.cells (kv a.1) 23) :: (((gr, Obj.cells (kv k) 23) :: (gk, Obj.cells (kv k) 23) :: ((w.heap.size + 2), Obj.cells (kv c.1) 23) :: ((w.heap.size + 1), Obj.cells (kv b.1) 23) :: []) ++ R)) w1 := hH.perm (by classical rw [List.perm_iff_count]; intro a; simp only [List.count_append, List.count_cons, List.count_nil] <;> omega)
      refine wpK (.tmp 6) ⟨w.heap.size, 0, none⟩ rfl rfl (run_load_key _ _ (row_cells hX.get)) ?_
      exact OwnBy.mk _ _ _ rfl (rfl) (⟨rfl, rfl⟩) (hH)
    | 45, _ =>
      obtain rfl := Option.some.inj ho
      have e39 : f 39 = .bool true := (hd ⟨39, .guard⟩ (by simp) rfl).2.1
      clear hd ho
      have hH : Holds w (hs ++ ([] ++ R)) w1 := hH
      rw [show hs = ((gr, Obj.cells (kv k) 23) :: (gk, Obj.cells (kv k) 23) :: ((w.heap.size + 2), Obj.cells (kv c.1) 23) :: ((w.heap.size + 1), Obj.cells (kv b.1) 23) :: (w.heap.size, Obj.cells (kv a.1) 23) :: []) from hI] at hH
      clear hI
      unfold wpOp
      simp only [e39]
      refine Or.inl ?_
      unfold Oper.wp
      have hX : Holds w (((w.heap.size + 1), Obj.cells (kv b.1) 23) :: (((gr, Obj.cells (kv k) 23) :: (gk, Obj.cells (kv k) 23) :: ((w.heap.size + 2), Obj.cells (kv c.1) 23) :: (w.heap.size, Obj.cells (kv a.1) 23) :: []) ++ R)) w1 := hH.perm (by classical rw [List.perm_iff_count]; intro a; simp only [List.count_append, List.count_cons, List.count_nil] <;> omega)
      refine wpK (.tmp 7) ⟨(w.heap.size + 1), 0, none⟩ rfl rfl (run_load_key _ _ (row_cells hX.get)) ?_
      exact OwnBy.mk _ _ _ rfl (rfl) (⟨rfl, rfl⟩) (hH)
    | 46, _ =>
      obtain rfl := Option.some.inj ho
      have e39 : f 39 = .bool true := (hd ⟨39, .guard⟩ (by simp) rfl).2.1
      clear hd ho
      have hH : Holds w (hs ++ ([] ++ R)) w1 := hH
      rw [show hs = ((gr, Obj.cells (kv k) 23) :: (gk, Obj.cells (kv k) 23) :: ((w.heap.size + 2), Obj.cells (kv c.1) 23) :: ((w.heap.size + 1), Obj.cells (kv b.1) 23) :: (w.heap.size, Obj.cells (kv a.1) 23) :: []) from hI] at hH
      clear hI
      unfold wpOp
      simp only [e39]
      refine Or.inl ?_
      unfold Oper.wp
      have hX : Holds w (((w.heap.size + 2), Obj.cells (kv c.1) 23) :: (((gr, Obj.cells (kv k) 23) :: (gk, Obj.cells (kv k) 23) :: ((w.heap.size + 1), Obj.cells (kv b.1) 23) :: (w.heap.size, Obj.cells (kv a.1) 23) :: []) ++ R)) w1 := hH.perm (by classical rw [List.perm_iff_count]; intro a; simp only [List.count_append, List.count_cons, List.count_nil] <;> omega)
      refine wpK (.tmp 8) ⟨(w.heap.size + 2), 0, none⟩ rfl rfl (run_load_key _ _ (row_cells hX.get)) ?_
      exact OwnBy.mk _ _ _ rfl (rfl) (⟨rfl, rfl⟩) (hH)
    | 47, _ =>
      obtain rfl := Option.some.inj ho
      have e44 : f 44 = Value.agg (kv a.1) := (hd ⟨44, .data⟩ (by simp) rfl).2.1
      have e45 : f 45 = Value.agg (kv b.1) := (hd ⟨45, .data⟩ (by simp) rfl).2.1
      have e46 : f 46 = Value.agg (kv c.1) := (hd ⟨46, .data⟩ (by simp) rfl).2.1
      have e39 : f 39 = .bool true := (hd ⟨39, .guard⟩ (by simp) rfl).2.1
      clear hd ho
      have hH : Holds w (hs ++ ([] ++ R)) w1 := hH
      rw [show hs = ((gr, Obj.cells (kv k) 23) :: (gk, Obj.cells (kv k) 23) :: ((w.heap.size + 2), Obj.cells (kv c.1) 23) :: ((w.heap.size + 1), Obj.cells (kv b.1) 23) :: (w.heap.size, Obj.cells (kv a.1) 23) :: []) from hI] at hH
      clear hI
      unfold wpOp
      simp only [e44, e45, e46, e39]
      refine Or.inl ?_
      unfold Oper.wp
      go_simp
      refine (rwithin_calls a.1 b.1 c.1 w1).mono ?_
      rintro e w3 ⟨rfl, hb⟩
      exact OwnBy.mk _ _ _ rfl (rfl) (⟨rfl, rfl⟩) (hH.grow hb)
    | 48, _ =>
      obtain rfl := Option.some.inj ho
      have e43 : f 43 = .bool (withinB a.1 b.1 c.1) := (hd ⟨43, .data⟩ (by simp) rfl).2.1
      have e47 : f 47 = .bool (withinB a.1 b.1 c.1) := (hd ⟨47, .data⟩ (by simp) rfl).2.1
      have e39 : f 39 = .bool true := (hd ⟨39, .guard⟩ (by simp) rfl).2.1
      clear hd ho
      have hH : Holds w (hs ++ ([] ++ R)) w1 := hH
      rw [show hs = ((gr, Obj.cells (kv k) 23) :: (gk, Obj.cells (kv k) 23) :: ((w.heap.size + 2), Obj.cells (kv c.1) 23) :: ((w.heap.size + 1), Obj.cells (kv b.1) 23) :: (w.heap.size, Obj.cells (kv a.1) 23) :: []) from hI] at hH
      clear hI
      unfold wpOp
      simp only [e43, e47, e39]
      refine Or.inl ?_
      unfold Oper.wp
      go_simp
      exact OwnBy.mk _ _ _ rfl (rfl) (⟨rfl, rfl⟩) (hH)
    | 49, _ =>
      obtain rfl := Option.some.inj ho
      have e39 : f 39 = .bool true := (hd ⟨39, .data⟩ (by simp) rfl).2.1
      have e48 : f 48 = .bool true := (hd ⟨48, .data⟩ (by simp) rfl).2.1
      clear hd ho
      have hH : Holds w (hs ++ ([] ++ R)) w1 := hH
      rw [show hs = ((gr, Obj.cells (kv k) 23) :: (gk, Obj.cells (kv k) 23) :: ((w.heap.size + 2), Obj.cells (kv c.1) 23) :: ((w.heap.size + 1), Obj.cells (kv b.1) 23) :: (w.heap.size, Obj.cells (kv a.1) 23) :: []) from hI] at hH
      clear hI
      unfold wpOp
      refine Or.inl ?_
      simp only [e39, e48]
      unfold Oper.wp
      go_simp
      exact OwnBy.mk _ _ _ rfl (rfl) (⟨rfl, rfl⟩) (hH)
    | 50, _ =>
      obtain rfl := Option.some.inj ho
      have e49 : f 49 = .bool true := (hd ⟨49, .data⟩ (by simp) rfl).2.1
      clear hd ho
      have hH : Holds w (hs ++ ([] ++ R)) w1 := hH
      rw [show hs = ((gr, Obj.cells (kv k) 23) :: (gk, Obj.cells (kv k) 23) :: ((w.heap.size + 2), Obj.cells (kv c.1) 23) :: ((w.heap.size + 1), Obj.cells (kv b.1) 23) :: (w.heap.size, Obj.cells (kv a.1) 23) :: []) from hI] at hH
      clear hI
      unfold wpOp
      refine Or.inl ?_
      simp only [e49]
      unfold Oper.wp
      go_simp
      exact OwnBy.mk _ _ _ rfl (rfl) (⟨rfl, rfl⟩) (hH)
    | 51, _ =>
      obtain rfl := Option.some.inj ho
      have e50 : f 50 = .bool true := (hd ⟨50, .guard⟩ (by simp) rfl).2.1
      clear hd ho
      have hH : Holds w (hs ++ ([] ++ R)) w1 := hH
      rw [show hs = ((gr, Obj.cells (kv k) 23) :: (gk, Obj.cells (kv k) 23) :: ((w.heap.size + 2), Obj.cells (kv c.1) 23) :: ((w.heap.size + 1), Obj.cells (kv b.1) 23) :: (w.heap.size, Obj.cells (kv a.1) 23) :: []) from hI] at hH
      clear hI
      unfold wpOp
      simp only [e50]
      refine Or.inl ?_
      unfold Oper.wp
      have hX : Holds w ((w.heap.size, Obj.cells (kv a.1) 23) :: (((gr, Obj.cells (kv k) 23) :: (gk, Obj.cells (kv k) 23) :: ((w.heap.size + 2), Obj.cells (kv c.1) 23) :: ((w.heap.size + 1), Obj.cells (kv b.1) 23) :: []) ++ R)) w1 := hH.perm (by classical rw [List.perm_iff_count]; intro a; simp only [List.count_append, List.count_cons, List.count_nil] <;> omega)
      refine wpK (.tmp 6) ⟨w.heap.size, 0, none⟩ rfl rfl (run_load_key _ _ (row_cells hX.get)) ?_
      exact OwnBy.mk _ _ _ rfl (rfl) (⟨rfl, rfl⟩) (hH)
    | 52, _ =>
      obtain rfl := Option.some.inj ho
      have e51 : f 51 = Value.agg (kv a.1) := (hd ⟨51, .data⟩ (by simp) rfl).2.1
      have e50 : f 50 = .bool true := (hd ⟨50, .guard⟩ (by simp) rfl).2.1
      clear hd ho
      have hH : Holds w (hs ++ ([] ++ R)) w1 := hH
      rw [show hs = ((gr, Obj.cells (kv k) 23) :: (gk, Obj.cells (kv k) 23) :: ((w.heap.size + 2), Obj.cells (kv c.1) 23) :: ((w.heap.size + 1), Obj.cells (kv b.1) 23) :: (w.heap.size, Obj.cells (kv a.1) 23) :: []) from hI] at hH
      clear hI
      unfold wpOp
      simp only [e51, e50]
      refine Or.inl ?_
      unfold Oper.wp
      go_simp
      refine (sum_calls a.1 w1).mono ?_
      rintro e w3 ⟨rfl, hb⟩
      exact OwnBy.mk _ _ _ rfl (rfl) (⟨rfl, rfl⟩) (hH.grow hb)
    | 53, _ =>
      obtain rfl := Option.some.inj ho
      have e50 : f 50 = .bool true := (hd ⟨50, .guard⟩ (by simp) rfl).2.1
      clear hd ho
      have hH : Holds w (hs ++ ([] ++ R)) w1 := hH
      rw [show hs = ((gr, Obj.cells (kv k) 23) :: (gk, Obj.cells (kv k) 23) :: ((w.heap.size + 2), Obj.cells (kv c.1) 23) :: ((w.heap.size + 1), Obj.cells (kv b.1) 23) :: (w.heap.size, Obj.cells (kv a.1) 23) :: []) from hI] at hH
      clear hI
      unfold wpOp
      simp only [e50]
      refine Or.inl ?_
      unfold Oper.wp
      have hX : Holds w ((w.heap.size, Obj.cells (kv a.1) 23) :: (((gr, Obj.cells (kv k) 23) :: (gk, Obj.cells (kv k) 23) :: ((w.heap.size + 2), Obj.cells (kv c.1) 23) :: ((w.heap.size + 1), Obj.cells (kv b.1) 23) :: []) ++ R)) w1 := hH.perm (by classical rw [List.perm_iff_count]; intro a; simp only [List.count_append, List.count_cons, List.count_nil] <;> omega)
      refine wpK (.tmp 6) ⟨w.heap.size, 0, none⟩ rfl rfl (run_load_key _ _ (row_cells hX.get)) ?_
      exact OwnBy.mk _ _ _ rfl (rfl) (⟨rfl, rfl⟩) (hH)
    | 54, _ =>
      obtain rfl := Option.some.inj ho
      have e53 : f 53 = Value.agg (kv a.1) := (hd ⟨53, .data⟩ (by simp) rfl).2.1
      have e50 : f 50 = .bool true := (hd ⟨50, .guard⟩ (by simp) rfl).2.1
      clear hd ho
      have hH : Holds w (hs ++ ([] ++ R)) w1 := hH
      rw [show hs = ((gr, Obj.cells (kv k) 23) :: (gk, Obj.cells (kv k) 23) :: ((w.heap.size + 2), Obj.cells (kv c.1) 23) :: ((w.heap.size + 1), Obj.cells (kv b.1) 23) :: (w.heap.size, Obj.cells (kv a.1) 23) :: []) from hI] at hH
      clear hI
      unfold wpOp
      simp only [e53, e50]
      refine Or.inl ?_
      unfold Oper.wp
      go_simp
      refine (rsum_calls a.1 w1).mono ?_
      rintro e w3 ⟨rfl, hb⟩
      exact OwnBy.mk _ _ _ rfl (rfl) (⟨rfl, rfl⟩) (hH.grow hb)
    | 55, _ =>
      obtain rfl := Option.some.inj ho
      have e52 : f 52 = .int .u32 (sumTo a.1 16) := (hd ⟨52, .data⟩ (by simp) rfl).2.1
      have e54 : f 54 = .int .u32 (sumTo a.1 16) := (hd ⟨54, .data⟩ (by simp) rfl).2.1
      have e50 : f 50 = .bool true := (hd ⟨50, .guard⟩ (by simp) rfl).2.1
      clear hd ho
      have hH : Holds w (hs ++ ([] ++ R)) w1 := hH
      rw [show hs = ((gr, Obj.cells (kv k) 23) :: (gk, Obj.cells (kv k) 23) :: ((w.heap.size + 2), Obj.cells (kv c.1) 23) :: ((w.heap.size + 1), Obj.cells (kv b.1) 23) :: (w.heap.size, Obj.cells (kv a.1) 23) :: []) from hI] at hH
      clear hI
      unfold wpOp
      simp only [e52, e54, e50]
      refine Or.inl ?_
      unfold Oper.wp
      go_simp
      exact OwnBy.mk _ _ _ rfl (rfl) (⟨rfl, rfl⟩) (hH)
    | 56, _ =>
      obtain rfl := Option.some.inj ho
      have e50 : f 50 = .bool true := (hd ⟨50, .data⟩ (by simp) rfl).2.1
      have e55 : f 55 = .bool true := (hd ⟨55, .data⟩ (by simp) rfl).2.1
      clear hd ho
      have hH : Holds w (hs ++ ([] ++ R)) w1 := hH
      rw [show hs = ((gr, Obj.cells (kv k) 23) :: (gk, Obj.cells (kv k) 23) :: ((w.heap.size + 2), Obj.cells (kv c.1) 23) :: ((w.heap.size + 1), Obj.cells (kv b.1) 23) :: (w.heap.size, Obj.cells (kv a.1) 23) :: []) from hI] at hH
      clear hI
      unfold wpOp
      refine Or.inl ?_
      simp only [e50, e55]
      unfold Oper.wp
      go_simp
      exact OwnBy.mk _ _ _ rfl (rfl) (⟨rfl, rfl⟩) (hH)
    | 57, _ =>
      obtain rfl := Option.some.inj ho
      have e56 : f 56 = .bool true := (hd ⟨56, .data⟩ (by simp) rfl).2.1
      clear hd ho
      have hH : Holds w (hs ++ ([] ++ R)) w1 := hH
      rw [show hs = ((gr, Obj.cells (kv k) 23) :: (gk, Obj.cells (kv k) 23) :: ((w.heap.size + 2), Obj.cells (kv c.1) 23) :: ((w.heap.size + 1), Obj.cells (kv b.1) 23) :: (w.heap.size, Obj.cells (kv a.1) 23) :: []) from hI] at hH
      clear hI
      unfold wpOp
      refine Or.inl ?_
      simp only [e56]
      unfold Oper.wp
      go_simp
      exact OwnBy.mk _ _ _ rfl (rfl) (⟨rfl, rfl⟩) (hH)
    | 58, _ =>
      obtain rfl := Option.some.inj ho
      have e57 : f 57 = .bool true := (hd ⟨57, .guard⟩ (by simp) rfl).2.1
      clear hd ho
      have hH : Holds w (hs ++ ([] ++ R)) w1 := hH
      rw [show hs = ((gr, Obj.cells (kv k) 23) :: (gk, Obj.cells (kv k) 23) :: ((w.heap.size + 2), Obj.cells (kv c.1) 23) :: ((w.heap.size + 1), Obj.cells (kv b.1) 23) :: (w.heap.size, Obj.cells (kv a.1) 23) :: []) from hI] at hH
      clear hI
      unfold wpOp
      simp only [e57]
      refine Or.inl ?_
      unfold Oper.wp
      go_simp
      exact OwnBy.mk _ _ _ rfl (rfl) (⟨rfl, rfl⟩) (hH)
    | 59, _ =>
      obtain rfl := Option.some.inj ho
      have e58 : f 58 = .slice A n cap := (hd ⟨58, .data⟩ (by simp) rfl).2.1
      have e57 : f 57 = .bool true := (hd ⟨57, .guard⟩ (by simp) rfl).2.1
      clear hd ho
      have hH : Holds w (hs ++ ([] ++ R)) w1 := hH
      rw [show hs = ((gr, Obj.cells (kv k) 23) :: (gk, Obj.cells (kv k) 23) :: ((w.heap.size + 2), Obj.cells (kv c.1) 23) :: ((w.heap.size + 1), Obj.cells (kv b.1) 23) :: (w.heap.size, Obj.cells (kv a.1) 23) :: []) from hI] at hH
      clear hI
      unfold wpOp
      simp only [e58, e57]
      refine Or.inl ?_
      unfold Oper.wp
      have hc := ksort_calls A cap ks (by rw [HN.out]; omega) w1 (HA.out.below hH.below)
      rw [HN.out] at hc
      go_simp
      refine hc.mono ?_
      rintro e w3 ⟨v, rfl, h3, hR3, hH3⟩
      exact OwnBy.mk v h3 _ rfl rfl (by have := hR3; rw [← HS.out, HM.out] at this; exact this) ((Holds.join hH hH3).perm (by classical rw [List.perm_iff_count]; intro a; simp only [List.count_append, List.count_cons, List.count_nil] <;> omega))
    | 60, _ =>
      obtain rfl := Option.some.inj ho
      have e57 : f 57 = .bool true := (hd ⟨57, .guard⟩ (by simp) rfl).2.1
      clear hd ho
      have hH : Holds w (hs ++ ([] ++ R)) w1 := hH
      rw [show hs = ((gr, Obj.cells (kv k) 23) :: (gk, Obj.cells (kv k) 23) :: ((w.heap.size + 2), Obj.cells (kv c.1) 23) :: ((w.heap.size + 1), Obj.cells (kv b.1) 23) :: (w.heap.size, Obj.cells (kv a.1) 23) :: []) from hI] at hH
      clear hI
      unfold wpOp
      simp only [e57]
      refine Or.inl ?_
      unfold Oper.wp
      go_simp
      exact OwnBy.mk _ _ _ rfl (rfl) (⟨rfl, rfl⟩) (hH)
    | 61, _ =>
      obtain rfl := Option.some.inj ho
      have e60 : f 60 = .slice A n cap := (hd ⟨60, .data⟩ (by simp) rfl).2.1
      have e57 : f 57 = .bool true := (hd ⟨57, .guard⟩ (by simp) rfl).2.1
      clear hd ho
      have hH : Holds w (hs ++ ([] ++ R)) w1 := hH
      rw [show hs = ((gr, Obj.cells (kv k) 23) :: (gk, Obj.cells (kv k) 23) :: ((w.heap.size + 2), Obj.cells (kv c.1) 23) :: ((w.heap.size + 1), Obj.cells (kv b.1) 23) :: (w.heap.size, Obj.cells (kv a.1) 23) :: []) from hI] at hH
      clear hI
      unfold wpOp
      simp only [e60, e57]
      refine Or.inl ?_
      unfold Oper.wp
      have hc := rsort_calls A cap ks w1 (by rw [HN.out]; omega) (HA.out.below hH.below)
      rw [HN.out] at hc
      go_simp
      refine hc.mono ?_
      rintro e w3 ⟨v, rfl, h3, hR3, hH3⟩
      exact OwnBy.mk v h3 _ rfl rfl (by have := hR3; rw [← sorts_one, ← HS.out, HM.out] at this; exact this) ((Holds.join hH hH3).perm (by classical rw [List.perm_iff_count]; intro a; simp only [List.count_append, List.count_cons, List.count_nil] <;> omega))
    | 62, _ =>
      obtain rfl := Option.some.inj ho
      have e59 := (hd ⟨59, .data⟩ (by simp) rfl).2
      obtain ⟨A59, c59, q59, _, _⟩ := RowB.form e59
      have e61 := (hd ⟨61, .data⟩ (by simp) rfl).2
      obtain ⟨A61, c61, q61, _, _⟩ := RowB.form e61
      have e57 : f 57 = .bool true := (hd ⟨57, .guard⟩ (by simp) rfl).2.1
      clear hd ho
      have hH : Holds w (hs ++ ((Hf 59 ++ (Hf 61 ++ ([]))) ++ R)) w1 := hH
      simp only [List.append_nil, List.append_assoc] at hH
      rw [show hs = ((gr, Obj.cells (kv k) 23) :: (gk, Obj.cells (kv k) 23) :: ((w.heap.size + 2), Obj.cells (kv c.1) 23) :: ((w.heap.size + 1), Obj.cells (kv b.1) 23) :: (w.heap.size, Obj.cells (kv a.1) 23) :: []) from hI] at hH
      clear hI
      unfold wpOp
      simp only [e57]
      refine Or.inl ?_
      unfold Oper.wp
      rw [q59] at e59
      rw [q61] at e61
      rw [q59, q61]
      have k1 := KAt.of_row e59 (hH.perm (k := Hf 59 ++ (Hf 61 ++ (((gr, Obj.cells (kv k) 23) :: (gk, Obj.cells (kv k) 23) :: ((w.heap.size + 2), Obj.cells (kv c.1) 23) :: ((w.heap.size + 1), Obj.cells (kv b.1) 23) :: (w.heap.size, Obj.cells (kv a.1) 23) :: []) ++ R))) (by classical rw [List.perm_iff_count]; intro a; simp only [List.count_append, List.count_cons, List.count_nil] <;> omega))
      have k2 := KAt.of_row e61 (hH.perm (k := Hf 61 ++ (Hf 59 ++ (((gr, Obj.cells (kv k) 23) :: (gk, Obj.cells (kv k) 23) :: ((w.heap.size + 2), Obj.cells (kv c.1) 23) :: ((w.heap.size + 1), Obj.cells (kv b.1) 23) :: (w.heap.size, Obj.cells (kv a.1) 23) :: []) ++ R))) (by classical rw [List.perm_iff_count]; intro a; simp only [List.count_append, List.count_cons, List.count_nil] <;> omega))
      have hc := keys_calls A59 A61 c59 c61 S S w1 (by rw [HM.out]; omega) (by rw [HM.out]; omega) k1 k2
      rw [HM.out, decide_eq_true rfl] at hc
      go_simp
      refine hc.mono ?_
      rintro e w3 ⟨rfl, hb⟩
      exact OwnBy.mk _ _ _ rfl (rfl) (⟨rfl, rfl⟩) (((hH.grow hb).perm (k := (Hf 59 ++ Hf 61) ++ (((gr, Obj.cells (kv k) 23) :: (gk, Obj.cells (kv k) 23) :: ((w.heap.size + 2), Obj.cells (kv c.1) 23) :: ((w.heap.size + 1), Obj.cells (kv b.1) 23) :: (w.heap.size, Obj.cells (kv a.1) 23) :: []) ++ R)) (by classical rw [List.perm_iff_count]; intro a; simp only [List.count_append, List.count_cons, List.count_nil] <;> omega)).right)
    | 63, _ =>
      obtain rfl := Option.some.inj ho
      have e57 : f 57 = .bool true := (hd ⟨57, .data⟩ (by simp) rfl).2.1
      have e62 : f 62 = .bool true := (hd ⟨62, .data⟩ (by simp) rfl).2.1
      clear hd ho
      have hH : Holds w (hs ++ ([] ++ R)) w1 := hH
      rw [show hs = ((gr, Obj.cells (kv k) 23) :: (gk, Obj.cells (kv k) 23) :: ((w.heap.size + 2), Obj.cells (kv c.1) 23) :: ((w.heap.size + 1), Obj.cells (kv b.1) 23) :: (w.heap.size, Obj.cells (kv a.1) 23) :: []) from hI] at hH
      clear hI
      unfold wpOp
      refine Or.inl ?_
      simp only [e57, e62]
      unfold Oper.wp
      go_simp
      exact OwnBy.mk _ _ _ rfl (rfl) (⟨rfl, rfl⟩) (hH)
    | _ + 64, h64 => exact absurd h64 (by omega)
  · intro Ls f Hf hs w1 hI hL hV hH
    have e0 : f 0 = Value.agg (kv k) := (hV 0 (by decide)).1
    have e1 : f 1 = Value.agg (kv k) := (hV 1 (by decide)).1
    have e2 : f 2 = .bool true := (hV 2 (by decide)).1
    have e3 : f 3 = .bool true := (hV 3 (by decide)).1
    have e4 : f 4 = .int .i64 0 := (hV 4 (by decide)).1
    have e5 : f 5 = .bool true := (hV 5 (by decide)).1
    have e6 : f 6 = .bool true := (hV 6 (by decide)).1
    have e7 : f 7 = .bool true := (hV 7 (by decide)).1
    have e8 : f 8 = .bool true := (hV 8 (by decide)).1
    have e9 : f 9 = .bool true := (hV 9 (by decide)).1
    have e10 : f 10 = .bool true := (hV 10 (by decide)).1
    have e11 : f 11 = .bool true := (hV 11 (by decide)).1
    have e12 : f 12 = undef := (hV 12 (by decide)).1
    have e13 : f 13 = undef := (hV 13 (by decide)).1
    have e14 : f 14 = .bool true := (hV 14 (by decide)).1
    have e15 : f 15 = .bool true := (hV 15 (by decide)).1
    have e16 : f 16 = .bool true := (hV 16 (by decide)).1
    have e17 : f 17 = Value.agg (kv a.1) := (hV 17 (by decide)).1
    have e18 : f 18 = .string ⟨(txtK a.1).toArray⟩ := (hV 18 (by decide)).1
    have e19 : f 19 = Value.agg (kv a.1) := (hV 19 (by decide)).1
    have e20 : f 20 = .string ⟨(txtK a.1).toArray⟩ := (hV 20 (by decide)).1
    have e21 : f 21 = .bool true := (hV 21 (by decide)).1
    have e22 : f 22 = .bool true := (hV 22 (by decide)).1
    have e23 : f 23 = .bool true := (hV 23 (by decide)).1
    have e24 : f 24 = Value.agg (kv a.1) := (hV 24 (by decide)).1
    have e25 : f 25 = .bool (goodB a.1) := (hV 25 (by decide)).1
    have e26 : f 26 = Value.agg (kv a.1) := (hV 26 (by decide)).1
    have e27 : f 27 = .bool (goodB a.1) := (hV 27 (by decide)).1
    have e28 : f 28 = .bool true := (hV 28 (by decide)).1
    have e29 : f 29 = .bool true := (hV 29 (by decide)).1
    have e30 : f 30 = .bool true := (hV 30 (by decide)).1
    have e31 : f 31 = Value.agg (kv a.1) := (hV 31 (by decide)).1
    have e32 : f 32 = Value.agg (kv b.1) := (hV 32 (by decide)).1
    have e33 : f 33 = .int .i64 (cmpK a.1 b.1) := (hV 33 (by decide)).1
    have e34 : f 34 = Value.agg (kv a.1) := (hV 34 (by decide)).1
    have e35 : f 35 = Value.agg (kv b.1) := (hV 35 (by decide)).1
    have e36 : f 36 = .int .i64 (cmpK a.1 b.1) := (hV 36 (by decide)).1
    have e37 : f 37 = .bool true := (hV 37 (by decide)).1
    have e38 : f 38 = .bool true := (hV 38 (by decide)).1
    have e39 : f 39 = .bool true := (hV 39 (by decide)).1
    have e40 : f 40 = Value.agg (kv a.1) := (hV 40 (by decide)).1
    have e41 : f 41 = Value.agg (kv b.1) := (hV 41 (by decide)).1
    have e42 : f 42 = Value.agg (kv c.1) := (hV 42 (by decide)).1
    have e43 : f 43 = .bool (withinB a.1 b.1 c.1) := (hV 43 (by decide)).1
    have e44 : f 44 = Value.agg (kv a.1) := (hV 44 (by decide)).1
    have e45 : f 45 = Value.agg (kv b.1) := (hV 45 (by decide)).1
    have e46 : f 46 = Value.agg (kv c.1) := (hV 46 (by decide)).1
    have e47 : f 47 = .bool (withinB a.1 b.1 c.1) := (hV 47 (by decide)).1
    have e48 : f 48 = .bool true := (hV 48 (by decide)).1
    have e49 : f 49 = .bool true := (hV 49 (by decide)).1
    have e50 : f 50 = .bool true := (hV 50 (by decide)).1
    have e51 : f 51 = Value.agg (kv a.1) := (hV 51 (by decide)).1
    have e52 : f 52 = .int .u32 (sumTo a.1 16) := (hV 52 (by decide)).1
    have e53 : f 53 = Value.agg (kv a.1) := (hV 53 (by decide)).1
    have e54 : f 54 = .int .u32 (sumTo a.1 16) := (hV 54 (by decide)).1
    have e55 : f 55 = .bool true := (hV 55 (by decide)).1
    have e56 : f 56 = .bool true := (hV 56 (by decide)).1
    have e57 : f 57 = .bool true := (hV 57 (by decide)).1
    have e58 : f 58 = .slice A n cap := (hV 58 (by decide)).1
    have e59 := hV 59 (by decide)
    obtain ⟨A59, c59, q59, _, _⟩ := RowB.form e59
    have e60 : f 60 = .slice A n cap := (hV 60 (by decide)).1
    have e61 := hV 61 (by decide)
    obtain ⟨A61, c61, q61, _, _⟩ := RowB.form e61
    have e62 : f 62 = .bool true := (hV 62 (by decide)).1
    have e63 : f 63 = .bool true := (hV 63 (by decide)).1
    clear hV
    have hH : Holds w (hs ++ []) w1 := hH
    simp only [List.append_eq, List.cons_append, List.nil_append, fill, List.take_succ_cons, List.take_zero, List.drop_succ_cons, List.drop_zero, Act.put, List.setIfInBounds_toArray, List.set_cons_zero, List.set_cons_succ, e0, e1, e2, e3, e4, e5, e6, e7, e8, e9, e10, e11, e12, e13, e14, e15, e16, e17, e18, e19, e20, e21, e22, e23, e24, e25, e26, e27, e28, e29, e30, e31, e32, e33, e34, e35, e36, e37, e38, e39, e40, e41, e42, e43, e44, e45, e46, e47, e48, e49, e50, e51, e52, e53, e54, e55, e56, e57, e58, e60, e62, e63]
    have HF := Lib.hid hH.below
    clear hI hL hH
    go_wp2_with fail
    go_ret
    exact ⟨rfl, HF.out⟩
set_option maxRecDepth 100000 in
set_option maxHeartbeats 16000000 in
theorem says_false (s : ByteArray) (a b c : K16) (A : Option Addr) (cap : Nat) (ks : List K16) (w : World) (hA : KAt w A ks) (h100 : ¬ (100 : Int) < (s.size : Int)) (h40 : ¬ (40 : Int) < (ks.length : Int)) (hok : okS s.data.toList = false) :
    Calls Try.prog 8 #[.string s, .agg (kv a.1), .agg (kv b.1), .agg (kv c.1), .slice A ks.length cap] w fun e w' => e = .returned (.bool true) ∧ Below w.heap.size w w' := by
  have HA := Lib.hid hA
  obtain ⟨n, en⟩ : ∃ n, ks.length = n := ⟨_, rfl⟩
  have HN := Lib.hid en
  rw [en] at h40 ⊢
  obtain ⟨S, hS⟩ : ∃ S, S = ksort ks := ⟨_, rfl⟩
  have hSL : S.length ≤ n := by rw [hS, ← en]; exact ksort_len ks
  have HS := Lib.hid hS
  obtain ⟨m, em⟩ : ∃ m, S.length = m := ⟨_, rfl⟩
  have HM := Lib.hid em
  rw [em] at hSL
  obtain ⟨k, hk⟩ : ∃ k, ofK s.data.toList = k := ⟨_, rfl⟩
  have HOF := Lib.hid (fun w => by have := of_calls s w; rw [hk, show ofE s.data.toList = 1 by simp [ofE, hok]] at this; exact this)
  have HROF := Lib.hid (fun w => by have := rof_calls s w; rw [hk, hok] at this; exact this)
  have HZ := Lib.hid (((((Holds.nil w).alloc (.cells (kv a.1) 23)).alloc (.cells (kv b.1) 23)).alloc (.cells (kv c.1) 23)).perm (k := (((w.heap.size + 2), Obj.cells (kv c.1) 23) :: ((w.heap.size + 1), Obj.cells (kv b.1) 23) :: (w.heap.size, Obj.cells (kv a.1) 23) :: [])) (by simp))
  clear hA en hS em hk hok
  go_enter Try.func8, Try.ntmps8
  go_wp2_with fail
  refine (awake_calls _).mono ?_
  rintro e w1 ⟨rfl, hb1⟩
  have HH1 := Lib.hid (HZ.out.grow hb1)
  clear hb1
  go_wp2_with fail
  refine (HOF.out w1).mono ?_
  rintro e w2 ⟨rfl, hb2⟩
  have HH2 := Lib.hid (HH1.out.grow hb2)
  clear hb2
  obtain ⟨gk, hgk⟩ : ∃ g, g = w2.heap.size := ⟨_, rfl⟩
  have HG := Lib.hid hgk
  have hal2 := heap_alloc_new w2 (.cells (kv []) 23)
  have HAL2 := Lib.hid hal2
  have HH3 := Lib.hid ((HH2.out.alloc (.cells (kv []) 23)).turn (row_grown _ _ (kv k)) (set_at hal2 k))
  have hz := kv_nil
  clear hal2 hgk
  go_wp2_with (first | ((with_reducible refine stL (.tmp 11) (.tmp 28) _ k [] ?_ ?_ HAL2.out ?_); rfl; rfl))
  refine (HROF.out _).mono ?_
  rintro e w3 ⟨rfl, hb3⟩
  have HH3b := Lib.hid (HH3.out.grow hb3)
  clear hb3
  have hal3 := heap_alloc_new w3 (.cells (kv []) 23)
  have HAL3 := Lib.hid hal3
  obtain ⟨gr, hgr⟩ : ∃ g, g = w3.heap.size := ⟨_, rfl⟩
  have HGR := Lib.hid hgr
  have HH4 := Lib.hid (show Holds w ((gr, Obj.cells (kv k) 23) :: (gk, Obj.cells (kv k) 23) :: ((w.heap.size + 2), Obj.cells (kv c.1) 23) :: ((w.heap.size + 1), Obj.cells (kv b.1) 23) :: (w.heap.size, Obj.cells (kv a.1) 23) :: []) _ by rw [HG.out, hgr]; exact (HH3b.out.alloc (.cells (kv []) 23)).turn (row_grown _ _ (kv k)) (set_at hal3 k))
  clear hal3 hgr
  go_wp2_with (first | ((with_reducible refine stL (.tmp 13) (.tmp 33) _ k [] ?_ ?_ HAL3.out ?_); rfl; rfl))
  rw [← HG.out, ← HGR.out]
  refine wp_region_own 64 (fun k => match k with | 62 => [59, 61] | _ => []) (by kernel_rfl) (by kernel_rfl) (by kernel_rfl) (by kernel_rfl) (Nat.le_of_ble_eq_true (by kernel_rfl)) w (fun Ls hs => hs = ((gr, Obj.cells (kv k) 23) :: (gk, Obj.cells (kv k) 23) :: ((w.heap.size + 2), Obj.cells (kv c.1) 23) :: ((w.heap.size + 1), Obj.cells (kv b.1) 23) :: (w.heap.size, Obj.cells (kv a.1) 23) :: [])) (fun i v h => match i with | 0 => v = Value.agg (kv k) ∧ h = [] | 1 => v = Value.agg (kv k) ∧ h = [] | 2 => v = .bool true ∧ h = [] | 3 => v = .bool true ∧ h = [] | 4 => v = .int .i64 1 ∧ h = [] | 5 => v = .bool false ∧ h = [] | 6 => v = .bool false ∧ h = [] | 7 => v = .bool true ∧ h = [] | 8 => v = .bool true ∧ h = [] | 9 => v = .bool true ∧ h = [] | 10 => v = .bool false ∧ h = [] | 11 => v = .bool false ∧ h = [] | 12 => v = .int .i64 1 ∧ h = [] | 13 => v = .bool true ∧ h = [] | 14 => v = .bool true ∧ h = [] | 15 => v = .bool true ∧ h = [] | 16 => v = .bool true ∧ h = [] | 17 => v = Value.agg (kv a.1) ∧ h = [] | 18 => v = .string ⟨(txtK a.1).toArray⟩ ∧ h = [] | 19 => v = Value.agg (kv a.1) ∧ h = [] | 20 => v = .string ⟨(txtK a.1).toArray⟩ ∧ h = [] | 21 => v = .bool true ∧ h = [] | 22 => v = .bool true ∧ h = [] | 23 => v = .bool true ∧ h = [] | 24 => v = Value.agg (kv a.1) ∧ h = [] | 25 => v = .bool (goodB a.1) ∧ h = [] | 26 => v = Value.agg (kv a.1) ∧ h = [] | 27 => v = .bool (goodB a.1) ∧ h = [] | 28 => v = .bool true ∧ h = [] | 29 => v = .bool true ∧ h = [] | 30 => v = .bool true ∧ h = [] | 31 => v = Value.agg (kv a.1) ∧ h = [] | 32 => v = Value.agg (kv b.1) ∧ h = [] | 33 => v = .int .i64 (cmpK a.1 b.1) ∧ h = [] | 34 => v = Value.agg (kv a.1) ∧ h = [] | 35 => v = Value.agg (kv b.1) ∧ h = [] | 36 => v = .int .i64 (cmpK a.1 b.1) ∧ h = [] | 37 => v = .bool true ∧ h = [] | 38 => v = .bool true ∧ h = [] | 39 => v = .bool true ∧ h = [] | 40 => v = Value.agg (kv a.1) ∧ h = [] | 41 => v = Value.agg (kv b.1) ∧ h = [] | 42 => v = Value.agg (kv c.1) ∧ h = [] | 43 => v = .bool (withinB a.1 b.1 c.1) ∧ h = [] | 44 => v = Value.agg (kv a.1) ∧ h = [] | 45 => v = Value.agg (kv b.1) ∧ h = [] | 46 => v = Value.agg (kv c.1) ∧ h = [] | 47 => v = .bool (withinB a.1 b.1 c.1) ∧ h = [] | 48 => v = .bool true ∧ h = [] | 49 => v = .bool true ∧ h = [] | 50 => v = .bool true ∧ h = [] | 51 => v = Value.agg (kv a.1) ∧ h = [] | 52 => v = .int .u32 (sumTo a.1 16) ∧ h = [] | 53 => v = Value.agg (kv a.1) ∧ h = [] | 54 => v = .int .u32 (sumTo a.1 16) ∧ h = [] | 55 => v = .bool true ∧ h = [] | 56 => v = .bool true ∧ h = [] | 57 => v = .bool true ∧ h = [] | 58 => v = .slice A n cap ∧ h = [] | 59 => RowB 23 16 v m (flat S) h | 60 => v = .slice A n cap ∧ h = [] | 61 => RowB 23 16 v m (flat S) h | 62 => v = .bool true ∧ h = [] | 63 => v = .bool true ∧ h = [] | _ => True) (((gr, Obj.cells (kv k) 23) :: (gk, Obj.cells (kv k) 23) :: ((w.heap.size + 2), Obj.cells (kv c.1) 23) :: ((w.heap.size + 1), Obj.cells (kv b.1) 23) :: (w.heap.size, Obj.cells (kv a.1) 23) :: [])) (rfl) ((by have h := HH4.out.drew; rw [← HGR.out] at h; exact h)) ?_ ?_
  · intro i o hi ho Ls f Hf hs R w1 hI hL hd hH
    simp only [List.append_eq, List.cons_append, List.nil_append, fill, List.take_succ_cons, List.take_zero, Act.put, List.setIfInBounds_toArray, List.set_cons_zero, List.set_cons_succ]
    match i, hi with
    | 0, _ =>
      obtain rfl := Option.some.inj ho
      clear hd ho
      have hH : Holds w (hs ++ ([] ++ R)) w1 := hH
      rw [show hs = ((gr, Obj.cells (kv k) 23) :: (gk, Obj.cells (kv k) 23) :: ((w.heap.size + 2), Obj.cells (kv c.1) 23) :: ((w.heap.size + 1), Obj.cells (kv b.1) 23) :: (w.heap.size, Obj.cells (kv a.1) 23) :: []) from hI] at hH
      clear hI
      unfold wpOp
      refine Or.inl ?_
      unfold Oper.wp
      have hX : Holds w ((gk, Obj.cells (kv k) 23) :: (((gr, Obj.cells (kv k) 23) :: ((w.heap.size + 2), Obj.cells (kv c.1) 23) :: ((w.heap.size + 1), Obj.cells (kv b.1) 23) :: (w.heap.size, Obj.cells (kv a.1) 23) :: []) ++ R)) w1 := hH.perm (by classical rw [List.perm_iff_count]; intro a; simp only [List.count_append, List.count_cons, List.count_nil] <;> omega)
      refine wpK (.tmp 11) ⟨gk, 0, none⟩ rfl rfl (run_load_key _ _ (row_cells hX.get)) ?_
      exact OwnBy.mk _ _ _ rfl (rfl) (⟨rfl, rfl⟩) (hH)
    | 1, _ =>
      obtain rfl := Option.some.inj ho
      clear hd ho
      have hH : Holds w (hs ++ ([] ++ R)) w1 := hH
      rw [show hs = ((gr, Obj.cells (kv k) 23) :: (gk, Obj.cells (kv k) 23) :: ((w.heap.size + 2), Obj.cells (kv c.1) 23) :: ((w.heap.size + 1), Obj.cells (kv b.1) 23) :: (w.heap.size, Obj.cells (kv a.1) 23) :: []) from hI] at hH
      clear hI
      unfold wpOp
      refine Or.inl ?_
      unfold Oper.wp
      have hX : Holds w ((gr, Obj.cells (kv k) 23) :: (((gk, Obj.cells (kv k) 23) :: ((w.heap.size + 2), Obj.cells (kv c.1) 23) :: ((w.heap.size + 1), Obj.cells (kv b.1) 23) :: (w.heap.size, Obj.cells (kv a.1) 23) :: []) ++ R)) w1 := hH.perm (by classical rw [List.perm_iff_count]; intro a; simp only [List.count_append, List.count_cons, List.count_nil] <;> omega)
      refine wpK (.tmp 13) ⟨gr, 0, none⟩ rfl rfl (run_load_key _ _ (row_cells hX.get)) ?_
      exact OwnBy.mk _ _ _ rfl (rfl) (⟨rfl, rfl⟩) (hH)
    | 2, _ =>
      obtain rfl := Option.some.inj ho
      have e0 : f 0 = Value.agg (kv k) := (hd ⟨0, .data⟩ (by simp) rfl).2.1
      have e1 : f 1 = Value.agg (kv k) := (hd ⟨1, .data⟩ (by simp) rfl).2.1
      clear hd ho
      have hH : Holds w (hs ++ ([] ++ R)) w1 := hH
      rw [show hs = ((gr, Obj.cells (kv k) 23) :: (gk, Obj.cells (kv k) 23) :: ((w.heap.size + 2), Obj.cells (kv c.1) 23) :: ((w.heap.size + 1), Obj.cells (kv b.1) 23) :: (w.heap.size, Obj.cells (kv a.1) 23) :: []) from hI] at hH
      clear hI
      unfold wpOp
      refine Or.inl ?_
      simp only [e0, e1]
      unfold Oper.wp
      have q := run_eqIn k k w1
      rw [keq_refl] at q
      go_simp
      exact OwnBy.mk _ _ _ rfl (rfl) (⟨rfl, rfl⟩) (hH)
    | 3, _ =>
      obtain rfl := Option.some.inj ho
      have e2 : f 2 = .bool true := (hd ⟨2, .data⟩ (by simp) rfl).2.1
      clear hd ho
      have hH : Holds w (hs ++ ([] ++ R)) w1 := hH
      rw [show hs = ((gr, Obj.cells (kv k) 23) :: (gk, Obj.cells (kv k) 23) :: ((w.heap.size + 2), Obj.cells (kv c.1) 23) :: ((w.heap.size + 1), Obj.cells (kv b.1) 23) :: (w.heap.size, Obj.cells (kv a.1) 23) :: []) from hI] at hH
      clear hI
      unfold wpOp
      refine Or.inl ?_
      simp only [e2]
      unfold Oper.wp
      go_simp
      exact OwnBy.mk _ _ _ rfl (rfl) (⟨rfl, rfl⟩) (hH)
    | 4, _ =>
      obtain rfl := Option.some.inj ho
      have e3 : f 3 = .bool true := (hd ⟨3, .guard⟩ (by simp) rfl).2.1
      clear hd ho
      have hH : Holds w (hs ++ ([] ++ R)) w1 := hH
      rw [show hs = ((gr, Obj.cells (kv k) 23) :: (gk, Obj.cells (kv k) 23) :: ((w.heap.size + 2), Obj.cells (kv c.1) 23) :: ((w.heap.size + 1), Obj.cells (kv b.1) 23) :: (w.heap.size, Obj.cells (kv a.1) 23) :: []) from hI] at hH
      clear hI
      unfold wpOp
      simp only [e3]
      refine Or.inl ?_
      unfold Oper.wp
      go_simp
      exact OwnBy.mk _ _ _ rfl (rfl) (⟨rfl, rfl⟩) (hH)
    | 5, _ =>
      obtain rfl := Option.some.inj ho
      have e4 : f 4 = .int .i64 1 := (hd ⟨4, .data⟩ (by simp) rfl).2.1
      have e3 : f 3 = .bool true := (hd ⟨3, .guard⟩ (by simp) rfl).2.1
      clear hd ho
      have hH : Holds w (hs ++ ([] ++ R)) w1 := hH
      rw [show hs = ((gr, Obj.cells (kv k) 23) :: (gk, Obj.cells (kv k) 23) :: ((w.heap.size + 2), Obj.cells (kv c.1) 23) :: ((w.heap.size + 1), Obj.cells (kv b.1) 23) :: (w.heap.size, Obj.cells (kv a.1) 23) :: []) from hI] at hH
      clear hI
      unfold wpOp
      simp only [e4, e3]
      refine Or.inl ?_
      unfold Oper.wp
      go_simp
      exact OwnBy.mk _ _ _ rfl (rfl) (⟨rfl, rfl⟩) (hH)
    | 6, _ =>
      obtain rfl := Option.some.inj ho
      have e3 : f 3 = .bool true := (hd ⟨3, .guard⟩ (by simp) rfl).2.1
      clear hd ho
      have hH : Holds w (hs ++ ([] ++ R)) w1 := hH
      rw [show hs = ((gr, Obj.cells (kv k) 23) :: (gk, Obj.cells (kv k) 23) :: ((w.heap.size + 2), Obj.cells (kv c.1) 23) :: ((w.heap.size + 1), Obj.cells (kv b.1) 23) :: (w.heap.size, Obj.cells (kv a.1) 23) :: []) from hI] at hH
      clear hI
      unfold wpOp
      simp only [e3]
      refine Or.inl ?_
      unfold Oper.wp
      go_simp
      exact OwnBy.mk _ _ _ rfl (rfl) (⟨rfl, rfl⟩) (hH)
    | 7, _ =>
      obtain rfl := Option.some.inj ho
      have e5 : f 5 = .bool false := (hd ⟨5, .data⟩ (by simp) rfl).2.1
      have e6 : f 6 = .bool false := (hd ⟨6, .data⟩ (by simp) rfl).2.1
      have e3 : f 3 = .bool true := (hd ⟨3, .guard⟩ (by simp) rfl).2.1
      clear hd ho
      have hH : Holds w (hs ++ ([] ++ R)) w1 := hH
      rw [show hs = ((gr, Obj.cells (kv k) 23) :: (gk, Obj.cells (kv k) 23) :: ((w.heap.size + 2), Obj.cells (kv c.1) 23) :: ((w.heap.size + 1), Obj.cells (kv b.1) 23) :: (w.heap.size, Obj.cells (kv a.1) 23) :: []) from hI] at hH
      clear hI
      unfold wpOp
      simp only [e5, e6, e3]
      refine Or.inl ?_
      unfold Oper.wp
      go_simp
      exact OwnBy.mk _ _ _ rfl (rfl) (⟨rfl, rfl⟩) (hH)
    | 8, _ =>
      obtain rfl := Option.some.inj ho
      have e3 : f 3 = .bool true := (hd ⟨3, .data⟩ (by simp) rfl).2.1
      have e7 : f 7 = .bool true := (hd ⟨7, .data⟩ (by simp) rfl).2.1
      clear hd ho
      have hH : Holds w (hs ++ ([] ++ R)) w1 := hH
      rw [show hs = ((gr, Obj.cells (kv k) 23) :: (gk, Obj.cells (kv k) 23) :: ((w.heap.size + 2), Obj.cells (kv c.1) 23) :: ((w.heap.size + 1), Obj.cells (kv b.1) 23) :: (w.heap.size, Obj.cells (kv a.1) 23) :: []) from hI] at hH
      clear hI
      unfold wpOp
      refine Or.inl ?_
      simp only [e3, e7]
      unfold Oper.wp
      go_simp
      exact OwnBy.mk _ _ _ rfl (rfl) (⟨rfl, rfl⟩) (hH)
    | 9, _ =>
      obtain rfl := Option.some.inj ho
      have e8 : f 8 = .bool true := (hd ⟨8, .data⟩ (by simp) rfl).2.1
      clear hd ho
      have hH : Holds w (hs ++ ([] ++ R)) w1 := hH
      rw [show hs = ((gr, Obj.cells (kv k) 23) :: (gk, Obj.cells (kv k) 23) :: ((w.heap.size + 2), Obj.cells (kv c.1) 23) :: ((w.heap.size + 1), Obj.cells (kv b.1) 23) :: (w.heap.size, Obj.cells (kv a.1) 23) :: []) from hI] at hH
      clear hI
      unfold wpOp
      refine Or.inl ?_
      simp only [e8]
      unfold Oper.wp
      go_simp
      exact OwnBy.mk _ _ _ rfl (rfl) (⟨rfl, rfl⟩) (hH)
    | 10, _ =>
      obtain rfl := Option.some.inj ho
      have e9 : f 9 = .bool true := (hd ⟨9, .guard⟩ (by simp) rfl).2.1
      clear hd ho
      have hH : Holds w (hs ++ ([] ++ R)) w1 := hH
      rw [show hs = ((gr, Obj.cells (kv k) 23) :: (gk, Obj.cells (kv k) 23) :: ((w.heap.size + 2), Obj.cells (kv c.1) 23) :: ((w.heap.size + 1), Obj.cells (kv b.1) 23) :: (w.heap.size, Obj.cells (kv a.1) 23) :: []) from hI] at hH
      clear hI
      unfold wpOp
      simp only [e9]
      refine Or.inl ?_
      unfold Oper.wp
      go_simp
      exact OwnBy.mk _ _ _ rfl (rfl) (⟨rfl, rfl⟩) (hH)
    | 11, _ =>
      obtain rfl := Option.some.inj ho
      have e10 : f 10 = .bool false := (hd ⟨10, .data⟩ (by simp) rfl).2.1
      have e9 : f 9 = .bool true := (hd ⟨9, .guard⟩ (by simp) rfl).2.1
      clear hd ho
      have hH : Holds w (hs ++ ([] ++ R)) w1 := hH
      rw [show hs = ((gr, Obj.cells (kv k) 23) :: (gk, Obj.cells (kv k) 23) :: ((w.heap.size + 2), Obj.cells (kv c.1) 23) :: ((w.heap.size + 1), Obj.cells (kv b.1) 23) :: (w.heap.size, Obj.cells (kv a.1) 23) :: []) from hI] at hH
      clear hI
      unfold wpOp
      simp only [e10, e9]
      refine Or.inl ?_
      unfold Oper.wp
      go_simp
      exact OwnBy.mk _ _ _ rfl (rfl) (⟨rfl, rfl⟩) (hH)
    | 12, _ =>
      obtain rfl := Option.some.inj ho
      have e11 : f 11 = .bool false := (hd ⟨11, .guard⟩ (by simp) rfl).2.1
      clear hd ho
      have hH : Holds w (hs ++ ([] ++ R)) w1 := hH
      rw [show hs = ((gr, Obj.cells (kv k) 23) :: (gk, Obj.cells (kv k) 23) :: ((w.heap.size + 2), Obj.cells (kv c.1) 23) :: ((w.heap.size + 1), Obj.cells (kv b.1) 23) :: (w.heap.size, Obj.cells (kv a.1) 23) :: []) from hI] at hH
      clear hI
      unfold wpOp
      simp only [e11]
      refine Or.inl ?_
      unfold Oper.wp
      go_simp
      exact OwnBy.mk _ _ _ rfl (rfl) (⟨rfl, rfl⟩) (hH)
    | 13, _ =>
      obtain rfl := Option.some.inj ho
      have e12 : f 12 = .int .i64 1 := (hd ⟨12, .data⟩ (by simp) rfl).2.1
      have e11 : f 11 = .bool false := (hd ⟨11, .guard⟩ (by simp) rfl).2.1
      clear hd ho
      have hH : Holds w (hs ++ ([] ++ R)) w1 := hH
      rw [show hs = ((gr, Obj.cells (kv k) 23) :: (gk, Obj.cells (kv k) 23) :: ((w.heap.size + 2), Obj.cells (kv c.1) 23) :: ((w.heap.size + 1), Obj.cells (kv b.1) 23) :: (w.heap.size, Obj.cells (kv a.1) 23) :: []) from hI] at hH
      clear hI
      unfold wpOp
      simp only [e12, e11]
      refine Or.inl ?_
      unfold Oper.wp
      go_simp
      exact OwnBy.mk _ _ _ rfl (rfl) (⟨rfl, rfl⟩) (hH)
    | 14, _ =>
      obtain rfl := Option.some.inj ho
      have e11 : f 11 = .bool false := (hd ⟨11, .data⟩ (by simp) rfl).2.1
      have e13 : f 13 = .bool true := (hd ⟨13, .data⟩ (by simp) rfl).2.1
      have e9 : f 9 = .bool true := (hd ⟨9, .guard⟩ (by simp) rfl).2.1
      clear hd ho
      have hH : Holds w (hs ++ ([] ++ R)) w1 := hH
      rw [show hs = ((gr, Obj.cells (kv k) 23) :: (gk, Obj.cells (kv k) 23) :: ((w.heap.size + 2), Obj.cells (kv c.1) 23) :: ((w.heap.size + 1), Obj.cells (kv b.1) 23) :: (w.heap.size, Obj.cells (kv a.1) 23) :: []) from hI] at hH
      clear hI
      unfold wpOp
      simp only [e11, e13, e9]
      refine Or.inl ?_
      unfold Oper.wp
      go_simp
      exact OwnBy.mk _ _ _ rfl (rfl) (⟨rfl, rfl⟩) (hH)
    | 15, _ =>
      obtain rfl := Option.some.inj ho
      have e9 : f 9 = .bool true := (hd ⟨9, .data⟩ (by simp) rfl).2.1
      have e14 : f 14 = .bool true := (hd ⟨14, .data⟩ (by simp) rfl).2.1
      clear hd ho
      have hH : Holds w (hs ++ ([] ++ R)) w1 := hH
      rw [show hs = ((gr, Obj.cells (kv k) 23) :: (gk, Obj.cells (kv k) 23) :: ((w.heap.size + 2), Obj.cells (kv c.1) 23) :: ((w.heap.size + 1), Obj.cells (kv b.1) 23) :: (w.heap.size, Obj.cells (kv a.1) 23) :: []) from hI] at hH
      clear hI
      unfold wpOp
      refine Or.inl ?_
      simp only [e9, e14]
      unfold Oper.wp
      go_simp
      exact OwnBy.mk _ _ _ rfl (rfl) (⟨rfl, rfl⟩) (hH)
    | 16, _ =>
      obtain rfl := Option.some.inj ho
      have e15 : f 15 = .bool true := (hd ⟨15, .data⟩ (by simp) rfl).2.1
      clear hd ho
      have hH : Holds w (hs ++ ([] ++ R)) w1 := hH
      rw [show hs = ((gr, Obj.cells (kv k) 23) :: (gk, Obj.cells (kv k) 23) :: ((w.heap.size + 2), Obj.cells (kv c.1) 23) :: ((w.heap.size + 1), Obj.cells (kv b.1) 23) :: (w.heap.size, Obj.cells (kv a.1) 23) :: []) from hI] at hH
      clear hI
      unfold wpOp
      refine Or.inl ?_
      simp only [e15]
      unfold Oper.wp
      go_simp
      exact OwnBy.mk _ _ _ rfl (rfl) (⟨rfl, rfl⟩) (hH)
    | 17, _ =>
      obtain rfl := Option.some.inj ho
      have e16 : f 16 = .bool true := (hd ⟨16, .guard⟩ (by simp) rfl).2.1
      clear hd ho
      have hH : Holds w (hs ++ ([] ++ R)) w1 := hH
      rw [show hs = ((gr, Obj.cells (kv k) 23) :: (gk, Obj.cells (kv k) 23) :: ((w.heap.size + 2), Obj.cells (kv c.1) 23) :: ((w.heap.size + 1), Obj.cells (kv b.1) 23) :: (w.heap.size, Obj.cells (kv a.1) 23) :: []) from hI] at hH
      clear hI
      unfold wpOp
      simp only [e16]
      refine Or.inl ?_
      unfold Oper.wp
      have hX : Holds w ((w.heap.size, Obj.cells (kv a.1) 23) :: (((gr, Obj.cells (kv k) 23) :: (gk, Obj.cells (kv k) 23) :: ((w.heap.size + 2), Obj.cells (kv c.1) 23) :: ((w.heap.size + 1), Obj.cells (kv b.1) 23) :: []) ++ R)) w1 := hH.perm (by classical rw [List.perm_iff_count]; intro a; simp only [List.count_append, List.count_cons, List.count_nil] <;> omega)
      refine wpK (.tmp 6) ⟨w.heap.size, 0, none⟩ rfl rfl (run_load_key _ _ (row_cells hX.get)) ?_
      exact OwnBy.mk _ _ _ rfl (rfl) (⟨rfl, rfl⟩) (hH)
    | 18, _ =>
      obtain rfl := Option.some.inj ho
      have e17 : f 17 = Value.agg (kv a.1) := (hd ⟨17, .data⟩ (by simp) rfl).2.1
      have e16 : f 16 = .bool true := (hd ⟨16, .guard⟩ (by simp) rfl).2.1
      clear hd ho
      have hH : Holds w (hs ++ ([] ++ R)) w1 := hH
      rw [show hs = ((gr, Obj.cells (kv k) 23) :: (gk, Obj.cells (kv k) 23) :: ((w.heap.size + 2), Obj.cells (kv c.1) 23) :: ((w.heap.size + 1), Obj.cells (kv b.1) 23) :: (w.heap.size, Obj.cells (kv a.1) 23) :: []) from hI] at hH
      clear hI
      unfold wpOp
      simp only [e17, e16]
      refine Or.inl ?_
      unfold Oper.wp
      go_simp
      refine (textK_calls a.1 w1).mono ?_
      rintro e w3 ⟨rfl, hb⟩
      exact OwnBy.mk _ _ _ rfl (rfl) (⟨rfl, rfl⟩) (hH.grow hb)
    | 19, _ =>
      obtain rfl := Option.some.inj ho
      have e16 : f 16 = .bool true := (hd ⟨16, .guard⟩ (by simp) rfl).2.1
      clear hd ho
      have hH : Holds w (hs ++ ([] ++ R)) w1 := hH
      rw [show hs = ((gr, Obj.cells (kv k) 23) :: (gk, Obj.cells (kv k) 23) :: ((w.heap.size + 2), Obj.cells (kv c.1) 23) :: ((w.heap.size + 1), Obj.cells (kv b.1) 23) :: (w.heap.size, Obj.cells (kv a.1) 23) :: []) from hI] at hH
      clear hI
      unfold wpOp
      simp only [e16]
      refine Or.inl ?_
      unfold Oper.wp
      have hX : Holds w ((w.heap.size, Obj.cells (kv a.1) 23) :: (((gr, Obj.cells (kv k) 23) :: (gk, Obj.cells (kv k) 23) :: ((w.heap.size + 2), Obj.cells (kv c.1) 23) :: ((w.heap.size + 1), Obj.cells (kv b.1) 23) :: []) ++ R)) w1 := hH.perm (by classical rw [List.perm_iff_count]; intro a; simp only [List.count_append, List.count_cons, List.count_nil] <;> omega)
      refine wpK (.tmp 6) ⟨w.heap.size, 0, none⟩ rfl rfl (run_load_key _ _ (row_cells hX.get)) ?_
      exact OwnBy.mk _ _ _ rfl (rfl) (⟨rfl, rfl⟩) (hH)
    | 20, _ =>
      obtain rfl := Option.some.inj ho
      have e19 : f 19 = Value.agg (kv a.1) := (hd ⟨19, .data⟩ (by simp) rfl).2.1
      have e16 : f 16 = .bool true := (hd ⟨16, .guard⟩ (by simp) rfl).2.1
      clear hd ho
      have hH : Holds w (hs ++ ([] ++ R)) w1 := hH
      rw [show hs = ((gr, Obj.cells (kv k) 23) :: (gk, Obj.cells (kv k) 23) :: ((w.heap.size + 2), Obj.cells (kv c.1) 23) :: ((w.heap.size + 1), Obj.cells (kv b.1) 23) :: (w.heap.size, Obj.cells (kv a.1) 23) :: []) from hI] at hH
      clear hI
      unfold wpOp
      simp only [e19, e16]
      refine Or.inl ?_
      unfold Oper.wp
      go_simp
      refine (rtext_calls a.1 w1).mono ?_
      rintro e w3 ⟨rfl, hb⟩
      exact OwnBy.mk _ _ _ rfl (rfl) (⟨rfl, rfl⟩) (hH.grow hb)
    | 21, _ =>
      obtain rfl := Option.some.inj ho
      have e18 : f 18 = .string ⟨(txtK a.1).toArray⟩ := (hd ⟨18, .data⟩ (by simp) rfl).2.1
      have e20 : f 20 = .string ⟨(txtK a.1).toArray⟩ := (hd ⟨20, .data⟩ (by simp) rfl).2.1
      have e16 : f 16 = .bool true := (hd ⟨16, .guard⟩ (by simp) rfl).2.1
      clear hd ho
      have hH : Holds w (hs ++ ([] ++ R)) w1 := hH
      rw [show hs = ((gr, Obj.cells (kv k) 23) :: (gk, Obj.cells (kv k) 23) :: ((w.heap.size + 2), Obj.cells (kv c.1) 23) :: ((w.heap.size + 1), Obj.cells (kv b.1) 23) :: (w.heap.size, Obj.cells (kv a.1) 23) :: []) from hI] at hH
      clear hI
      unfold wpOp
      simp only [e18, e20, e16]
      refine Or.inl ?_
      unfold Oper.wp
      go_simp
      exact OwnBy.mk _ _ _ rfl (rfl) (⟨rfl, rfl⟩) (hH)
    | 22, _ =>
      obtain rfl := Option.some.inj ho
      have e16 : f 16 = .bool true := (hd ⟨16, .data⟩ (by simp) rfl).2.1
      have e21 : f 21 = .bool true := (hd ⟨21, .data⟩ (by simp) rfl).2.1
      clear hd ho
      have hH : Holds w (hs ++ ([] ++ R)) w1 := hH
      rw [show hs = ((gr, Obj.cells (kv k) 23) :: (gk, Obj.cells (kv k) 23) :: ((w.heap.size + 2), Obj.cells (kv c.1) 23) :: ((w.heap.size + 1), Obj.cells (kv b.1) 23) :: (w.heap.size, Obj.cells (kv a.1) 23) :: []) from hI] at hH
      clear hI
      unfold wpOp
      refine Or.inl ?_
      simp only [e16, e21]
      unfold Oper.wp
      go_simp
      exact OwnBy.mk _ _ _ rfl (rfl) (⟨rfl, rfl⟩) (hH)
    | 23, _ =>
      obtain rfl := Option.some.inj ho
      have e22 : f 22 = .bool true := (hd ⟨22, .data⟩ (by simp) rfl).2.1
      clear hd ho
      have hH : Holds w (hs ++ ([] ++ R)) w1 := hH
      rw [show hs = ((gr, Obj.cells (kv k) 23) :: (gk, Obj.cells (kv k) 23) :: ((w.heap.size + 2), Obj.cells (kv c.1) 23) :: ((w.heap.size + 1), Obj.cells (kv b.1) 23) :: (w.heap.size, Obj.cells (kv a.1) 23) :: []) from hI] at hH
      clear hI
      unfold wpOp
      refine Or.inl ?_
      simp only [e22]
      unfold Oper.wp
      go_simp
      exact OwnBy.mk _ _ _ rfl (rfl) (⟨rfl, rfl⟩) (hH)
    | 24, _ =>
      obtain rfl := Option.some.inj ho
      have e23 : f 23 = .bool true := (hd ⟨23, .guard⟩ (by simp) rfl).2.1
      clear hd ho
      have hH : Holds w (hs ++ ([] ++ R)) w1 := hH
      rw [show hs = ((gr, Obj.cells (kv k) 23) :: (gk, Obj.cells (kv k) 23) :: ((w.heap.size + 2), Obj.cells (kv c.1) 23) :: ((w.heap.size + 1), Obj.cells (kv b.1) 23) :: (w.heap.size, Obj.cells (kv a.1) 23) :: []) from hI] at hH
      clear hI
      unfold wpOp
      simp only [e23]
      refine Or.inl ?_
      unfold Oper.wp
      have hX : Holds w ((w.heap.size, Obj.cells (kv a.1) 23) :: (((gr, Obj.cells (kv k) 23) :: (gk, Obj.cells (kv k) 23) :: ((w.heap.size + 2), Obj.cells (kv c.1) 23) :: ((w.heap.size + 1), Obj.cells (kv b.1) 23) :: []) ++ R)) w1 := hH.perm (by classical rw [List.perm_iff_count]; intro a; simp only [List.count_append, List.count_cons, List.count_nil] <;> omega)
      refine wpK (.tmp 6) ⟨w.heap.size, 0, none⟩ rfl rfl (run_load_key _ _ (row_cells hX.get)) ?_
      exact OwnBy.mk _ _ _ rfl (rfl) (⟨rfl, rfl⟩) (hH)
    | 25, _ =>
      obtain rfl := Option.some.inj ho
      have e24 : f 24 = Value.agg (kv a.1) := (hd ⟨24, .data⟩ (by simp) rfl).2.1
      have e23 : f 23 = .bool true := (hd ⟨23, .guard⟩ (by simp) rfl).2.1
      clear hd ho
      have hH : Holds w (hs ++ ([] ++ R)) w1 := hH
      rw [show hs = ((gr, Obj.cells (kv k) 23) :: (gk, Obj.cells (kv k) 23) :: ((w.heap.size + 2), Obj.cells (kv c.1) 23) :: ((w.heap.size + 1), Obj.cells (kv b.1) 23) :: (w.heap.size, Obj.cells (kv a.1) 23) :: []) from hI] at hH
      clear hI
      unfold wpOp
      simp only [e24, e23]
      refine Or.inl ?_
      unfold Oper.wp
      go_simp
      refine (good_calls a.1 w1).mono ?_
      rintro e w3 ⟨rfl, hb⟩
      exact OwnBy.mk _ _ _ rfl (rfl) (⟨rfl, rfl⟩) (hH.grow hb)
    | 26, _ =>
      obtain rfl := Option.some.inj ho
      have e23 : f 23 = .bool true := (hd ⟨23, .guard⟩ (by simp) rfl).2.1
      clear hd ho
      have hH : Holds w (hs ++ ([] ++ R)) w1 := hH
      rw [show hs = ((gr, Obj.cells (kv k) 23) :: (gk, Obj.cells (kv k) 23) :: ((w.heap.size + 2), Obj.cells (kv c.1) 23) :: ((w.heap.size + 1), Obj.cells (kv b.1) 23) :: (w.heap.size, Obj.cells (kv a.1) 23) :: []) from hI] at hH
      clear hI
      unfold wpOp
      simp only [e23]
      refine Or.inl ?_
      unfold Oper.wp
      have hX : Holds w ((w.heap.size, Obj.cells (kv a.1) 23) :: (((gr, Obj.cells (kv k) 23) :: (gk, Obj.cells (kv k) 23) :: ((w.heap.size + 2), Obj.cells (kv c.1) 23) :: ((w.heap.size + 1), Obj.cells (kv b.1) 23) :: []) ++ R)) w1 := hH.perm (by classical rw [List.perm_iff_count]; intro a; simp only [List.count_append, List.count_cons, List.count_nil] <;> omega)
      refine wpK (.tmp 6) ⟨w.heap.size, 0, none⟩ rfl rfl (run_load_key _ _ (row_cells hX.get)) ?_
      exact OwnBy.mk _ _ _ rfl (rfl) (⟨rfl, rfl⟩) (hH)
    | 27, _ =>
      obtain rfl := Option.some.inj ho
      have e26 : f 26 = Value.agg (kv a.1) := (hd ⟨26, .data⟩ (by simp) rfl).2.1
      have e23 : f 23 = .bool true := (hd ⟨23, .guard⟩ (by simp) rfl).2.1
      clear hd ho
      have hH : Holds w (hs ++ ([] ++ R)) w1 := hH
      rw [show hs = ((gr, Obj.cells (kv k) 23) :: (gk, Obj.cells (kv k) 23) :: ((w.heap.size + 2), Obj.cells (kv c.1) 23) :: ((w.heap.size + 1), Obj.cells (kv b.1) 23) :: (w.heap.size, Obj.cells (kv a.1) 23) :: []) from hI] at hH
      clear hI
      unfold wpOp
      simp only [e26, e23]
      refine Or.inl ?_
      unfold Oper.wp
      go_simp
      refine (rgood_calls a.1 w1).mono ?_
      rintro e w3 ⟨rfl, hb⟩
      exact OwnBy.mk _ _ _ rfl (rfl) (⟨rfl, rfl⟩) (hH.grow hb)
    | 28, _ =>
      obtain rfl := Option.some.inj ho
      have e25 : f 25 = .bool (goodB a.1) := (hd ⟨25, .data⟩ (by simp) rfl).2.1
      have e27 : f 27 = .bool (goodB a.1) := (hd ⟨27, .data⟩ (by simp) rfl).2.1
      have e23 : f 23 = .bool true := (hd ⟨23, .guard⟩ (by simp) rfl).2.1
      clear hd ho
      have hH : Holds w (hs ++ ([] ++ R)) w1 := hH
      rw [show hs = ((gr, Obj.cells (kv k) 23) :: (gk, Obj.cells (kv k) 23) :: ((w.heap.size + 2), Obj.cells (kv c.1) 23) :: ((w.heap.size + 1), Obj.cells (kv b.1) 23) :: (w.heap.size, Obj.cells (kv a.1) 23) :: []) from hI] at hH
      clear hI
      unfold wpOp
      simp only [e25, e27, e23]
      refine Or.inl ?_
      unfold Oper.wp
      go_simp
      exact OwnBy.mk _ _ _ rfl (rfl) (⟨rfl, rfl⟩) (hH)
    | 29, _ =>
      obtain rfl := Option.some.inj ho
      have e23 : f 23 = .bool true := (hd ⟨23, .data⟩ (by simp) rfl).2.1
      have e28 : f 28 = .bool true := (hd ⟨28, .data⟩ (by simp) rfl).2.1
      clear hd ho
      have hH : Holds w (hs ++ ([] ++ R)) w1 := hH
      rw [show hs = ((gr, Obj.cells (kv k) 23) :: (gk, Obj.cells (kv k) 23) :: ((w.heap.size + 2), Obj.cells (kv c.1) 23) :: ((w.heap.size + 1), Obj.cells (kv b.1) 23) :: (w.heap.size, Obj.cells (kv a.1) 23) :: []) from hI] at hH
      clear hI
      unfold wpOp
      refine Or.inl ?_
      simp only [e23, e28]
      unfold Oper.wp
      go_simp
      exact OwnBy.mk _ _ _ rfl (rfl) (⟨rfl, rfl⟩) (hH)
    | 30, _ =>
      obtain rfl := Option.some.inj ho
      have e29 : f 29 = .bool true := (hd ⟨29, .data⟩ (by simp) rfl).2.1
      clear hd ho
      have hH : Holds w (hs ++ ([] ++ R)) w1 := hH
      rw [show hs = ((gr, Obj.cells (kv k) 23) :: (gk, Obj.cells (kv k) 23) :: ((w.heap.size + 2), Obj.cells (kv c.1) 23) :: ((w.heap.size + 1), Obj.cells (kv b.1) 23) :: (w.heap.size, Obj.cells (kv a.1) 23) :: []) from hI] at hH
      clear hI
      unfold wpOp
      refine Or.inl ?_
      simp only [e29]
      unfold Oper.wp
      go_simp
      exact OwnBy.mk _ _ _ rfl (rfl) (⟨rfl, rfl⟩) (hH)
    | 31, _ =>
      obtain rfl := Option.some.inj ho
      have e30 : f 30 = .bool true := (hd ⟨30, .guard⟩ (by simp) rfl).2.1
      clear hd ho
      have hH : Holds w (hs ++ ([] ++ R)) w1 := hH
      rw [show hs = ((gr, Obj.cells (kv k) 23) :: (gk, Obj.cells (kv k) 23) :: ((w.heap.size + 2), Obj.cells (kv c.1) 23) :: ((w.heap.size + 1), Obj.cells (kv b.1) 23) :: (w.heap.size, Obj.cells (kv a.1) 23) :: []) from hI] at hH
      clear hI
      unfold wpOp
      simp only [e30]
      refine Or.inl ?_
      unfold Oper.wp
      have hX : Holds w ((w.heap.size, Obj.cells (kv a.1) 23) :: (((gr, Obj.cells (kv k) 23) :: (gk, Obj.cells (kv k) 23) :: ((w.heap.size + 2), Obj.cells (kv c.1) 23) :: ((w.heap.size + 1), Obj.cells (kv b.1) 23) :: []) ++ R)) w1 := hH.perm (by classical rw [List.perm_iff_count]; intro a; simp only [List.count_append, List.count_cons, List.count_nil] <;> omega)
      refine wpK (.tmp 6) ⟨w.heap.size, 0, none⟩ rfl rfl (run_load_key _ _ (row_cells hX.get)) ?_
      exact OwnBy.mk _ _ _ rfl (rfl) (⟨rfl, rfl⟩) (hH)
    | 32, _ =>
      obtain rfl := Option.some.inj ho
      have e30 : f 30 = .bool true := (hd ⟨30, .guard⟩ (by simp) rfl).2.1
      clear hd ho
      have hH : Holds w (hs ++ ([] ++ R)) w1 := hH
      rw [show hs = ((gr, Obj.cells (kv k) 23) :: (gk, Obj.cells (kv k) 23) :: ((w.heap.size + 2), Obj.cells (kv c.1) 23) :: ((w.heap.size + 1), Obj.cells (kv b.1) 23) :: (w.heap.size, Obj.cells (kv a.1) 23) :: []) from hI] at hH
      clear hI
      unfold wpOp
      simp only [e30]
      refine Or.inl ?_
      unfold Oper.wp
      have hX : Holds w (((w.heap.size + 1), Obj.cells (kv b.1) 23) :: (((gr, Obj.cells (kv k) 23) :: (gk, Obj.cells (kv k) 23) :: ((w.heap.size + 2), Obj.cells (kv c.1) 23) :: (w.heap.size, Obj.cells (kv a.1) 23) :: []) ++ R)) w1 := hH.perm (by classical rw [List.perm_iff_count]; intro a; simp only [List.count_append, List.count_cons, List.count_nil] <;> omega)
      refine wpK (.tmp 7) ⟨(w.heap.size + 1), 0, none⟩ rfl rfl (run_load_key _ _ (row_cells hX.get)) ?_
      exact OwnBy.mk _ _ _ rfl (rfl) (⟨rfl, rfl⟩) (hH)
    | 33, _ =>
      obtain rfl := Option.some.inj ho
      have e31 : f 31 = Value.agg (kv a.1) := (hd ⟨31, .data⟩ (by simp) rfl).2.1
      have e32 : f 32 = Value.agg (kv b.1) := (hd ⟨32, .data⟩ (by simp) rfl).2.1
      have e30 : f 30 = .bool true := (hd ⟨30, .guard⟩ (by simp) rfl).2.1
      clear hd ho
      have hH : Holds w (hs ++ ([] ++ R)) w1 := hH
      rw [show hs = ((gr, Obj.cells (kv k) 23) :: (gk, Obj.cells (kv k) 23) :: ((w.heap.size + 2), Obj.cells (kv c.1) 23) :: ((w.heap.size + 1), Obj.cells (kv b.1) 23) :: (w.heap.size, Obj.cells (kv a.1) 23) :: []) from hI] at hH
      clear hI
      unfold wpOp
      simp only [e31, e32, e30]
      refine Or.inl ?_
      unfold Oper.wp
      go_simp
      refine (cmpK_calls a.1 b.1 w1).mono ?_
      rintro e w3 ⟨rfl, hb⟩
      exact OwnBy.mk _ _ _ rfl (rfl) (⟨rfl, rfl⟩) (hH.grow hb)
    | 34, _ =>
      obtain rfl := Option.some.inj ho
      have e30 : f 30 = .bool true := (hd ⟨30, .guard⟩ (by simp) rfl).2.1
      clear hd ho
      have hH : Holds w (hs ++ ([] ++ R)) w1 := hH
      rw [show hs = ((gr, Obj.cells (kv k) 23) :: (gk, Obj.cells (kv k) 23) :: ((w.heap.size + 2), Obj.cells (kv c.1) 23) :: ((w.heap.size + 1), Obj.cells (kv b.1) 23) :: (w.heap.size, Obj.cells (kv a.1) 23) :: []) from hI] at hH
      clear hI
      unfold wpOp
      simp only [e30]
      refine Or.inl ?_
      unfold Oper.wp
      have hX : Holds w ((w.heap.size, Obj.cells (kv a.1) 23) :: (((gr, Obj.cells (kv k) 23) :: (gk, Obj.cells (kv k) 23) :: ((w.heap.size + 2), Obj.cells (kv c.1) 23) :: ((w.heap.size + 1), Obj.cells (kv b.1) 23) :: []) ++ R)) w1 := hH.perm (by classical rw [List.perm_iff_count]; intro a; simp only [List.count_append, List.count_cons, List.count_nil] <;> omega)
      refine wpK (.tmp 6) ⟨w.heap.size, 0, none⟩ rfl rfl (run_load_key _ _ (row_cells hX.get)) ?_
      exact OwnBy.mk _ _ _ rfl (rfl) (⟨rfl, rfl⟩) (hH)
    | 35, _ =>
      obtain rfl := Option.some.inj ho
      have e30 : f 30 = .bool true := (hd ⟨30, .guard⟩ (by simp) rfl).2.1
      clear hd ho
      have hH : Holds w (hs ++ ([] ++ R)) w1 := hH
      rw [show hs = ((gr, Obj.cells (kv k) 23) :: (gk, Obj.cells (kv k) 23) :: ((w.heap.size + 2), Obj.cells (kv c.1) 23) :: ((w.heap.size + 1), Obj.cells (kv b.1) 23) :: (w.heap.size, Obj.cells (kv a.1) 23) :: []) from hI] at hH
      clear hI
      unfold wpOp
      simp only [e30]
      refine Or.inl ?_
      unfold Oper.wp
      have hX : Holds w (((w.heap.size + 1), Obj.cells (kv b.1) 23) :: (((gr, Obj.cells (kv k) 23) :: (gk, Obj.cells (kv k) 23) :: ((w.heap.size + 2), Obj.cells (kv c.1) 23) :: (w.heap.size, Obj.cells (kv a.1) 23) :: []) ++ R)) w1 := hH.perm (by classical rw [List.perm_iff_count]; intro a; simp only [List.count_append, List.count_cons, List.count_nil] <;> omega)
      refine wpK (.tmp 7) ⟨(w.heap.size + 1), 0, none⟩ rfl rfl (run_load_key _ _ (row_cells hX.get)) ?_
      exact OwnBy.mk _ _ _ rfl (rfl) (⟨rfl, rfl⟩) (hH)
    | 36, _ =>
      obtain rfl := Option.some.inj ho
      have e34 : f 34 = Value.agg (kv a.1) := (hd ⟨34, .data⟩ (by simp) rfl).2.1
      have e35 : f 35 = Value.agg (kv b.1) := (hd ⟨35, .data⟩ (by simp) rfl).2.1
      have e30 : f 30 = .bool true := (hd ⟨30, .guard⟩ (by simp) rfl).2.1
      clear hd ho
      have hH : Holds w (hs ++ ([] ++ R)) w1 := hH
      rw [show hs = ((gr, Obj.cells (kv k) 23) :: (gk, Obj.cells (kv k) 23) :: ((w.heap.size + 2), Obj.cells (kv c.1) 23) :: ((w.heap.size + 1), Obj.cells (kv b.1) 23) :: (w.heap.size, Obj.cells (kv a.1) 23) :: []) from hI] at hH
      clear hI
      unfold wpOp
      simp only [e34, e35, e30]
      refine Or.inl ?_
      unfold Oper.wp
      go_simp
      refine (rcmp_calls a.1 b.1 w1).mono ?_
      rintro e w3 ⟨rfl, hb⟩
      exact OwnBy.mk _ _ _ rfl (rfl) (⟨rfl, rfl⟩) (hH.grow hb)
    | 37, _ =>
      obtain rfl := Option.some.inj ho
      have e33 : f 33 = .int .i64 (cmpK a.1 b.1) := (hd ⟨33, .data⟩ (by simp) rfl).2.1
      have e36 : f 36 = .int .i64 (cmpK a.1 b.1) := (hd ⟨36, .data⟩ (by simp) rfl).2.1
      have e30 : f 30 = .bool true := (hd ⟨30, .guard⟩ (by simp) rfl).2.1
      clear hd ho
      have hH : Holds w (hs ++ ([] ++ R)) w1 := hH
      rw [show hs = ((gr, Obj.cells (kv k) 23) :: (gk, Obj.cells (kv k) 23) :: ((w.heap.size + 2), Obj.cells (kv c.1) 23) :: ((w.heap.size + 1), Obj.cells (kv b.1) 23) :: (w.heap.size, Obj.cells (kv a.1) 23) :: []) from hI] at hH
      clear hI
      unfold wpOp
      simp only [e33, e36, e30]
      refine Or.inl ?_
      unfold Oper.wp
      go_simp
      exact OwnBy.mk _ _ _ rfl (rfl) (⟨rfl, rfl⟩) (hH)
    | 38, _ =>
      obtain rfl := Option.some.inj ho
      have e30 : f 30 = .bool true := (hd ⟨30, .data⟩ (by simp) rfl).2.1
      have e37 : f 37 = .bool true := (hd ⟨37, .data⟩ (by simp) rfl).2.1
      clear hd ho
      have hH : Holds w (hs ++ ([] ++ R)) w1 := hH
      rw [show hs = ((gr, Obj.cells (kv k) 23) :: (gk, Obj.cells (kv k) 23) :: ((w.heap.size + 2), Obj.cells (kv c.1) 23) :: ((w.heap.size + 1), Obj.cells (kv b.1) 23) :: (w.heap.size, Obj.cells (kv a.1) 23) :: []) from hI] at hH
      clear hI
      unfold wpOp
      refine Or.inl ?_
      simp only [e30, e37]
      unfold Oper.wp
      go_simp
      exact OwnBy.mk _ _ _ rfl (rfl) (⟨rfl, rfl⟩) (hH)
    | 39, _ =>
      obtain rfl := Option.some.inj ho
      have e38 : f 38 = .bool true := (hd ⟨38, .data⟩ (by simp) rfl).2.1
      clear hd ho
      have hH : Holds w (hs ++ ([] ++ R)) w1 := hH
      rw [show hs = ((gr, Obj.cells (kv k) 23) :: (gk, Obj.cells (kv k) 23) :: ((w.heap.size + 2), Obj.cells (kv c.1) 23) :: ((w.heap.size + 1), Obj.cells (kv b.1) 23) :: (w.heap.size, Obj.cells (kv a.1) 23) :: []) from hI] at hH
      clear hI
      unfold wpOp
      refine Or.inl ?_
      simp only [e38]
      unfold Oper.wp
      go_simp
      exact OwnBy.mk _ _ _ rfl (rfl) (⟨rfl, rfl⟩) (hH)
    | 40, _ =>
      obtain rfl := Option.some.inj ho
      have e39 : f 39 = .bool true := (hd ⟨39, .guard⟩ (by simp) rfl).2.1
      clear hd ho
      have hH : Holds w (hs ++ ([] ++ R)) w1 := hH
      rw [show hs = ((gr, Obj.cells (kv k) 23) :: (gk, Obj.cells (kv k) 23) :: ((w.heap.size + 2), Obj.cells (kv c.1) 23) :: ((w.heap.size + 1), Obj.cells (kv b.1) 23) :: (w.heap.size, Obj.cells (kv a.1) 23) :: []) from hI] at hH
      clear hI
      unfold wpOp
      simp only [e39]
      refine Or.inl ?_
      unfold Oper.wp
      have hX : Holds w ((w.heap.size, Obj.cells (kv a.1) 23) :: (((gr, Obj.cells (kv k) 23) :: (gk, Obj.cells (kv k) 23) :: ((w.heap.size + 2), Obj.cells (kv c.1) 23) :: ((w.heap.size + 1), Obj.cells (kv b.1) 23) :: []) ++ R)) w1 := hH.perm (by classical rw [List.perm_iff_count]; intro a; simp only [List.count_append, List.count_cons, List.count_nil] <;> omega)
      refine wpK (.tmp 6) ⟨w.heap.size, 0, none⟩ rfl rfl (run_load_key _ _ (row_cells hX.get)) ?_
      exact OwnBy.mk _ _ _ rfl (rfl) (⟨rfl, rfl⟩) (hH)
    | 41, _ =>
      obtain rfl := Option.some.inj ho
      have e39 : f 39 = .bool true := (hd ⟨39, .guard⟩ (by simp) rfl).2.1
      clear hd ho
      have hH : Holds w (hs ++ ([] ++ R)) w1 := hH
      rw [show hs = ((gr, Obj.cells (kv k) 23) :: (gk, Obj.cells (kv k) 23) :: ((w.heap.size + 2), Obj.cells (kv c.1) 23) :: ((w.heap.size + 1), Obj.cells (kv b.1) 23) :: (w.heap.size, Obj.cells (kv a.1) 23) :: []) from hI] at hH
      clear hI
      unfold wpOp
      simp only [e39]
      refine Or.inl ?_
      unfold Oper.wp
      have hX : Holds w (((w.heap.size + 1), Obj.cells (kv b.1) 23) :: (((gr, Obj.cells (kv k) 23) :: (gk, Obj.cells (kv k) 23) :: ((w.heap.size + 2), Obj.cells (kv c.1) 23) :: (w.heap.size, Obj.cells (kv a.1) 23) :: []) ++ R)) w1 := hH.perm (by classical rw [List.perm_iff_count]; intro a; simp only [List.count_append, List.count_cons, List.count_nil] <;> omega)
      refine wpK (.tmp 7) ⟨(w.heap.size + 1), 0, none⟩ rfl rfl (run_load_key _ _ (row_cells hX.get)) ?_
      exact OwnBy.mk _ _ _ rfl (rfl) (⟨rfl, rfl⟩) (hH)
    | 42, _ =>
      obtain rfl := Option.some.inj ho
      have e39 : f 39 = .bool true := (hd ⟨39, .guard⟩ (by simp) rfl).2.1
      clear hd ho
      have hH : Holds w (hs ++ ([] ++ R)) w1 := hH
      rw [show hs = ((gr, Obj.cells (kv k) 23) :: (gk, Obj.cells (kv k) 23) :: ((w.heap.size + 2), Obj.cells (kv c.1) 23) :: ((w.heap.size + 1), Obj.cells (kv b.1) 23) :: (w.heap.size, Obj.cells (kv a.1) 23) :: []) from hI] at hH
      clear hI
      unfold wpOp
      simp only [e39]
      refine Or.inl ?_
      unfold Oper.wp
      have hX : Holds w (((w.heap.size + 2), Obj.cells (kv c.1) 23) :: (((gr, Obj.cells (kv k) 23) :: (gk, Obj.cells (kv k) 23) :: ((w.heap.size + 1), Obj.cells (kv b.1) 23) :: (w.heap.size, Obj.cells (kv a.1) 23) :: []) ++ R)) w1 := hH.perm (by classical rw [List.perm_iff_count]; intro a; simp only [List.count_append, List.count_cons, List.count_nil] <;> omega)
      refine wpK (.tmp 8) ⟨(w.heap.size + 2), 0, none⟩ rfl rfl (run_load_key _ _ (row_cells hX.get)) ?_
      exact OwnBy.mk _ _ _ rfl (rfl) (⟨rfl, rfl⟩) (hH)
    | 43, _ =>
      obtain rfl := Option.some.inj ho
      have e40 : f 40 = Value.agg (kv a.1) := (hd ⟨40, .data⟩ (by simp) rfl).2.1
      have e41 : f 41 = Value.agg (kv b.1) := (hd ⟨41, .data⟩ (by simp) rfl).2.1
      have e42 : f 42 = Value.agg (kv c.1) := (hd ⟨42, .data⟩ (by simp) rfl).2.1
      have e39 : f 39 = .bool true := (hd ⟨39, .guard⟩ (by simp) rfl).2.1
      clear hd ho
      have hH : Holds w (hs ++ ([] ++ R)) w1 := hH
      rw [show hs = ((gr, Obj.cells (kv k) 23) :: (gk, Obj.cells (kv k) 23) :: ((w.heap.size + 2), Obj.cells (kv c.1) 23) :: ((w.heap.size + 1), Obj.cells (kv b.1) 23) :: (w.heap.size, Obj.cells (kv a.1) 23) :: []) from hI] at hH
      clear hI
      unfold wpOp
      simp only [e40, e41, e42, e39]
      refine Or.inl ?_
      unfold Oper.wp
      go_simp
      refine (within_calls a.1 b.1 c.1 w1).mono ?_
      rintro e w3 ⟨rfl, hb⟩
      exact OwnBy.mk _ _ _ rfl (rfl) (⟨rfl, rfl⟩) (hH.grow hb)
    | 44, _ =>
      obtain rfl := Option.some.inj ho
      have e39 : f 39 = .bool true := (hd ⟨39, .guard⟩ (by simp) rfl).2.1
      clear hd ho
      have hH : Holds w (hs ++ ([] ++ R)) w1 := hH
      rw [show hs = ((gr, Obj.cells (kv k) 23) :: (gk, Obj.cells (kv k) 23) :: ((w.heap.size + 2), Obj.cells (kv c.1) 23) :: ((w.heap.size + 1), Obj.cells (kv b.1) 23) :: (w.heap.size, Obj.cells (kv a.1) 23) :: []) from hI] at hH
      clear hI
      unfold wpOp
      simp only [e39]
      refine Or.inl ?_
      unfold Oper.wp
      have hX : Holds w ((w.heap.size, Obj.cells (kv a.1) 23) :: (((gr, Obj.cells (kv k) 23) :: (gk, Obj.cells (kv k) 23) :: ((w.heap.size + 2), Obj.cells (kv c.1) 23) :: ((w.heap.size + 1), Obj.cells (kv b.1) 23) :: []) ++ R)) w1 := hH.perm (by classical rw [List.perm_iff_count]; intro a; simp only [List.count_append, List.count_cons, List.count_nil] <;> omega)
      refine wpK (.tmp 6) ⟨w.heap.size, 0, none⟩ rfl rfl (run_load_key _ _ (row_cells hX.get)) ?_
      exact OwnBy.mk _ _ _ rfl (rfl) (⟨rfl, rfl⟩) (hH)
    | 45, _ =>
      obtain rfl := Option.some.inj ho
      have e39 : f 39 = .bool true := (hd ⟨39, .guard⟩ (by simp) rfl).2.1
      clear hd ho
      have hH : Holds w (hs ++ ([] ++ R)) w1 := hH
      rw [show hs = ((gr, Obj.cells (kv k) 23) :: (gk, Obj.cells (kv k) 23) :: ((w.heap.size + 2), Obj.cells (kv c.1) 23) :: ((w.heap.size + 1), Obj.cells (kv b.1) 23) :: (w.heap.size, Obj.cells (kv a.1) 23) :: []) from hI] at hH
      clear hI
      unfold wpOp
      simp only [e39]
      refine Or.inl ?_
      unfold Oper.wp
      have hX : Holds w (((w.heap.size + 1), Obj.cells (kv b.1) 23) :: (((gr, Obj.cells (kv k) 23) :: (gk, Obj.cells (kv k) 23) :: ((w.heap.size + 2), Obj.cells (kv c.1) 23) :: (w.heap.size, Obj.cells (kv a.1) 23) :: []) ++ R)) w1 := hH.perm (by classical rw [List.perm_iff_count]; intro a; simp only [List.count_append, List.count_cons, List.count_nil] <;> omega)
      refine wpK (.tmp 7) ⟨(w.heap.size + 1), 0, none⟩ rfl rfl (run_load_key _ _ (row_cells hX.get)) ?_
      exact OwnBy.mk _ _ _ rfl (rfl) (⟨rfl, rfl⟩) (hH)
    | 46, _ =>
      obtain rfl := Option.some.inj ho
      have e39 : f 39 = .bool true := (hd ⟨39, .guard⟩ (by simp) rfl).2.1
      clear hd ho
      have hH : Holds w (hs ++ ([] ++ R)) w1 := hH
      rw [show hs = ((gr, Obj.cells (kv k) 23) :: (gk, Obj.cells (kv k) 23) :: ((w.heap.size + 2), Obj.cells (kv c.1) 23) :: ((w.heap.size + 1), Obj.cells (kv b.1) 23) :: (w.heap.size, Obj.cells (kv a.1) 23) :: []) from hI] at hH
      clear hI
      unfold wpOp
      simp only [e39]
      refine Or.inl ?_
      unfold Oper.wp
      have hX : Holds w (((w.heap.size + 2), Obj.cells (kv c.1) 23) :: (((gr, Obj.cells (kv k) 23) :: (gk, Obj.cells (kv k) 23) :: ((w.heap.size + 1), Obj.cells (kv b.1) 23) :: (w.heap.size, Obj.cells (kv a.1) 23) :: []) ++ R)) w1 := hH.perm (by classical rw [List.perm_iff_count]; intro a; simp only [List.count_append, List.count_cons, List.count_nil] <;> omega)
      refine wpK (.tmp 8) ⟨(w.heap.size + 2), 0, none⟩ rfl rfl (run_load_key _ _ (row_cells hX.get)) ?_
      exact OwnBy.mk _ _ _ rfl (rfl) (⟨rfl, rfl⟩) (hH)
    | 47, _ =>
      obtain rfl := Option.some.inj ho
      have e44 : f 44 = Value.agg (kv a.1) := (hd ⟨44, .data⟩ (by simp) rfl).2.1
      have e45 : f 45 = Value.agg (kv b.1) := (hd ⟨45, .data⟩ (by simp) rfl).2.1
      have e46 : f 46 = Value.agg (kv c.1) := (hd ⟨46, .data⟩ (by simp) rfl).2.1
      have e39 : f 39 = .bool true := (hd ⟨39, .guard⟩ (by simp) rfl).2.1
      clear hd ho
      have hH : Holds w (hs ++ ([] ++ R)) w1 := hH
      rw [show hs = ((gr, Obj.cells (kv k) 23) :: (gk, Obj.cells (kv k) 23) :: ((w.heap.size + 2), Obj.cells (kv c.1) 23) :: ((w.heap.size + 1), Obj.cells (kv b.1) 23) :: (w.heap.size, Obj.cells (kv a.1) 23) :: []) from hI] at hH
      clear hI
      unfold wpOp
      simp only [e44, e45, e46, e39]
      refine Or.inl ?_
      unfold Oper.wp
      go_simp
      refine (rwithin_calls a.1 b.1 c.1 w1).mono ?_
      rintro e w3 ⟨rfl, hb⟩
      exact OwnBy.mk _ _ _ rfl (rfl) (⟨rfl, rfl⟩) (hH.grow hb)
    | 48, _ =>
      obtain rfl := Option.some.inj ho
      have e43 : f 43 = .bool (withinB a.1 b.1 c.1) := (hd ⟨43, .data⟩ (by simp) rfl).2.1
      have e47 : f 47 = .bool (withinB a.1 b.1 c.1) := (hd ⟨47, .data⟩ (by simp) rfl).2.1
      have e39 : f 39 = .bool true := (hd ⟨39, .guard⟩ (by simp) rfl).2.1
      clear hd ho
      have hH : Holds w (hs ++ ([] ++ R)) w1 := hH
      rw [show hs = ((gr, Obj.cells (kv k) 23) :: (gk, Obj.cells (kv k) 23) :: ((w.heap.size + 2), Obj.cells (kv c.1) 23) :: ((w.heap.size + 1), Obj.cells (kv b.1) 23) :: (w.heap.size, Obj.cells (kv a.1) 23) :: []) from hI] at hH
      clear hI
      unfold wpOp
      simp only [e43, e47, e39]
      refine Or.inl ?_
      unfold Oper.wp
      go_simp
      exact OwnBy.mk _ _ _ rfl (rfl) (⟨rfl, rfl⟩) (hH)
    | 49, _ =>
      obtain rfl := Option.some.inj ho
      have e39 : f 39 = .bool true := (hd ⟨39, .data⟩ (by simp) rfl).2.1
      have e48 : f 48 = .bool true := (hd ⟨48, .data⟩ (by simp) rfl).2.1
      clear hd ho
      have hH : Holds w (hs ++ ([] ++ R)) w1 := hH
      rw [show hs = ((gr, Obj.cells (kv k) 23) :: (gk, Obj.cells (kv k) 23) :: ((w.heap.size + 2), Obj.cells (kv c.1) 23) :: ((w.heap.size + 1), Obj.cells (kv b.1) 23) :: (w.heap.size, Obj.cells (kv a.1) 23) :: []) from hI] at hH
      clear hI
      unfold wpOp
      refine Or.inl ?_
      simp only [e39, e48]
      unfold Oper.wp
      go_simp
      exact OwnBy.mk _ _ _ rfl (rfl) (⟨rfl, rfl⟩) (hH)
    | 50, _ =>
      obtain rfl := Option.some.inj ho
      have e49 : f 49 = .bool true := (hd ⟨49, .data⟩ (by simp) rfl).2.1
      clear hd ho
      have hH : Holds w (hs ++ ([] ++ R)) w1 := hH
      rw [show hs = ((gr, Obj.cells (kv k) 23) :: (gk, Obj.cells (kv k) 23) :: ((w.heap.size + 2), Obj.cells (kv c.1) 23) :: ((w.heap.size + 1), Obj.cells (kv b.1) 23) :: (w.heap.size, Obj.cells (kv a.1) 23) :: []) from hI] at hH
      clear hI
      unfold wpOp
      refine Or.inl ?_
      simp only [e49]
      unfold Oper.wp
      go_simp
      exact OwnBy.mk _ _ _ rfl (rfl) (⟨rfl, rfl⟩) (hH)
    | 51, _ =>
      obtain rfl := Option.some.inj ho
      have e50 : f 50 = .bool true := (hd ⟨50, .guard⟩ (by simp) rfl).2.1
      clear hd ho
      have hH : Holds w (hs ++ ([] ++ R)) w1 := hH
      rw [show hs = ((gr, Obj.cells (kv k) 23) :: (gk, Obj.cells (kv k) 23) :: ((w.heap.size + 2), Obj.cells (kv c.1) 23) :: ((w.heap.size + 1), Obj.cells (kv b.1) 23) :: (w.heap.size, Obj.cells (kv a.1) 23) :: []) from hI] at hH
      clear hI
      unfold wpOp
      simp only [e50]
      refine Or.inl ?_
      unfold Oper.wp
      have hX : Holds w ((w.heap.size, Obj.cells (kv a.1) 23) :: (((gr, Obj.cells (kv k) 23) :: (gk, Obj.cells (kv k) 23) :: ((w.heap.size + 2), Obj.cells (kv c.1) 23) :: ((w.heap.size + 1), Obj.cells (kv b.1) 23) :: []) ++ R)) w1 := hH.perm (by classical rw [List.perm_iff_count]; intro a; simp only [List.count_append, List.count_cons, List.count_nil] <;> omega)
      refine wpK (.tmp 6) ⟨w.heap.size, 0, none⟩ rfl rfl (run_load_key _ _ (row_cells hX.get)) ?_
      exact OwnBy.mk _ _ _ rfl (rfl) (⟨rfl, rfl⟩) (hH)
    | 52, _ =>
      obtain rfl := Option.some.inj ho
      have e51 : f 51 = Value.agg (kv a.1) := (hd ⟨51, .data⟩ (by simp) rfl).2.1
      have e50 : f 50 = .bool true := (hd ⟨50, .guard⟩ (by simp) rfl).2.1
      clear hd ho
      have hH : Holds w (hs ++ ([] ++ R)) w1 := hH
      rw [show hs = ((gr, Obj.cells (kv k) 23) :: (gk, Obj.cells (kv k) 23) :: ((w.heap.size + 2), Obj.cells (kv c.1) 23) :: ((w.heap.size + 1), Obj.cells (kv b.1) 23) :: (w.heap.size, Obj.cells (kv a.1) 23) :: []) from hI] at hH
      clear hI
      unfold wpOp
      simp only [e51, e50]
      refine Or.inl ?_
      unfold Oper.wp
      go_simp
      refine (sum_calls a.1 w1).mono ?_
      rintro e w3 ⟨rfl, hb⟩
      exact OwnBy.mk _ _ _ rfl (rfl) (⟨rfl, rfl⟩) (hH.grow hb)
    | 53, _ =>
      obtain rfl := Option.some.inj ho
      have e50 : f 50 = .bool true := (hd ⟨50, .guard⟩ (by simp) rfl).2.1
      clear hd ho
      have hH : Holds w (hs ++ ([] ++ R)) w1 := hH
      rw [show hs = ((gr, Obj.cells (kv k) 23) :: (gk, Obj.cells (kv k) 23) :: ((w.heap.size + 2), Obj.cells (kv c.1) 23) :: ((w.heap.size + 1), Obj.cells (kv b.1) 23) :: (w.heap.size, Obj.cells (kv a.1) 23) :: []) from hI] at hH
      clear hI
      unfold wpOp
      simp only [e50]
      refine Or.inl ?_
      unfold Oper.wp
      have hX : Holds w ((w.heap.size, Obj.cells (kv a.1) 23) :: (((gr, Obj.cells (kv k) 23) :: (gk, Obj.cells (kv k) 23) :: ((w.heap.size + 2), Obj.cells (kv c.1) 23) :: ((w.heap.size + 1), Obj.cells (kv b.1) 23) :: []) ++ R)) w1 := hH.perm (by classical rw [List.perm_iff_count]; intro a; simp only [List.count_append, List.count_cons, List.count_nil] <;> omega)
      refine wpK (.tmp 6) ⟨w.heap.size, 0, none⟩ rfl rfl (run_load_key _ _ (row_cells hX.get)) ?_
      exact OwnBy.mk _ _ _ rfl (rfl) (⟨rfl, rfl⟩) (hH)
    | 54, _ =>
      obtain rfl := Option.some.inj ho
      have e53 : f 53 = Value.agg (kv a.1) := (hd ⟨53, .data⟩ (by simp) rfl).2.1
      have e50 : f 50 = .bool true := (hd ⟨50, .guard⟩ (by simp) rfl).2.1
      clear hd ho
      have hH : Holds w (hs ++ ([] ++ R)) w1 := hH
      rw [show hs = ((gr, Obj.cells (kv k) 23) :: (gk, Obj.cells (kv k) 23) :: ((w.heap.size + 2), Obj.cells (kv c.1) 23) :: ((w.heap.size + 1), Obj.cells (kv b.1) 23) :: (w.heap.size, Obj.cells (kv a.1) 23) :: []) from hI] at hH
      clear hI
      unfold wpOp
      simp only [e53, e50]
      refine Or.inl ?_
      unfold Oper.wp
      go_simp
      refine (rsum_calls a.1 w1).mono ?_
      rintro e w3 ⟨rfl, hb⟩
      exact OwnBy.mk _ _ _ rfl (rfl) (⟨rfl, rfl⟩) (hH.grow hb)
    | 55, _ =>
      obtain rfl := Option.some.inj ho
      have e52 : f 52 = .int .u32 (sumTo a.1 16) := (hd ⟨52, .data⟩ (by simp) rfl).2.1
      have e54 : f 54 = .int .u32 (sumTo a.1 16) := (hd ⟨54, .data⟩ (by simp) rfl).2.1
      have e50 : f 50 = .bool true := (hd ⟨50, .guard⟩ (by simp) rfl).2.1
      clear hd ho
      have hH : Holds w (hs ++ ([] ++ R)) w1 := hH
      rw [show hs = ((gr, Obj.cells (kv k) 23) :: (gk, Obj.cells (kv k) 23) :: ((w.heap.size + 2), Obj.cells (kv c.1) 23) :: ((w.heap.size + 1), Obj.cells (kv b.1) 23) :: (w.heap.size, Obj.cells (kv a.1) 23) :: []) from hI] at hH
      clear hI
      unfold wpOp
      simp only [e52, e54, e50]
      refine Or.inl ?_
      unfold Oper.wp
      go_simp
      exact OwnBy.mk _ _ _ rfl (rfl) (⟨rfl, rfl⟩) (hH)
    | 56, _ =>
      obtain rfl := Option.some.inj ho
      have e50 : f 50 = .bool true := (hd ⟨50, .data⟩ (by simp) rfl).2.1
      have e55 : f 55 = .bool true := (hd ⟨55, .data⟩ (by simp) rfl).2.1
      clear hd ho
      have hH : Holds w (hs ++ ([] ++ R)) w1 := hH
      rw [show hs = ((gr, Obj.cells (kv k) 23) :: (gk, Obj.cells (kv k) 23) :: ((w.heap.size + 2), Obj.cells (kv c.1) 23) :: ((w.heap.size + 1), Obj.cells (kv b.1) 23) :: (w.heap.size, Obj.cells (kv a.1) 23) :: []) from hI] at hH
      clear hI
      unfold wpOp
      refine Or.inl ?_
      simp only [e50, e55]
      unfold Oper.wp
      go_simp
      exact OwnBy.mk _ _ _ rfl (rfl) (⟨rfl, rfl⟩) (hH)
    | 57, _ =>
      obtain rfl := Option.some.inj ho
      have e56 : f 56 = .bool true := (hd ⟨56, .data⟩ (by simp) rfl).2.1
      clear hd ho
      have hH : Holds w (hs ++ ([] ++ R)) w1 := hH
      rw [show hs = ((gr, Obj.cells (kv k) 23) :: (gk, Obj.cells (kv k) 23) :: ((w.heap.size + 2), Obj.cells (kv c.1) 23) :: ((w.heap.size + 1), Obj.cells (kv b.1) 23) :: (w.heap.size, Obj.cells (kv a.1) 23) :: []) from hI] at hH
      clear hI
      unfold wpOp
      refine Or.inl ?_
      simp only [e56]
      unfold Oper.wp
      go_simp
      exact OwnBy.mk _ _ _ rfl (rfl) (⟨rfl, rfl⟩) (hH)
    | 58, _ =>
      obtain rfl := Option.some.inj ho
      have e57 : f 57 = .bool true := (hd ⟨57, .guard⟩ (by simp) rfl).2.1
      clear hd ho
      have hH : Holds w (hs ++ ([] ++ R)) w1 := hH
      rw [show hs = ((gr, Obj.cells (kv k) 23) :: (gk, Obj.cells (kv k) 23) :: ((w.heap.size + 2), Obj.cells (kv c.1) 23) :: ((w.heap.size + 1), Obj.cells (kv b.1) 23) :: (w.heap.size, Obj.cells (kv a.1) 23) :: []) from hI] at hH
      clear hI
      unfold wpOp
      simp only [e57]
      refine Or.inl ?_
      unfold Oper.wp
      go_simp
      exact OwnBy.mk _ _ _ rfl (rfl) (⟨rfl, rfl⟩) (hH)
    | 59, _ =>
      obtain rfl := Option.some.inj ho
      have e58 : f 58 = .slice A n cap := (hd ⟨58, .data⟩ (by simp) rfl).2.1
      have e57 : f 57 = .bool true := (hd ⟨57, .guard⟩ (by simp) rfl).2.1
      clear hd ho
      have hH : Holds w (hs ++ ([] ++ R)) w1 := hH
      rw [show hs = ((gr, Obj.cells (kv k) 23) :: (gk, Obj.cells (kv k) 23) :: ((w.heap.size + 2), Obj.cells (kv c.1) 23) :: ((w.heap.size + 1), Obj.cells (kv b.1) 23) :: (w.heap.size, Obj.cells (kv a.1) 23) :: []) from hI] at hH
      clear hI
      unfold wpOp
      simp only [e58, e57]
      refine Or.inl ?_
      unfold Oper.wp
      have hc := ksort_calls A cap ks (by rw [HN.out]; omega) w1 (HA.out.below hH.below)
      rw [HN.out] at hc
      go_simp
      refine hc.mono ?_
      rintro e w3 ⟨v, rfl, h3, hR3, hH3⟩
      exact OwnBy.mk v h3 _ rfl rfl (by have := hR3; rw [← HS.out, HM.out] at this; exact this) ((Holds.join hH hH3).perm (by classical rw [List.perm_iff_count]; intro a; simp only [List.count_append, List.count_cons, List.count_nil] <;> omega))
    | 60, _ =>
      obtain rfl := Option.some.inj ho
      have e57 : f 57 = .bool true := (hd ⟨57, .guard⟩ (by simp) rfl).2.1
      clear hd ho
      have hH : Holds w (hs ++ ([] ++ R)) w1 := hH
      rw [show hs = ((gr, Obj.cells (kv k) 23) :: (gk, Obj.cells (kv k) 23) :: ((w.heap.size + 2), Obj.cells (kv c.1) 23) :: ((w.heap.size + 1), Obj.cells (kv b.1) 23) :: (w.heap.size, Obj.cells (kv a.1) 23) :: []) from hI] at hH
      clear hI
      unfold wpOp
      simp only [e57]
      refine Or.inl ?_
      unfold Oper.wp
      go_simp
      exact OwnBy.mk _ _ _ rfl (rfl) (⟨rfl, rfl⟩) (hH)
    | 61, _ =>
      obtain rfl := Option.some.inj ho
      have e60 : f 60 = .slice A n cap := (hd ⟨60, .data⟩ (by simp) rfl).2.1
      have e57 : f 57 = .bool true := (hd ⟨57, .guard⟩ (by simp) rfl).2.1
      clear hd ho
      have hH : Holds w (hs ++ ([] ++ R)) w1 := hH
      rw [show hs = ((gr, Obj.cells (kv k) 23) :: (gk, Obj.cells (kv k) 23) :: ((w.heap.size + 2), Obj.cells (kv c.1) 23) :: ((w.heap.size + 1), Obj.cells (kv b.1) 23) :: (w.heap.size, Obj.cells (kv a.1) 23) :: []) from hI] at hH
      clear hI
      unfold wpOp
      simp only [e60, e57]
      refine Or.inl ?_
      unfold Oper.wp
      have hc := rsort_calls A cap ks w1 (by rw [HN.out]; omega) (HA.out.below hH.below)
      rw [HN.out] at hc
      go_simp
      refine hc.mono ?_
      rintro e w3 ⟨v, rfl, h3, hR3, hH3⟩
      exact OwnBy.mk v h3 _ rfl rfl (by have := hR3; rw [← sorts_one, ← HS.out, HM.out] at this; exact this) ((Holds.join hH hH3).perm (by classical rw [List.perm_iff_count]; intro a; simp only [List.count_append, List.count_cons, List.count_nil] <;> omega))
    | 62, _ =>
      obtain rfl := Option.some.inj ho
      have e59 := (hd ⟨59, .data⟩ (by simp) rfl).2
      obtain ⟨A59, c59, q59, _, _⟩ := RowB.form e59
      have e61 := (hd ⟨61, .data⟩ (by simp) rfl).2
      obtain ⟨A61, c61, q61, _, _⟩ := RowB.form e61
      have e57 : f 57 = .bool true := (hd ⟨57, .guard⟩ (by simp) rfl).2.1
      clear hd ho
      have hH : Holds w (hs ++ ((Hf 59 ++ (Hf 61 ++ ([]))) ++ R)) w1 := hH
      simp only [List.append_nil, List.append_assoc] at hH
      rw [show hs = ((gr, Obj.cells (kv k) 23) :: (gk, Obj.cells (kv k) 23) :: ((w.heap.size + 2), Obj.cells (kv c.1) 23) :: ((w.heap.size + 1), Obj.cells (kv b.1) 23) :: (w.heap.size, Obj.cells (kv a.1) 23) :: []) from hI] at hH
      clear hI
      unfold wpOp
      simp only [e57]
      refine Or.inl ?_
      unfold Oper.wp
      rw [q59] at e59
      rw [q61] at e61
      rw [q59, q61]
      have k1 := KAt.of_row e59 (hH.perm (k := Hf 59 ++ (Hf 61 ++ (((gr, Obj.cells (kv k) 23) :: (gk, Obj.cells (kv k) 23) :: ((w.heap.size + 2), Obj.cells (kv c.1) 23) :: ((w.heap.size + 1), Obj.cells (kv b.1) 23) :: (w.heap.size, Obj.cells (kv a.1) 23) :: []) ++ R))) (by classical rw [List.perm_iff_count]; intro a; simp only [List.count_append, List.count_cons, List.count_nil] <;> omega))
      have k2 := KAt.of_row e61 (hH.perm (k := Hf 61 ++ (Hf 59 ++ (((gr, Obj.cells (kv k) 23) :: (gk, Obj.cells (kv k) 23) :: ((w.heap.size + 2), Obj.cells (kv c.1) 23) :: ((w.heap.size + 1), Obj.cells (kv b.1) 23) :: (w.heap.size, Obj.cells (kv a.1) 23) :: []) ++ R))) (by classical rw [List.perm_iff_count]; intro a; simp only [List.count_append, List.count_cons, List.count_nil] <;> omega))
      have hc := keys_calls A59 A61 c59 c61 S S w1 (by rw [HM.out]; omega) (by rw [HM.out]; omega) k1 k2
      rw [HM.out, decide_eq_true rfl] at hc
      go_simp
      refine hc.mono ?_
      rintro e w3 ⟨rfl, hb⟩
      exact OwnBy.mk _ _ _ rfl (rfl) (⟨rfl, rfl⟩) (((hH.grow hb).perm (k := (Hf 59 ++ Hf 61) ++ (((gr, Obj.cells (kv k) 23) :: (gk, Obj.cells (kv k) 23) :: ((w.heap.size + 2), Obj.cells (kv c.1) 23) :: ((w.heap.size + 1), Obj.cells (kv b.1) 23) :: (w.heap.size, Obj.cells (kv a.1) 23) :: []) ++ R)) (by classical rw [List.perm_iff_count]; intro a; simp only [List.count_append, List.count_cons, List.count_nil] <;> omega)).right)
    | 63, _ =>
      obtain rfl := Option.some.inj ho
      have e57 : f 57 = .bool true := (hd ⟨57, .data⟩ (by simp) rfl).2.1
      have e62 : f 62 = .bool true := (hd ⟨62, .data⟩ (by simp) rfl).2.1
      clear hd ho
      have hH : Holds w (hs ++ ([] ++ R)) w1 := hH
      rw [show hs = ((gr, Obj.cells (kv k) 23) :: (gk, Obj.cells (kv k) 23) :: ((w.heap.size + 2), Obj.cells (kv c.1) 23) :: ((w.heap.size + 1), Obj.cells (kv b.1) 23) :: (w.heap.size, Obj.cells (kv a.1) 23) :: []) from hI] at hH
      clear hI
      unfold wpOp
      refine Or.inl ?_
      simp only [e57, e62]
      unfold Oper.wp
      go_simp
      exact OwnBy.mk _ _ _ rfl (rfl) (⟨rfl, rfl⟩) (hH)
    | _ + 64, h64 => exact absurd h64 (by omega)
  · intro Ls f Hf hs w1 hI hL hV hH
    have e0 : f 0 = Value.agg (kv k) := (hV 0 (by decide)).1
    have e1 : f 1 = Value.agg (kv k) := (hV 1 (by decide)).1
    have e2 : f 2 = .bool true := (hV 2 (by decide)).1
    have e3 : f 3 = .bool true := (hV 3 (by decide)).1
    have e4 : f 4 = .int .i64 1 := (hV 4 (by decide)).1
    have e5 : f 5 = .bool false := (hV 5 (by decide)).1
    have e6 : f 6 = .bool false := (hV 6 (by decide)).1
    have e7 : f 7 = .bool true := (hV 7 (by decide)).1
    have e8 : f 8 = .bool true := (hV 8 (by decide)).1
    have e9 : f 9 = .bool true := (hV 9 (by decide)).1
    have e10 : f 10 = .bool false := (hV 10 (by decide)).1
    have e11 : f 11 = .bool false := (hV 11 (by decide)).1
    have e12 : f 12 = .int .i64 1 := (hV 12 (by decide)).1
    have e13 : f 13 = .bool true := (hV 13 (by decide)).1
    have e14 : f 14 = .bool true := (hV 14 (by decide)).1
    have e15 : f 15 = .bool true := (hV 15 (by decide)).1
    have e16 : f 16 = .bool true := (hV 16 (by decide)).1
    have e17 : f 17 = Value.agg (kv a.1) := (hV 17 (by decide)).1
    have e18 : f 18 = .string ⟨(txtK a.1).toArray⟩ := (hV 18 (by decide)).1
    have e19 : f 19 = Value.agg (kv a.1) := (hV 19 (by decide)).1
    have e20 : f 20 = .string ⟨(txtK a.1).toArray⟩ := (hV 20 (by decide)).1
    have e21 : f 21 = .bool true := (hV 21 (by decide)).1
    have e22 : f 22 = .bool true := (hV 22 (by decide)).1
    have e23 : f 23 = .bool true := (hV 23 (by decide)).1
    have e24 : f 24 = Value.agg (kv a.1) := (hV 24 (by decide)).1
    have e25 : f 25 = .bool (goodB a.1) := (hV 25 (by decide)).1
    have e26 : f 26 = Value.agg (kv a.1) := (hV 26 (by decide)).1
    have e27 : f 27 = .bool (goodB a.1) := (hV 27 (by decide)).1
    have e28 : f 28 = .bool true := (hV 28 (by decide)).1
    have e29 : f 29 = .bool true := (hV 29 (by decide)).1
    have e30 : f 30 = .bool true := (hV 30 (by decide)).1
    have e31 : f 31 = Value.agg (kv a.1) := (hV 31 (by decide)).1
    have e32 : f 32 = Value.agg (kv b.1) := (hV 32 (by decide)).1
    have e33 : f 33 = .int .i64 (cmpK a.1 b.1) := (hV 33 (by decide)).1
    have e34 : f 34 = Value.agg (kv a.1) := (hV 34 (by decide)).1
    have e35 : f 35 = Value.agg (kv b.1) := (hV 35 (by decide)).1
    have e36 : f 36 = .int .i64 (cmpK a.1 b.1) := (hV 36 (by decide)).1
    have e37 : f 37 = .bool true := (hV 37 (by decide)).1
    have e38 : f 38 = .bool true := (hV 38 (by decide)).1
    have e39 : f 39 = .bool true := (hV 39 (by decide)).1
    have e40 : f 40 = Value.agg (kv a.1) := (hV 40 (by decide)).1
    have e41 : f 41 = Value.agg (kv b.1) := (hV 41 (by decide)).1
    have e42 : f 42 = Value.agg (kv c.1) := (hV 42 (by decide)).1
    have e43 : f 43 = .bool (withinB a.1 b.1 c.1) := (hV 43 (by decide)).1
    have e44 : f 44 = Value.agg (kv a.1) := (hV 44 (by decide)).1
    have e45 : f 45 = Value.agg (kv b.1) := (hV 45 (by decide)).1
    have e46 : f 46 = Value.agg (kv c.1) := (hV 46 (by decide)).1
    have e47 : f 47 = .bool (withinB a.1 b.1 c.1) := (hV 47 (by decide)).1
    have e48 : f 48 = .bool true := (hV 48 (by decide)).1
    have e49 : f 49 = .bool true := (hV 49 (by decide)).1
    have e50 : f 50 = .bool true := (hV 50 (by decide)).1
    have e51 : f 51 = Value.agg (kv a.1) := (hV 51 (by decide)).1
    have e52 : f 52 = .int .u32 (sumTo a.1 16) := (hV 52 (by decide)).1
    have e53 : f 53 = Value.agg (kv a.1) := (hV 53 (by decide)).1
    have e54 : f 54 = .int .u32 (sumTo a.1 16) := (hV 54 (by decide)).1
    have e55 : f 55 = .bool true := (hV 55 (by decide)).1
    have e56 : f 56 = .bool true := (hV 56 (by decide)).1
    have e57 : f 57 = .bool true := (hV 57 (by decide)).1
    have e58 : f 58 = .slice A n cap := (hV 58 (by decide)).1
    have e59 := hV 59 (by decide)
    obtain ⟨A59, c59, q59, _, _⟩ := RowB.form e59
    have e60 : f 60 = .slice A n cap := (hV 60 (by decide)).1
    have e61 := hV 61 (by decide)
    obtain ⟨A61, c61, q61, _, _⟩ := RowB.form e61
    have e62 : f 62 = .bool true := (hV 62 (by decide)).1
    have e63 : f 63 = .bool true := (hV 63 (by decide)).1
    clear hV
    have hH : Holds w (hs ++ []) w1 := hH
    simp only [List.append_eq, List.cons_append, List.nil_append, fill, List.take_succ_cons, List.take_zero, List.drop_succ_cons, List.drop_zero, Act.put, List.setIfInBounds_toArray, List.set_cons_zero, List.set_cons_succ, e0, e1, e2, e3, e4, e5, e6, e7, e8, e9, e10, e11, e12, e13, e14, e15, e16, e17, e18, e19, e20, e21, e22, e23, e24, e25, e26, e27, e28, e29, e30, e31, e32, e33, e34, e35, e36, e37, e38, e39, e40, e41, e42, e43, e44, e45, e46, e47, e48, e49, e50, e51, e52, e53, e54, e55, e56, e57, e58, e60, e62, e63]
    have HF := Lib.hid hH.below
    clear hI hL hH
    go_wp2_with fail
    go_ret
    exact ⟨rfl, HF.out⟩
set_option maxRecDepth 100000 in
set_option maxHeartbeats 4000000 in
theorem says_over (s : ByteArray) (a b c : K16) (A : Option Addr) (cap n : Nat) (w : World) (h : (100 : Int) < (s.size : Int) ∨ (40 : Int) < (n : Int)) :
    Calls Try.prog 8 #[.string s, .agg (kv a.1), .agg (kv b.1), .agg (kv c.1), .slice A n cap] w fun e w' => e = .returned (.bool true) ∧ Below w.heap.size w w' := by
  have HB := Lib.hid (show Below w.heap.size w (((w.alloc (.cells (kv a.1) 23)).alloc (.cells (kv b.1) 23)).alloc (.cells (kv c.1) 23)) from (((Below.refl _ _).alloc (Nat.le_refl _) _).alloc (by simp) _).alloc (by simp; omega) _)
  by_cases h1 : (100 : Int) < (s.size : Int)
  · clear h
    go_enter Try.func8, Try.ntmps8
    go_wp2_with fail
    refine (awake_calls _).mono ?_
    rintro e w1 ⟨rfl, hb1⟩
    have HB1 := Lib.hid (HB.out.trans (hb1.mono (by simp; omega)))
    clear hb1
    go_wp2_with fail
    go_ret
    exact ⟨rfl, HB1.out⟩
  · have h2 : (40 : Int) < (n : Int) := by omega
    clear h
    go_enter Try.func8, Try.ntmps8
    go_wp2_with fail
    refine (awake_calls _).mono ?_
    rintro e w1 ⟨rfl, hb1⟩
    have HB1 := Lib.hid (HB.out.trans (hb1.mono (by simp; omega)))
    clear hb1
    go_wp2_with fail
    go_ret
    exact ⟨rfl, HB1.out⟩
theorem says_walk (s : ByteArray) (a b c : K16) (A : Option Addr) (cap : Nat) (ks : List K16) (w : World) (hA : KAt w A ks) :
    Calls Try.prog 8 #[.string s, .agg (kv a.1), .agg (kv b.1), .agg (kv c.1), .slice A ks.length cap] w fun e w' => e = .returned (.bool true) ∧ Below w.heap.size w w' := by
  by_cases h : (100 : Int) < (s.size : Int) ∨ (40 : Int) < (ks.length : Int)
  · exact says_over s a b c A cap _ w h
  · cases hok : okS s.data.toList
    · exact says_false s a b c A cap ks w hA (by omega) (by omega) hok
    · exact says_true s a b c A cap ks w hA (by omega) (by omega) hok
end Go.Proofs.Ytnmnniknklfemaa
