/-
  hourglasslaw10.KeyBack returns true for every input and leaves its arguments as they were: a text's key has that text; a key that may be is its text's. No condition.
-/
import Derived.Test.YtnmnniknklfemaaRows
import Derived.Test.YtnmnniknklfemaaKeyD
import Derived.WalkKit
import Derived.ProofKit
import Derived.OpenShut
import Derived.ShutString
import Derived.ChangeOld
import Derived.Below
namespace Go.Proofs.Ytnmnniknklfemaa.keyBack
open Go.ChangeShapes Go.WideShapes Go.ChangeAt Go.RowKit
open Go.ChangeMaps (open_string shut_string)
set_option linter.unusedVariables false
set_option linter.unusedSimpArgs false

theorem own : ownKnob Try.prog.godebug = none := by kernel_rfl
theorem laidOut : laidOutB Try.prog = true := by kernel_rfl

/-! ### The plain law -/
theorem tx_ok (l : List UInt8) (h : okS l = true) : tx l = l := by
  simp only [okS, Bool.and_eq_true, decide_eq_true_eq, Bool.not_eq_true', List.contains_eq_mem, decide_eq_false_iff_not] at h
  obtain ⟨⟨h1, h2⟩, h3⟩ := h
  have hz : ∀ j, j < l.length → kb l j ≠ 0 := fun j hj e => by
    rw [kb_zero] at e
    apply h3
    rw [← e, List.getD_eq_getElem?_getD, List.getElem?_eq_getElem hj]
    exact List.getElem_mem _
  rw [tx_eq l l.length h2 hz ?_]
  · apply List.ext_getElem?
    intro i
    rw [List.getElem?_take]
    split
    · rename_i hi
      rw [pad_get l i (by omega), List.getElem?_eq_getElem hi]
      simp [List.getD_eq_getElem?_getD, List.getElem?_eq_getElem hi]
    · rename_i hi
      rw [List.getElem?_eq_none (by omega)]
  · rcases Nat.lt_or_ge l.length 16 with hl | hl
    · right
      rw [kb_zero, List.getD_eq_getElem?_getD, List.getElem?_eq_none (Nat.le_refl _)]
      rfl
    · left; omega
theorem keq_refl (l : List UInt8) : keq l l = true := by simp [keq]
theorem good_ok (l : List UInt8) (h : okS l = true) : goodB l = true := by simp [goodB, tx_ok l h, h, keq_refl]
theorem txt_ok (l : List UInt8) (h : okS l = true) : txtK l = l := by simp [txtK, good_ok l h, tx_ok l h]
theorem txt_good (k : List UInt8) (h : goodB k = true) : txtK k = tx k ∧ okS (tx k) = true ∧ keq (tx k) k = true := by
  simp only [goodB, Bool.and_eq_true] at h
  exact ⟨by simp [txtK, goodB, h.1, h.2], h.1, h.2⟩
theorem txt_bad (k : List UInt8) (h : goodB k = false) : txtK k = [] := by simp [txtK, h]
theorem str_back (s : ByteArray) : (⟨s.data.toList.toArray⟩ : ByteArray) = s := rfl

/-! ### The walk -/
set_option maxHeartbeats 4000000 in
theorem way (s : ByteArray) (k a b : List UInt8) (e1 f1 : Int) (g : Bool) (t : ByteArray) (w : World) (h0 : ¬ (100 : Int) < (s.size : Int))
    (O1 : Hid (∀ w, Calls Try.prog 10 #[.string s] w fun e w' => e = .returned (.tuple #[.agg (kv a), .int .i64 e1]) ∧ Below w.heap.size w w'))
    (T1 : Hid (e1 = 0 → ∀ w, Calls Try.prog 11 #[.agg (kv a)] w fun e w' => e = .returned (.string s) ∧ Below w.heap.size w w'))
    (G1 : Hid (e1 = 0 → ∀ w, Calls Try.prog 12 #[.agg (kv a)] w fun e w' => e = .returned (.bool true) ∧ Below w.heap.size w w'))
    (T2 : Hid (∀ w, Calls Try.prog 11 #[.agg (kv k)] w fun e w' => e = .returned (.string t) ∧ Below w.heap.size w w'))
    (O2 : Hid (∀ w, Calls Try.prog 10 #[.string t] w fun e w' => e = .returned (.tuple #[.agg (kv b), .int .i64 f1]) ∧ Below w.heap.size w w'))
    (G2 : Hid (∀ w, Calls Try.prog 12 #[.agg (kv k)] w fun e w' => e = .returned (.bool g) ∧ Below w.heap.size w w'))
    (hc : (e1 = 0 ∨ e1 = 1)) (hd : f1 = 0 ∧ g = true ∧ keq b k = true ∨ f1 = 1 ∧ g = false) :
    Calls Try.prog 3 #[.string s, .agg (kv k)] w fun e w' => e = .returned (.bool true) ∧ Below w.heap.size w w' := by
  have A0 := Lib.hid (heap_alloc_new w (.cells (kv k) 23))
  have BA := Lib.hid ((Below.refl w.heap.size w).alloc (Nat.le_refl _) (.cells (kv k) 23))
  have hz := kv_nil
  have hq := run_keq
  go_enter Try.func3, Try.ntmps3
  go_wp2_with fail
  refine (awake_calls _).mono ?_
  rintro e w1 ⟨rfl, hb1⟩
  have P := Lib.hid (bcell hb1 (by simp) A0.out)
  have hs1 : w.heap.size < w1.heap.size := by have := hb1.size; simp at this; omega
  have B1 := Lib.hid (BA.out.trans (hb1.mono (by simp)))
  clear hb1
  go_wp2_with fail
  refine (O1.out _).mono ?_
  rintro e w2 ⟨rfl, hb2⟩
  have P2 := Lib.hid (bcell hb2 (by omega) P.out)
  have hs2 : w1.heap.size ≤ w2.heap.size := hb2.size
  have B2 := Lib.hid (B1.out.trans (hb2.mono (by omega)))
  clear hb2
  have M := Lib.hid (heap_alloc_new w2 (.cells (kv []) 23))
  have Q1 := Lib.hid (set_at (W := w2.alloc (.cells (kv []) 23)) M.out a)
  have Q0 := Lib.hid (show ((w2.alloc (.cells (kv []) 23)).setRow w2.heap.size (kv a)).heap[w.heap.size]? = some (.cells (kv k) 23 (0, 0)) from (setRow_other _ _ _ _ (by omega)).trans ((Below.heap_alloc _ _ _ (by omega)).trans P2.out))
  have B3 := Lib.hid (show Below w.heap.size w ((w2.alloc (.cells (kv []) 23)).setRow w2.heap.size (kv a)) from below_setRow (B2.out.alloc (by omega) _) (by omega) _)
  have S3 : Hid (((w2.alloc (.cells (kv []) 23)).setRow w2.heap.size (kv a)).heap.size = w2.heap.size + 1) := Lib.hid (by simp)
  rcases hc with rfl | rfl
  · go_wp2_with (first | ((with_reducible refine stL (.tmp 5) (.tmp 17) _ a [] ?_ ?_ M.out ?_); rfl; rfl) | ((with_reducible refine ldL (.tmp 5) _ a ?_ ?_ Q1.out ?_); rfl; rfl))
    refine (T1.out (by simp) _).mono ?_
    rintro e w3 ⟨rfl, hb3⟩
    have Q13 := Lib.hid (bcell hb3 (by rw [S3.out]; omega) Q1.out)
    have Q03 := Lib.hid (bcell hb3 (by rw [S3.out]; omega) Q0.out)
    have hs3 : w2.heap.size < w3.heap.size := by have := hb3.size; rw [S3.out] at this; omega
    have B4 := Lib.hid (B3.out.trans (hb3.mono (by rw [S3.out]; omega)))
    clear hb3
    go_wp2_with (first | ((with_reducible refine ldL (.tmp 5) _ a ?_ ?_ Q13.out ?_); rfl; rfl))
    refine (G1.out (by simp) _).mono ?_
    rintro e w4 ⟨rfl, hb4⟩
    have Q04 := Lib.hid (bcell hb4 (by omega) Q03.out)
    have hs4 : w.heap.size < w4.heap.size := by have := hb4.size; omega
    have B5 := Lib.hid (B4.out.trans (hb4.mono (by omega)))
    clear hb4
    go_wp2_with (first | ((with_reducible refine ldL (.tmp 3) _ k ?_ ?_ Q04.out ?_); rfl; rfl))
    refine (T2.out _).mono ?_
    rintro e v1 ⟨rfl, hv1⟩
    have R1 := Lib.hid (bcell hv1 (by omega) Q04.out)
    have hv1s : w.heap.size < v1.heap.size := by have := hv1.size; omega
    have D1 := Lib.hid (B5.out.trans (hv1.mono (by omega)))
    clear hv1
    go_wp2_with fail
    refine (O2.out _).mono ?_
    rintro e v2 ⟨rfl, hv2⟩
    have R2 := Lib.hid (bcell hv2 (by omega) R1.out)
    have hv2s : w.heap.size < v2.heap.size := by have := hv2.size; omega
    have D2 := Lib.hid (D1.out.trans (hv2.mono (by omega)))
    clear hv2
    have N := Lib.hid (heap_alloc_new v2 (.cells (kv []) 23))
    have U1 := Lib.hid (set_at (W := v2.alloc (.cells (kv []) 23)) N.out b)
    have U0 := Lib.hid (show ((v2.alloc (.cells (kv []) 23)).setRow v2.heap.size (kv b)).heap[w.heap.size]? = some (.cells (kv k) 23 (0, 0)) from (setRow_other _ _ _ _ (by omega)).trans ((Below.heap_alloc _ _ _ (by omega)).trans R2.out))
    have D3 := Lib.hid (show Below w.heap.size w ((v2.alloc (.cells (kv []) 23)).setRow v2.heap.size (kv b)) from below_setRow (D2.out.alloc (by omega) _) (by omega) _)
    have SX : Hid (((v2.alloc (.cells (kv []) 23)).setRow v2.heap.size (kv b)).heap.size = v2.heap.size + 1) := Lib.hid (by simp)
    go_wp2_with (first | ((with_reducible refine stL (.tmp 7) (.tmp 36) _ b [] ?_ ?_ N.out ?_); rfl; rfl) | ((with_reducible refine ldL (.tmp 3) _ k ?_ ?_ U0.out ?_); rfl; rfl))
    refine (G2.out _).mono ?_
    rintro e v3 ⟨rfl, hv3⟩
    have V1 := Lib.hid (bcell hv3 (by rw [SX.out]; omega) U1.out)
    have V0 := Lib.hid (bcell hv3 (by rw [SX.out]; omega) U0.out)
    have D4 := Lib.hid (D3.out.trans (hv3.mono (by rw [SX.out]; omega)))
    clear hv3
    rcases hd with ⟨rfl, rfl, hk⟩ | ⟨rfl, rfl⟩
    · go_wp2_with (first | ((with_reducible refine ldL (.tmp 7) _ b ?_ ?_ V1.out ?_); rfl; rfl) | ((with_reducible refine ldL (.tmp 3) _ k ?_ ?_ V0.out ?_); rfl; rfl))
      go_ret
      exact ⟨rfl, D4.out⟩
    · go_wp2_with fail
      go_ret
      exact ⟨rfl, D4.out⟩
  · have hsz : w.heap.size < ((w2.alloc (.cells (kv []) 23)).setRow w2.heap.size (kv a)).heap.size := by rw [S3.out]; omega
    have S4 := Lib.hid hsz
    clear hsz
    go_wp2_with (first | ((with_reducible refine stL (.tmp 5) (.tmp 17) _ a [] ?_ ?_ M.out ?_); rfl; rfl) | ((with_reducible refine ldL (.tmp 3) _ k ?_ ?_ Q0.out ?_); rfl; rfl))
    refine (T2.out _).mono ?_
    rintro e v1 ⟨rfl, hv1⟩
    have R1 := Lib.hid (bcell hv1 S4.out Q0.out)
    have hv1s : w.heap.size < v1.heap.size := by have := hv1.size; rw [S3.out] at this; omega
    have D1 := Lib.hid (B3.out.trans (hv1.mono (Nat.le_of_lt S4.out)))
    clear hv1
    go_wp2_with fail
    refine (O2.out _).mono ?_
    rintro e v2 ⟨rfl, hv2⟩
    have R2 := Lib.hid (bcell hv2 (by omega) R1.out)
    have hv2s : w.heap.size < v2.heap.size := by have := hv2.size; omega
    have D2 := Lib.hid (D1.out.trans (hv2.mono (by omega)))
    clear hv2
    have N := Lib.hid (heap_alloc_new v2 (.cells (kv []) 23))
    have U1 := Lib.hid (set_at (W := v2.alloc (.cells (kv []) 23)) N.out b)
    have U0 := Lib.hid (show ((v2.alloc (.cells (kv []) 23)).setRow v2.heap.size (kv b)).heap[w.heap.size]? = some (.cells (kv k) 23 (0, 0)) from (setRow_other _ _ _ _ (by omega)).trans ((Below.heap_alloc _ _ _ (by omega)).trans R2.out))
    have D3 := Lib.hid (show Below w.heap.size w ((v2.alloc (.cells (kv []) 23)).setRow v2.heap.size (kv b)) from below_setRow (D2.out.alloc (by omega) _) (by omega) _)
    have SX : Hid (((v2.alloc (.cells (kv []) 23)).setRow v2.heap.size (kv b)).heap.size = v2.heap.size + 1) := Lib.hid (by simp)
    go_wp2_with (first | ((with_reducible refine stL (.tmp 7) (.tmp 36) _ b [] ?_ ?_ N.out ?_); rfl; rfl) | ((with_reducible refine ldL (.tmp 3) _ k ?_ ?_ U0.out ?_); rfl; rfl))
    refine (G2.out _).mono ?_
    rintro e v3 ⟨rfl, hv3⟩
    have V1 := Lib.hid (bcell hv3 (by rw [SX.out]; omega) U1.out)
    have V0 := Lib.hid (bcell hv3 (by rw [SX.out]; omega) U0.out)
    have D4 := Lib.hid (D3.out.trans (hv3.mono (by rw [SX.out]; omega)))
    clear hv3
    rcases hd with ⟨rfl, rfl, hk⟩ | ⟨rfl, rfl⟩
    · go_wp2_with (first | ((with_reducible refine ldL (.tmp 7) _ b ?_ ?_ V1.out ?_); rfl; rfl) | ((with_reducible refine ldL (.tmp 3) _ k ?_ ?_ V0.out ?_); rfl; rfl))
      go_ret
      exact ⟨rfl, D4.out⟩
    · go_wp2_with fail
      go_ret
      exact ⟨rfl, D4.out⟩

theorem over_way (s : ByteArray) (w : World) (h0 : (100 : Int) < (s.size : Int)) (k : List UInt8) :
    Calls Try.prog 3 #[.string s, .agg (kv k)] w fun e w' => e = .returned (.bool true) ∧ Below w.heap.size w w' := by
  have BA := Lib.hid ((Below.refl w.heap.size w).alloc (Nat.le_refl _) (.cells (kv k) 23))
  go_enter Try.func3, Try.ntmps3
  go_wp2_with fail
  refine (awake_calls _).mono ?_
  rintro e w1 ⟨rfl, hb1⟩
  have B1 := Lib.hid (BA.out.trans (hb1.mono (by simp)))
  clear hb1
  go_wp2_with fail
  go_ret
  exact ⟨rfl, B1.out⟩

theorem walk (s : ByteArray) (k : List UInt8) (w : World) (_ : s.size ≤ maxLen) (_ : k.length = 16) :
    Calls Try.prog 3 #[.string s, .agg (kv k)] w fun e w' => e = .returned (.bool true) ∧ Below w.heap.size w w' := by
  by_cases h0 : (100 : Int) < (s.size : Int)
  · exact over_way s w h0 k
  · have hs : okS s.data.toList = true → ofK s.data.toList = s.data.toList := fun h => by simp [ofK, h]
    have ht1 : ofE s.data.toList = 0 → okS s.data.toList = true := fun h => by
      cases h' : okS s.data.toList
      · simp [ofE, h'] at h
      · rfl
    refine way s k (ofK s.data.toList) (ofK (txtK k)) (ofE s.data.toList) (ofE (txtK k)) (goodB k) ⟨(txtK k).toArray⟩ w h0 (Lib.hid (of_calls s)) (Lib.hid fun h w => ?_) (Lib.hid fun h w => ?_)
      (Lib.hid (textK_calls k)) (Lib.hid (of_calls _)) (Lib.hid (good_calls k)) ?_ ?_
    · have hk := ht1 h
      rw [hs hk]
      have := textK_calls s.data.toList w
      rwa [txt_ok _ hk, str_back] at this
    · have hk := ht1 h
      rw [hs hk]
      have := good_calls s.data.toList w
      rwa [good_ok _ hk] at this
    · unfold ofE; split <;> simp
    · cases hg : goodB k
      · right
        rw [txt_bad k hg]
        exact ⟨rfl, rfl⟩
      · left
        obtain ⟨h1, h2, h3⟩ := txt_good k hg
        rw [h1]
        exact ⟨by simp [ofE, h2], rfl, by simp [ofK, h2, h3]⟩

/-! ### The row's step -/
set_option maxRecDepth 100000 in
theorem lifted (os : Os) (started : os.Started) (H : Type) (enc : TypeId × Value → H) :
    ReturnsInHanded {} Try.checked os 3 .any (Rows.keyBackSpec.pre6 enc Try.prog Try.f3 Rows.keyBackRow.domain false) (Rows.keyBackSpec.post enc Try.prog Try.f3 false true false false) := by
  refine returnsInHanded_of_change (C := Try.checked) own started (by kernel_rfl) Try.func3
    (ChangeSpec.witness6 (enc := enc) (C := Try.checked) false ⟨#[], #[.string ByteArray.empty, .agg #[.int .u8 0, .int .u8 0, .int .u8 0, .int .u8 0, .int .u8 0, .int .u8 0, .int .u8 0, .int .u8 0, .int .u8 0, .int .u8 0, .int .u8 0, .int .u8 0, .int .u8 0, .int .u8 0, .int .u8 0, .int .u8 0]], []⟩ 8 (by kernel_rfl) (by kernel_rfl) (by kernel_rfl) (by kernel_rfl)) ?_
  intro W base args ds gs before hval0 hW hcnd _
  have hval : ∀ (j : Nat) t v, Try.f3.params[j]? = some t → args[j]? = some v → Value.okWide Try.prog W .any base t v := hval0
  have hW' := hW
  obtain ⟨p, q, hA0, hV, rfl, hfz, hnd⟩ := hW
  have hA : DataW.TrodAll enc Try.prog W 0 (fun _ => true) true Try.f3.params.toList args.toList ds p := hA0
  rw [Try.params3] at hA hval
  obtain ⟨v0, vs0, d0, ds0, p0, q0, hargs, rfl, rfl, h0, r0⟩ := trodAll_cons hA
  obtain ⟨v1, vs1, d1, ds1, p1, q1, rfl, rfl, rfl, h1, r1⟩ := trodAll_cons r0
  obtain ⟨rfl, rfl, rfl⟩ := trodAll_nil r1
  obtain rfl : args = #[v0, v1] := by cases args; simp_all
  obtain ⟨rfl, rfl⟩ := trodVars_none hV
  have k1 := h1
  have lt1 : ∀ x ∈ p1, x.block < W.heap.size := by obtain ⟨m, hm⟩ := k1; exact DataW.trod_lt m _ _ _ hm
  obtain ⟨a0, rfl, rfl, rfl, w0⟩ := open_string Try.underlying9 (hval 0 9 v0 rfl rfl) h0
  obtain ⟨a1, rfl, w1⟩ := open_key (hval 1 23 v1 rfl rfl) h1
  clear hA0 hval0
  refine (walk a0 a1 W w0 w1).mono fun e W' ⟨he, bel⟩ => ?_
  subst he
  exact ⟨_, rfl, _, _, _, [], _, [], hW', trodAll_mk1 (shut_bool Try.underlying4 _), (trodAll_cons_mk (shut_string Try.underlying9 w0) (trodAll_cons_mk (Below.trod laidOut (by kernel_rfl) (of_decide_eq_true (by kernel_rfl)) k1 bel lt1) trodAll_mk0)), rfl, bel.frame _, fun h => by cases h⟩

theorem over : Rows.keyBackRow.holds Try.pinned (OpenSpec.ofChange Rows.keyBackSpec) :=
  OpenClaim.holds_of_wide 3 Try.f3 rfl rfl rfl rfl rfl rfl rfl ⟨rfl, rfl, rfl, rfl, rfl⟩ rfl rfl rfl rfl rfl (by kernel_rfl) Try.func3 (by kernel_rfl)
    (of_decide_eq_true (by kernel_rfl)) (by unfold Func.isWrapper; first | (rw [if_pos (by decide +kernel)]; kernel_rfl) | (rw [if_neg (by decide +kernel)]; exact ⟨rfl, rfl⟩))
    (fun os started H enc _ => lifted os started H enc)

theorem proved : Rows.KeyBackSaid := over
#print axioms proved
end Go.Proofs.Ytnmnniknklfemaa.keyBack
