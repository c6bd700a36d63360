/-
  hourglasslaw10.KeyWithin returns true for every input and leaves its arguments as they were: between two is who is not below the first and below the second; stretches side by side have each key once. No condition.
-/
import Derived.Test.YtnmnniknklfemaaRows
import Derived.Test.YtnmnniknklfemaaKeyD
import Derived.Test.YtnmnniknklfemaaCmp
import Derived.WalkKit
import Derived.ProofKit
import Derived.OpenShut
import Derived.ShutString
import Derived.ChangeOld
import Derived.Below
namespace Go.Proofs.Ytnmnniknklfemaa.keyWithin
open Go.ChangeShapes Go.WideShapes Go.ChangeAt Go.RowKit
open Go.ChangeMaps (open_string shut_string)
set_option linter.unusedVariables false
set_option linter.unusedSimpArgs false

theorem own : ownKnob Try.prog.godebug = none := by kernel_rfl
theorem laidOut : laidOutB Try.prog = true := by kernel_rfl

/-! ### The plain law -/
theorem cmpK_neg (l m : List UInt8) : cmpK l m = - cmpK m l := cmp_neg _ _
theorem cmpK_zero (l m : List UInt8) : cmpK l m = 0 ↔ keq l m = true := by unfold keq cmpK; rw [cmp_zero]; simp
theorem cmpK_trans (l m n : List UInt8) (h1 : cmpK l m ≤ 0) (h2 : cmpK m n ≤ 0) : cmpK l n ≤ 0 ∧ (cmpK l m < 0 ∨ cmpK m n < 0 → cmpK l n < 0) := cmp_trans _ _ _ h1 h2
theorem cmp_low : ∀ (n : Nat) (m : List UInt8), m.length = n → Lib.compareBytes (List.replicate n 0) m ≤ 0
  | 0, [], _ => by simp [Lib.compareBytes]
  | n + 1, b :: m, h => by
    have ih := cmp_low n m (by simpa using h)
    simp only [List.replicate_succ, Lib.compareBytes]
    rcases cb_cases 0 b with h | h | h
    · simp [h]
    · subst h; simpa [cb_irr] using ih
    · have := UInt8.lt_iff_toNat_lt.1 h
      simp at this
theorem cmpK_low (m : List UInt8) : cmpK [] m ≤ 0 := cmp_low 16 (pad m) (by simp [pad])
theorem law (k a b c : List UInt8) (h1 : cmpK a b ≤ 0) (h2 : cmpK b c ≤ 0) (h3 : keq b [] = false) :
    (!(withinB k a b && withinB k b c) && (withinB k a c == (withinB k a b || withinB k b c))) = true := by
  have h4 : keq c [] = false := by
    cases h : keq c []
    · rfl
    · have e := (cmpK_zero c []).2 h
      have h5 := cmpK_trans b c [] h2 (by omega)
      have h6 := cmpK_low b
      have h7 := cmpK_neg [] b
      have : cmpK b [] = 0 := by omega
      rw [(cmpK_zero b []).1 this] at h3
      cases h3
  have n1 := cmpK_neg k a
  have n2 := cmpK_neg k b
  have n3 := cmpK_neg k c
  simp only [withinB, h3, h4, Bool.false_or]
  by_cases p : 0 ≤ cmpK k b
  · have q1 : ¬ cmpK k b < 0 := by omega
    have q2 : 0 ≤ cmpK k a := by
      have := (cmpK_trans a b k h1 (by omega)).1
      omega
    simp only [p, q1, q2, decide_true, decide_false, Bool.and_false, Bool.false_and, Bool.true_and, Bool.not_false, Bool.false_or]
    simp
  · have q1 : cmpK k b < 0 := by omega
    have q2 : cmpK k c < 0 := (cmpK_trans k b c (by omega) h2).2 (.inl q1)
    simp only [p, q1, q2, decide_true, decide_false, Bool.and_false, Bool.false_and, Bool.and_true, Bool.not_false, Bool.or_false]
    simp

/-! ### The walk -/
abbrev W4 (w : World) (k a b c : List UInt8) : World := (W3 w k a b).alloc (.cells (kv c) 23)
theorem W4_0 (w : World) (k a b c : List UInt8) : (W4 w k a b c).heap[w.heap.size]? = some (.cells (kv k) 23 (0, 0)) := (Below.heap_alloc _ _ _ (by simp; omega)).trans (W3_0 w k a b)
theorem W4_1 (w : World) (k a b c : List UInt8) : (W4 w k a b c).heap[w.heap.size + 1]? = some (.cells (kv a) 23 (0, 0)) := (Below.heap_alloc _ _ _ (by simp)).trans (W3_1 w k a b)
theorem W4_2 (w : World) (k a b c : List UInt8) : (W4 w k a b c).heap[w.heap.size + 2]? = some (.cells (kv b) 23 (0, 0)) := (Below.heap_alloc _ _ _ (by simp)).trans (W3_2 w k a b)
theorem W4_3 (w : World) (k a b c : List UInt8) : (W4 w k a b c).heap[w.heap.size + 3]? = some (.cells (kv c) 23 (0, 0)) := by
  have := heap_alloc_new (W3 w k a b) (.cells (kv c) 23)
  simpa using this
theorem W4_below (w : World) (k a b c : List UInt8) : Below w.heap.size w (W4 w k a b c) := (W3_below w k a b).alloc (by simp; omega) _
theorem W4_size (w : World) (k a b c : List UInt8) : (W4 w k a b c).heap.size = w.heap.size + 4 := by simp

set_option maxHeartbeats 4000000 in
theorem walk (k a b c : List UInt8) (w : World) (_ : k.length = 16) (_ : a.length = 16) (_ : b.length = 16) (_ : c.length = 16) :
    Calls Try.prog 5 #[.agg (kv k), .agg (kv a), .agg (kv b), .agg (kv c)] w fun e w' => e = .returned (.bool true) ∧ Below w.heap.size w w' := by
  have HB0 := Lib.hid (W4_below w k a b c)
  have HS := Lib.hid (W4_size w k a b c)
  have hz := kv_nil
  have hq := run_keq
  have HLAW := Lib.hid (law k a b c)
  have A0 := Lib.hid (W4_0 w k a b c)
  have A1 := Lib.hid (W4_1 w k a b c)
  have A2 := Lib.hid (W4_2 w k a b c)
  have A3 := Lib.hid (W4_3 w k a b c)
  obtain ⟨c1, hc1⟩ : ∃ c1, cmpK a b = c1 := ⟨_, rfl⟩
  have HC1 := Lib.hid hc1
  clear hc1
  obtain ⟨c2, hc2⟩ : ∃ c2, cmpK b c = c2 := ⟨_, rfl⟩
  have HC2 := Lib.hid hc2
  clear hc2
  obtain ⟨q, hq2⟩ : ∃ q, keq b [] = q := ⟨_, rfl⟩
  go_enter Try.func5, Try.ntmps5
  go_wp2_with fail
  refine (awake_calls _).mono ?_
  rintro e w1 ⟨rfl, hb1⟩
  have P1 := Lib.hid (bcell hb1 (by rw [HS.out]; omega) A1.out)
  have P0 := Lib.hid (bcell hb1 (by rw [HS.out]; omega) A0.out)
  have P2 := Lib.hid (bcell hb1 (by rw [HS.out]; omega) A2.out)
  have P3 := Lib.hid (bcell hb1 (by rw [HS.out]; omega) A3.out)
  have hs1 : w.heap.size + 4 ≤ w1.heap.size := by have := hb1.size; rw [HS.out] at this; exact this
  have B1 := Lib.hid (HB0.out.trans (hb1.mono (by rw [HS.out]; omega)))
  clear hb1 A0 A1 A2 A3
  go_wp2_with (first | refine ld (.tmp 5) rfl rfl _ rfl a P1.out ?_ | refine ld (.tmp 6) rfl rfl _ rfl b P2.out ?_)
  refine (cmpK_calls a b _).mono ?_
  rw [HC1.out]
  rintro e w2 ⟨rfl, hb2⟩
  have Q0 := Lib.hid (bcell hb2 (by omega) P0.out)
  have Q1 := Lib.hid (bcell hb2 (by omega) P1.out)
  have Q2 := Lib.hid (bcell hb2 (by omega) P2.out)
  have Q3 := Lib.hid (bcell hb2 (by omega) P3.out)
  have hs2 : w1.heap.size ≤ w2.heap.size := hb2.size
  have B2 := Lib.hid (B1.out.trans (hb2.mono (by omega)))
  clear hb2 P0 P1 P2 P3
  by_cases h1 : 0 < c1
  · go_wp2_with fail
    go_ret
    exact ⟨rfl, B2.out⟩
  simp only [h1, decide_false]
  go_wp2_with (first | refine ldg (.tmp 6) rfl rfl _ rfl b Q2.out ?_ | refine ldg (.tmp 7) rfl rfl _ rfl c Q3.out ?_)
  refine (cmpK_calls b c _).mono ?_
  rw [HC2.out]
  rintro e w3 ⟨rfl, hb3⟩
  have R0 := Lib.hid (bcell hb3 (by omega) Q0.out)
  have R1 := Lib.hid (bcell hb3 (by omega) Q1.out)
  have R2 := Lib.hid (bcell hb3 (by omega) Q2.out)
  have R3 := Lib.hid (bcell hb3 (by omega) Q3.out)
  have hs3 : w2.heap.size ≤ w3.heap.size := hb3.size
  have B3 := Lib.hid (B2.out.trans (hb3.mono (by omega)))
  clear hb3 Q0 Q1 Q2 Q3
  by_cases h2 : 0 < c2
  · go_wp2_with fail
    go_ret
    exact ⟨rfl, B3.out⟩
  simp only [h2, decide_false]
  cases q
  · go_wp2_with (first | refine ldg (.tmp 6) rfl rfl _ rfl b R2.out ?_)
    obtain ⟨x, hx⟩ : ∃ x, withinB k a b = x := ⟨_, rfl⟩
    obtain ⟨y, hy⟩ : ∃ y, withinB k b c = y := ⟨_, rfl⟩
    obtain ⟨z, hzz⟩ : ∃ z, withinB k a c = z := ⟨_, rfl⟩
    have hl := HLAW.out (by rw [HC1.out]; omega) (by rw [HC2.out]; omega) hq2
    rw [hx, hy, hzz] at hl
    have HL := Lib.hid hl
    have X := Lib.hid hx
    have Y := Lib.hid hy
    have Z := Lib.hid hzz
    clear hx hy hzz hl
    refine region_quiet_lit (C := fun w' => Below w3.heap.size w3 w') (by kernel_rfl) (by kernel_rfl) (Below.refl _ _).drew ?_
    refine BigFrame.wpQuiet_want rfl (fun K hK => ?_)
    refine quiet_ld (.tmp 4) rfl _ rfl k (fun w2 hw => bcell hw (by omega) R0.out) (hK _ ?_)
    clear hK K
    simp only [Act.put, List.setIfInBounds_toArray, List.set_cons_zero, List.set_cons_succ]
    refine BigFrame.wpQuiet_want rfl (fun K hK => ?_)
    refine quiet_ld (.tmp 5) rfl _ rfl a (fun w2 hw => bcell hw (by omega) R1.out) (hK _ ?_)
    clear hK K
    simp only [Act.put, List.setIfInBounds_toArray, List.set_cons_zero, List.set_cons_succ]
    refine BigFrame.wpQuiet_want rfl (fun K hK => ?_)
    refine quiet_ld (.tmp 6) rfl _ rfl b (fun w2 hw => bcell hw (by omega) R2.out) (hK _ ?_)
    clear hK K
    simp only [Act.put, List.setIfInBounds_toArray, List.set_cons_zero, List.set_cons_succ]
    refine BigFrame.wpQuiet_want rfl (fun K hK => ?_)
    refine quiet_call 14 #[.agg (kv k), .agg (kv a), .agg (kv b)] (.bool x) (fun w2 => by go_simp) (fun w2 hw => (within_calls k a b w2).mono fun e w3 hh => ⟨by rw [hh.1, X.out], hw.trans (hh.2.mono hw.size)⟩) (hK _ ?_)
    clear hK K
    simp only [Act.put, List.setIfInBounds_toArray, List.set_cons_zero, List.set_cons_succ]
    refine BigFrame.wpQuiet_want rfl (fun K hK => ?_)
    refine quiet_ld (.tmp 4) rfl _ rfl k (fun w2 hw => bcell hw (by omega) R0.out) (hK _ ?_)
    clear hK K
    simp only [Act.put, List.setIfInBounds_toArray, List.set_cons_zero, List.set_cons_succ]
    refine BigFrame.wpQuiet_want rfl (fun K hK => ?_)
    refine quiet_ld (.tmp 6) rfl _ rfl b (fun w2 hw => bcell hw (by omega) R2.out) (hK _ ?_)
    clear hK K
    simp only [Act.put, List.setIfInBounds_toArray, List.set_cons_zero, List.set_cons_succ]
    refine BigFrame.wpQuiet_want rfl (fun K hK => ?_)
    refine quiet_ld (.tmp 7) rfl _ rfl c (fun w2 hw => bcell hw (by omega) R3.out) (hK _ ?_)
    clear hK K
    simp only [Act.put, List.setIfInBounds_toArray, List.set_cons_zero, List.set_cons_succ]
    refine BigFrame.wpQuiet_want rfl (fun K hK => ?_)
    refine quiet_call 14 #[.agg (kv k), .agg (kv b), .agg (kv c)] (.bool y) (fun w2 => by go_simp) (fun w2 hw => (within_calls k b c w2).mono fun e w3 hh => ⟨by rw [hh.1, Y.out], hw.trans (hh.2.mono hw.size)⟩) (hK _ ?_)
    clear hK K
    simp only [Act.put, List.setIfInBounds_toArray, List.set_cons_zero, List.set_cons_succ]
    refine BigFrame.wpQuiet_want rfl (fun K hK => ?_)
    refine quiet_ld (.tmp 4) rfl _ rfl k (fun w2 hw => bcell hw (by omega) R0.out) (hK _ ?_)
    clear hK K
    simp only [Act.put, List.setIfInBounds_toArray, List.set_cons_zero, List.set_cons_succ]
    refine BigFrame.wpQuiet_want rfl (fun K hK => ?_)
    refine quiet_ld (.tmp 5) rfl _ rfl a (fun w2 hw => bcell hw (by omega) R1.out) (hK _ ?_)
    clear hK K
    simp only [Act.put, List.setIfInBounds_toArray, List.set_cons_zero, List.set_cons_succ]
    refine BigFrame.wpQuiet_want rfl (fun K hK => ?_)
    refine quiet_ld (.tmp 7) rfl _ rfl c (fun w2 hw => bcell hw (by omega) R3.out) (hK _ ?_)
    clear hK K
    simp only [Act.put, List.setIfInBounds_toArray, List.set_cons_zero, List.set_cons_succ]
    refine BigFrame.wpQuiet_want rfl (fun K hK => ?_)
    refine quiet_call 14 #[.agg (kv k), .agg (kv a), .agg (kv c)] (.bool z) (fun w2 => by go_simp) (fun w2 hw => (within_calls k a c w2).mono fun e w3 hh => ⟨by rw [hh.1, Z.out], hw.trans (hh.2.mono hw.size)⟩) (hK _ ?_)
    clear hK K
    simp only [Act.put, List.setIfInBounds_toArray, List.set_cons_zero, List.set_cons_succ]
    refine BigFrame.wpQuiet_want rfl (fun K hK => ?_)
    refine quiet_val (.bool x) (fun w2 hw => by go_simp) (hK _ ?_)
    clear hK K
    simp only [Act.put, List.setIfInBounds_toArray, List.set_cons_zero, List.set_cons_succ]
    refine BigFrame.wpQuiet_want rfl (fun K hK => ?_)
    refine quiet_val (.bool y) (fun w2 hw => by go_simp) (hK _ ?_)
    clear hK K
    simp only [Act.put, List.setIfInBounds_toArray, List.set_cons_zero, List.set_cons_succ]
    refine BigFrame.wpQuiet_want rfl (fun K hK => ?_)
    refine quiet_val (.bool z) (fun w2 hw => by go_simp) (hK _ ?_)
    clear hK K
    simp only [Act.put, List.setIfInBounds_toArray, List.set_cons_zero, List.set_cons_succ]
    refine wpQuiet_nil ?_
    intro w4 hw4
    have B4 := Lib.hid (B3.out.trans (hw4.mono (by omega)))
    clear hw4
    cases x <;> cases y <;> cases z <;> first | exact absurd HL.out (by decide) | (go_wp2_with fail; go_ret; exact ⟨rfl, B4.out⟩)
  · go_wp2_with (first | refine ldg (.tmp 6) rfl rfl _ rfl b R2.out ?_)
    go_ret
    exact ⟨rfl, B3.out⟩

/-! ### The row's step -/
set_option maxRecDepth 100000 in
theorem lifted (os : Os) (started : os.Started) (H : Type) (enc : TypeId × Value → H) :
    ReturnsInHanded {} Try.checked os 5 .any (Rows.keyWithinSpec.pre6 enc Try.prog Try.f5 Rows.keyWithinRow.domain false) (Rows.keyWithinSpec.post enc Try.prog Try.f5 false true false false) := by
  refine returnsInHanded_of_change (C := Try.checked) own started (by kernel_rfl) Try.func5
    (ChangeSpec.witness6 (enc := enc) (C := Try.checked) false ⟨#[], #[.agg #[.int .u8 0, .int .u8 0, .int .u8 0, .int .u8 0, .int .u8 0, .int .u8 0, .int .u8 0, .int .u8 0, .int .u8 0, .int .u8 0, .int .u8 0, .int .u8 0, .int .u8 0, .int .u8 0, .int .u8 0, .int .u8 0], .agg #[.int .u8 0, .int .u8 0, .int .u8 0, .int .u8 0, .int .u8 0, .int .u8 0, .int .u8 0, .int .u8 0, .int .u8 0, .int .u8 0, .int .u8 0, .int .u8 0, .int .u8 0, .int .u8 0, .int .u8 0, .int .u8 0], .agg #[.int .u8 0, .int .u8 0, .int .u8 0, .int .u8 0, .int .u8 0, .int .u8 0, .int .u8 0, .int .u8 0, .int .u8 0, .int .u8 0, .int .u8 0, .int .u8 0, .int .u8 0, .int .u8 0, .int .u8 0, .int .u8 0], .agg #[.int .u8 0, .int .u8 0, .int .u8 0, .int .u8 0, .int .u8 0, .int .u8 0, .int .u8 0, .int .u8 0, .int .u8 0, .int .u8 0, .int .u8 0, .int .u8 0, .int .u8 0, .int .u8 0, .int .u8 0, .int .u8 0]], []⟩ 8 (by kernel_rfl) (by kernel_rfl) (by kernel_rfl) (by kernel_rfl)) ?_
  intro W base args ds gs before hval0 hW hcnd _
  have hval : ∀ (j : Nat) t v, Try.f5.params[j]? = some t → args[j]? = some v → Value.okWide Try.prog W .any base t v := hval0
  have hW' := hW
  obtain ⟨p, q, hA0, hV, rfl, hfz, hnd⟩ := hW
  have hA : DataW.TrodAll enc Try.prog W 0 (fun _ => true) true Try.f5.params.toList args.toList ds p := hA0
  rw [Try.params5] at hA hval
  obtain ⟨v0, vs0, d0, ds0, p0, q0, hargs, rfl, rfl, h0, r0⟩ := trodAll_cons hA
  obtain ⟨v1, vs1, d1, ds1, p1, q1, rfl, rfl, rfl, h1, r1⟩ := trodAll_cons r0
  obtain ⟨v2, vs2, d2, ds2, p2, q2, rfl, rfl, rfl, h2, r2⟩ := trodAll_cons r1
  obtain ⟨v3, vs3, d3, ds3, p3, q3, rfl, rfl, rfl, h3, r3⟩ := trodAll_cons r2
  obtain ⟨rfl, rfl, rfl⟩ := trodAll_nil r3
  obtain rfl : args = #[v0, v1, v2, v3] := by cases args; simp_all
  obtain ⟨rfl, rfl⟩ := trodVars_none hV
  have k0 := h0
  have lt0 : ∀ x ∈ p0, x.block < W.heap.size := by obtain ⟨m, hm⟩ := k0; exact DataW.trod_lt m _ _ _ hm
  have k1 := h1
  have lt1 : ∀ x ∈ p1, x.block < W.heap.size := by obtain ⟨m, hm⟩ := k1; exact DataW.trod_lt m _ _ _ hm
  have k2 := h2
  have lt2 : ∀ x ∈ p2, x.block < W.heap.size := by obtain ⟨m, hm⟩ := k2; exact DataW.trod_lt m _ _ _ hm
  have k3 := h3
  have lt3 : ∀ x ∈ p3, x.block < W.heap.size := by obtain ⟨m, hm⟩ := k3; exact DataW.trod_lt m _ _ _ hm
  obtain ⟨a0, rfl, w0⟩ := open_key (hval 0 23 v0 rfl rfl) h0
  obtain ⟨a1, rfl, w1⟩ := open_key (hval 1 23 v1 rfl rfl) h1
  obtain ⟨a2, rfl, w2⟩ := open_key (hval 2 23 v2 rfl rfl) h2
  obtain ⟨a3, rfl, w3⟩ := open_key (hval 3 23 v3 rfl rfl) h3
  clear hA0 hval0
  refine (walk a0 a1 a2 a3 W w0 w1 w2 w3).mono fun e W' ⟨he, bel⟩ => ?_
  subst he
  exact ⟨_, rfl, _, _, _, [], _, [], hW', trodAll_mk1 (shut_bool Try.underlying4 _), (trodAll_cons_mk (Below.trod laidOut (by kernel_rfl) (of_decide_eq_true (by kernel_rfl)) k0 bel lt0) (trodAll_cons_mk (Below.trod laidOut (by kernel_rfl) (of_decide_eq_true (by kernel_rfl)) k1 bel lt1) (trodAll_cons_mk (Below.trod laidOut (by kernel_rfl) (of_decide_eq_true (by kernel_rfl)) k2 bel lt2) (trodAll_cons_mk (Below.trod laidOut (by kernel_rfl) (of_decide_eq_true (by kernel_rfl)) k3 bel lt3) trodAll_mk0)))), rfl, bel.frame _, fun h => by cases h⟩

theorem over : Rows.keyWithinRow.holds Try.pinned (OpenSpec.ofChange Rows.keyWithinSpec) :=
  OpenClaim.holds_of_wide 5 Try.f5 rfl rfl rfl rfl rfl rfl rfl ⟨rfl, rfl, rfl, rfl, rfl⟩ rfl rfl rfl rfl rfl (by kernel_rfl) Try.func5 (by kernel_rfl)
    (of_decide_eq_true (by kernel_rfl)) (by unfold Func.isWrapper; first | (rw [if_pos (by decide +kernel)]; kernel_rfl) | (rw [if_neg (by decide +kernel)]; exact ⟨rfl, rfl⟩))
    (fun os started H enc _ => lifted os started H enc)

theorem proved : Rows.KeyWithinSaid := over
#print axioms proved
end Go.Proofs.Ytnmnniknklfemaa.keyWithin
