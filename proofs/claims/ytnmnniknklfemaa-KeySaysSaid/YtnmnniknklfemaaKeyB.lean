/- More contracts of package key: Good, Text, Within, Sum and the law's own awake, for every world. No condition. -/
import Derived.Test.YtnmnniknklfemaaKey
namespace Go.Proofs.Ytnmnniknklfemaa
open Go.RowKit
set_option linter.unusedVariables false
set_option linter.unusedSimpArgs false

/-! ### Good -/
def goodB (l : List UInt8) : Bool := okS (tx l) && keq (tx l) l

theorem bcell {B : Nat} {W w1 : World} (hb : Below B W w1) {g : Nat} (hg : g < B) {o : Obj} (H : W.heap[g]? = some o) : w1.heap[g]? = some o := (hb.block g hg).trans H

theorem ldg {ops : Array Oper} {rest : List Oper} {o : Oper} {a : Act} {w : World} {Q : Exit → Act → World → Prop} (x : Operand) (hw : Region.wanted o (yielded ops a.tmps) = true) (ho : o.op = .load 23 x)
    (g : Nat) (hx : a.eval x = .pointer (some ⟨g, 0, none⟩)) (l : List UInt8) (hg : w.heap[g]? = some (.cells (kv l) 23 (0, 0)))
    (hh : wpList Try.prog ops Q rest (a.put o.dst (.agg (kv l))) w) : wpList Try.prog ops Q (o :: rest) a w :=
  wpList_step fun K hK => by rw [if_pos hw]; exact wp_load_row 23 x ho g hx 23 (kv l) (0, 0) _ hg und23 rfl (info23 l) (hK _ _ hh)

/-- One of the law's own ways: the error and the key that Of gave are known. -/
theorem good_way (l k : List UInt8) (er : Int) (w : World) (hk : ofK (tx l) = k) (he : ofE (tx l) = er) (hcase : (er == 0) = true ∨ (er == 0) = false) (b : Bool) (hb : (decide (er = 0) && keq k l) = b) :
    Calls Try.prog 12 #[.agg (kv l)] w fun e w' => e = .returned (.bool b) ∧ Below w.heap.size w w' := by
  have HK := Lib.hid (heap_alloc_new w (.cells (kv l) 23))
  have HKK := Lib.hid hk
  have HE := Lib.hid he
  have HBB := Lib.hid hb
  clear hk he hb
  have hz := kv_nil
  have hq := run_keq
  rcases hcase with hcase | hcase
  all_goals
    go_enter Try.func12, Try.ntmps12
    go_wp2_with (first | refine ld (.tmp 1) rfl rfl _ rfl l HK.out ?_)
    refine (text_calls l _).mono ?_
    rintro e w1 ⟨rfl, hb1⟩
    have HB1 := Lib.hid hb1
    have hs1 : w.heap.size < w1.heap.size := by have := hb1.size; simp at this; omega
    clear hb1
    go_wp2_with fail
    refine (of_calls _ _).mono ?_
    rintro e w2 ⟨rfl, hb2⟩
    have hs2 : w1.heap.size ≤ w2.heap.size := hb2.size
    have HB2 := Lib.hid hb2
    clear hb2
    have HL := Lib.hid (bcell HB2.out hs1 (bcell HB1.out (by simp) HK.out))
    have e1 : (⟨(tx l).toArray⟩ : ByteArray).data.toList = tx l := rfl
    rw [e1, HKK.out, HE.out]
    clear e1
    have HN := Lib.hid (heap_alloc_new w2 (.cells (kv []) 23))
    have HN2 := Lib.hid (set_at (W := w2.alloc (.cells (kv []) 23)) HN.out k)
    have HL2 := Lib.hid (show ((w2.alloc (.cells (kv []) 23)).setRow w2.heap.size (kv k)).heap[w.heap.size]? = some (.cells (kv l) 23 (0, 0)) by
      rw [setRow_other _ _ _ _ (by omega), heap_alloc_old]; exact HL.out; omega)
    go_wp2_with (first | refine st (.tmp 3) (.tmp 9) rfl rfl _ k [] rfl rfl HN.out ?_ | refine ldg (.tmp 3) rfl rfl _ rfl k HN2.out ?_ | refine ldg (.tmp 1) rfl rfl _ rfl l HL2.out ?_)
    go_ret
    refine ⟨?_, ?_⟩
    · rw [← HBB.out]; simp_all
    · exact below_setRow ((((Below.refl _ _).alloc (Nat.le_refl _) _ |>.trans (HB1.out.mono (by simp))).trans (HB2.out.mono (by omega))).alloc (by omega) _) (by omega) _

theorem good_calls (l : List UInt8) (w : World) :
    Calls Try.prog 12 #[.agg (kv l)] w fun e w' => e = .returned (.bool (goodB l)) ∧ Below w.heap.size w w' := by
  cases h : okS (tx l)
  · exact good_way l [] 1 w (by simp [ofK, h]) (by simp [ofE, h]) (.inr rfl) _ (by simp [goodB, h])
  · exact good_way l (tx l) 0 w (by simp [ofK, h]) (by simp [ofE, h]) (.inl rfl) _ (by simp [goodB, h])

/-! ### Text -/
def txtK (l : List UInt8) : List UInt8 := if goodB l = true then tx l else []
set_option maxHeartbeats 1000000 in
theorem textK_calls (l : List UInt8) (w : World) :
    Calls Try.prog 11 #[.agg (kv l)] w fun e w' => e = .returned (.string ⟨(txtK l).toArray⟩) ∧ Below w.heap.size w w' := by
  have HK := Lib.hid (heap_alloc_new w (.cells (kv l) 23))
  have hg := good_calls l
  have HG := Lib.hid hg
  clear hg
  cases hb : goodB l
  all_goals
    have HB := Lib.hid hb
    clear hb
    go_enter Try.func11, Try.ntmps11
    go_wp2_with (first | refine ld (.tmp 1) rfl rfl _ rfl l HK.out ?_)
    refine (HG.out _).mono ?_
    rw [HB.out]
    rintro e w1 ⟨rfl, hb1⟩
    have HB1 := Lib.hid hb1
    have hs1 : w.heap.size < w1.heap.size := by have := hb1.size; simp at this; omega
    have HL := Lib.hid (bcell hb1 (by simp) HK.out)
    clear hb1
  · go_wp2_with fail
    go_ret
    exact ⟨by simp [txtK, HB.out], ((Below.refl _ _).alloc (Nat.le_refl _) _).trans (HB1.out.mono (by simp))⟩
  · go_wp2_with (first | refine ld (.tmp 1) rfl rfl _ rfl l HL.out ?_)
    refine (text_calls l _).mono ?_
    rintro e w2 ⟨rfl, hb2⟩
    have HB2 := Lib.hid hb2
    clear hb2
    go_wp2_with fail
    go_ret
    exact ⟨by simp [txtK, HB.out], (((Below.refl _ _).alloc (Nat.le_refl _) _).trans (HB1.out.mono (by simp))).trans (HB2.out.mono (by omega))⟩

/-! ### Within -/
def cmpK (l m : List UInt8) : Int := Lib.compareBytes (pad l) (pad m)
theorem cmpK_calls (l m : List UInt8) (w : World) : Calls Try.prog 13 #[.agg (kv l), .agg (kv m)] w fun e w' => e = .returned (.int .i64 (cmpK l m)) ∧ Below w.heap.size w w' := cmp_calls l m w
def withinB (k f t : List UInt8) : Bool := decide (0 ≤ cmpK k f) && (keq t [] || decide (cmpK k t < 0))
abbrev W3 (w : World) (k f t : List UInt8) : World := ((w.alloc (.cells (kv k) 23)).alloc (.cells (kv f) 23)).alloc (.cells (kv t) 23)
theorem W3_0 (w : World) (k f t : List UInt8) : (W3 w k f t).heap[w.heap.size]? = some (.cells (kv k) 23 (0, 0)) := (Below.heap_alloc _ _ _ (by simp; omega)).trans ((Below.heap_alloc _ _ _ (by simp)).trans (heap_alloc_new _ _))
theorem W3_1 (w : World) (k f t : List UInt8) : (W3 w k f t).heap[w.heap.size + 1]? = some (.cells (kv f) 23 (0, 0)) := by
  refine (Below.heap_alloc _ _ _ (by simp)).trans ?_
  have := heap_alloc_new (w.alloc (.cells (kv k) 23)) (.cells (kv f) 23)
  simpa using this
theorem W3_2 (w : World) (k f t : List UInt8) : (W3 w k f t).heap[w.heap.size + 2]? = some (.cells (kv t) 23 (0, 0)) := by
  have := heap_alloc_new ((w.alloc (.cells (kv k) 23)).alloc (.cells (kv f) 23)) (.cells (kv t) 23)
  simpa using this
theorem W3_below (w : World) (k f t : List UInt8) : Below w.heap.size w (W3 w k f t) := (((Below.refl _ _).alloc (Nat.le_refl _) _).alloc (by simp) _).alloc (by simp; omega) _
theorem W3_size (w : World) (k f t : List UInt8) : (W3 w k f t).heap.size = w.heap.size + 3 := by simp

set_option maxHeartbeats 2000000 in
theorem within_calls (k f t : List UInt8) (w : World) :
    Calls Try.prog 14 #[.agg (kv k), .agg (kv f), .agg (kv t)] w fun e w' => e = .returned (.bool (withinB k f t)) ∧ Below w.heap.size w w' := by
  have H0 := Lib.hid (W3_0 w k f t)
  have H1 := Lib.hid (W3_1 w k f t)
  have H2 := Lib.hid (W3_2 w k f t)
  have HB0 := Lib.hid (W3_below w k f t)
  have HS := Lib.hid (W3_size w k f t)
  have hz := kv_nil
  have hq := run_keq
  obtain ⟨b, hb⟩ : ∃ b, withinB k f t = b := ⟨_, rfl⟩
  have HW := Lib.hid hb
  rw [hb]
  clear hb
  obtain ⟨c1, hc1⟩ : ∃ c1, cmpK k f = c1 := ⟨_, rfl⟩
  have HC1 := Lib.hid hc1
  clear hc1
  obtain ⟨c2, hc2⟩ : ∃ c2, cmpK k t = c2 := ⟨_, rfl⟩
  have HC2 := Lib.hid hc2
  clear hc2
  obtain ⟨q, hq2⟩ : ∃ q, keq t [] = q := ⟨_, rfl⟩
  by_cases h1 : 0 ≤ c1
  · cases q
    · go_enter Try.func14, Try.ntmps14
      go_wp2_with (first | refine ld (.tmp 3) rfl rfl _ rfl k H0.out ?_ | refine ld (.tmp 4) rfl rfl _ rfl f H1.out ?_)
      refine (cmpK_calls k f _).mono ?_
      rw [HC1.out]
      rintro e w1 ⟨rfl, hb1⟩
      have L0 := Lib.hid (bcell hb1 (by rw [HS.out]; omega) H0.out)
      have L2 := Lib.hid (bcell hb1 (by rw [HS.out]; omega) H2.out)
      have HB1 := Lib.hid hb1
      have hs1 : w.heap.size + 3 ≤ w1.heap.size := by have := hb1.size; simp at this; omega
      clear hb1
      go_wp2_with (first | refine ldg (.tmp 3) rfl rfl _ rfl k L0.out ?_ | refine ldg (.tmp 5) rfl rfl _ rfl t L2.out ?_)
      refine (cmpK_calls k t _).mono ?_
      rw [HC2.out]
      rintro e w2 ⟨rfl, hb2⟩
      have HB2 := Lib.hid hb2
      clear hb2
      go_wp2_with fail
      go_ret
      exact ⟨by rw [← HW.out]; simp [withinB, HC1.out, HC2.out, hq2, h1], (HB0.out.trans (HB1.out.mono (by rw [HS.out]; omega))).trans (HB2.out.mono (by omega))⟩
    · go_enter Try.func14, Try.ntmps14
      go_wp2_with (first | refine ld (.tmp 3) rfl rfl _ rfl k H0.out ?_ | refine ld (.tmp 4) rfl rfl _ rfl f H1.out ?_)
      refine (cmpK_calls k f _).mono ?_
      rw [HC1.out]
      rintro e w1 ⟨rfl, hb1⟩
      have L2 := Lib.hid (bcell hb1 (by rw [HS.out]; omega) H2.out)
      have HB1 := Lib.hid hb1
      clear hb1
      go_wp2_with (first | refine ldg (.tmp 5) rfl rfl _ rfl t L2.out ?_)
      go_ret
      exact ⟨by rw [← HW.out]; simp [withinB, HC1.out, hq2, h1], (HB0.out.trans (HB1.out.mono (by rw [HS.out]; omega)))⟩
  · go_enter Try.func14, Try.ntmps14
    go_wp2_with (first | refine ld (.tmp 3) rfl rfl _ rfl k H0.out ?_ | refine ld (.tmp 4) rfl rfl _ rfl f H1.out ?_)
    refine (cmpK_calls k f _).mono ?_
    rw [HC1.out]
    rintro e w1 ⟨rfl, hb1⟩
    have HB1 := Lib.hid hb1
    clear hb1
    go_wp2_with fail
    go_ret
    exact ⟨by rw [← HW.out]; simp [withinB, HC1.out]; omega, (HB0.out.trans (HB1.out.mono (by rw [HS.out]; omega)))⟩

/-! ### Sum -/
end Go.Proofs.Ytnmnniknklfemaa
