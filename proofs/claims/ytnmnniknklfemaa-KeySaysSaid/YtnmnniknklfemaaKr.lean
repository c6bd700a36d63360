/- Chapter 10's own answers for keys: Sum, Cmp, Good, Text, Of, Within, for every world. No condition. -/
import Derived.Test.YtnmnniknklfemaaKeyD
import Derived.Test.YtnmnniknklfemaaCmp
namespace Go.Proofs.Ytnmnniknklfemaa
open Go.RowKit
set_option linter.unusedVariables false
set_option linter.unusedSimpArgs false

theorem kcell {w w' : World} {g : Nat} {l : List UInt8} (H : w.heap[g]? = some (.cells (kv l) 23 (0, 0))) (hb : Below w.heap.size w w') (i : Nat) (hi : i < 16) : w'.cell? ⟨g, i, none⟩ = some (.int .u8 (kb l i)) :=
  (hb.cell (p := ⟨g, i, none⟩) (lt_of_block H)).trans (kv_cell H i hi)

set_option maxHeartbeats 1000000 in
theorem rsum_calls (l : List UInt8) (w : World) : Calls Try.prog 23 #[.agg (kv l)] w fun e w' => e = .returned (.int .u32 (sumTo l 16)) ∧ Below w.heap.size w w' := by
  have HK := Lib.hid (heap_alloc_new w (.cells (kv l) 23))
  go_enter Try.func23, Try.ntmps23
  go_wp2_with fail
  go_loop [3, 4] (fun s i => ∃ k : Nat, k ≤ 16 ∧ i = .int .i64 k ∧ s = .int .u32 (sumTo l k)) (fun _ i => 16 - (intOf i).toNat)
  case atStart => exact ⟨0, by omega, rfl, rfl⟩
  case round =>
    obtain ⟨k, hk, rfl, rfl⟩ := hrel
    obtain ⟨s, hs⟩ : ∃ s, sumTo l k = s := ⟨_, rfl⟩
    have HS := Lib.hid hs
    rw [hs]
    clear hs
    have hb := kb_range l k
    by_cases hlt : k < 16
    · have hx := kv_cell HK.out k hlt
      go_wp2_with fail
      go_round
      case rel => exact ⟨k + 1, by omega, by go_num, by rw [sumTo, HS.out, rot5]⟩
      case measure => simp [intOf]; omega
    · obtain rfl : k = 16 := by omega
      go_wp2
      go_ret
      exact ⟨by rw [HS.out]; rfl, (Below.refl _ _).alloc (Nat.le_refl _) _⟩

theorem bd2 (w : World) (n m : Nat) : Below w.heap.size w ((w.drewN n).drewN m) := below_drewN (below_drewN (Below.refl _ _) _) _
/-! ### Cmp -/
theorem cb_at : ∀ (k : Nat) (l m : List UInt8) (a b : UInt8), (∀ j, j < k → l[j]? = m[j]?) → l[k]? = some a → m[k]? = some b → Lib.compareBytes l m = if a < b then -1 else if b < a then 1 else Lib.compareBytes (l.drop (k + 1)) (m.drop (k + 1))
  | 0, a :: l, b :: m, _, _, _, h1, h2 => by
    simp at h1 h2
    subst h1; subst h2
    simp [Lib.compareBytes]
  | k + 1, c :: l, d :: m, a, b, h, h1, h2 => by
    have h0 := h 0 (by omega)
    simp at h0
    subst h0
    have ih := cb_at k l m a b (fun j hj => by simpa using h (j + 1) (by omega)) (by simpa using h1) (by simpa using h2)
    simp only [List.drop_succ_cons]
    rw [← ih]
    have : ¬ c < c := cb_irr c
    simp [Lib.compareBytes, this]
  | k, [], m, _, _, _, h1, _ => by simp at h1
  | 0, _ :: _, [], _, _, _, _, h2 => by simp at h2
  | k + 1, _ :: _, [], _, _, _, _, h2 => by simp at h2
theorem kb_lt (l m : List UInt8) (k : Nat) : kb l k < kb m k ↔ l.getD k 0 < m.getD k 0 := by
  unfold kb
  rw [UInt8.lt_iff_toNat_lt]
  omega
theorem kb_eq (l m : List UInt8) (k : Nat) : kb l k = kb m k ↔ l.getD k 0 = m.getD k 0 := by
  unfold kb
  constructor
  · intro h; exact UInt8.toNat_inj.1 (by omega)
  · intro h; rw [h]
theorem cmpK_at (l m : List UInt8) (k : Nat) (hk : k < 16) (h : ∀ j, j < k → kb l j = kb m j) : (kb l k < kb m k → cmpK l m = -1) ∧ (kb m k < kb l k → cmpK l m = 1) := by
  have e := cb_at k (pad l) (pad m) _ _ (fun j hj => by rw [pad_get l j (by omega), pad_get m j (by omega), (kb_eq l m j).1 (h j hj)]) (pad_get l k hk) (pad_get m k hk)
  unfold cmpK
  constructor
  · intro h1
    rw [e, if_pos ((kb_lt l m k).1 h1)]
  · intro h1
    have h2 := (kb_lt m l k).1 h1
    rw [e, if_neg (cb_asym h2), if_pos h2]
theorem cmpK_all (l m : List UInt8) (h : ∀ j, j < 16 → kb l j = kb m j) : cmpK l m = 0 := by
  unfold cmpK
  rw [cmp_zero]
  unfold pad
  exact List.map_congr_left fun i hi => (kb_eq l m i).1 (h i (by simpa using hi))
abbrev B2 (w : World) (l m : List UInt8) : World := (w.alloc (.cells (kv l) 23)).alloc (.cells (kv m) 23)
set_option maxRecDepth 100000 in
set_option maxHeartbeats 2000000 in
theorem rcmp_calls (l m : List UInt8) (w : World) : Calls Try.prog 20 #[.agg (kv l), .agg (kv m)] w fun e w' => e = .returned (.int .i64 (cmpK l m)) ∧ Below w.heap.size w w' := by
  have H0 := Lib.hid (show (B2 w l m).heap[w.heap.size]? = some (.cells (kv l) 23 (0, 0)) from heap_alloc2_old w _ _)
  have H1 := Lib.hid (show (B2 w l m).heap[w.heap.size + 1]? = some (.cells (kv m) 23 (0, 0)) from heap_alloc2_new w _ _)
  have HB0 := Lib.hid (show Below w.heap.size w (B2 w l m) from ((Below.refl _ _).alloc (Nat.le_refl _) _).alloc (by simp) _)
  have HSZ : Hid ((B2 w l m).heap.size = w.heap.size + 2) := Lib.hid (by simp)
  go_enter Try.func20, Try.ntmps20
  go_wp2_with fail
  go_loopw [5] (fun i wr => ∃ k : Nat, k ≤ 16 ∧ i = .int .i64 k ∧ (∀ j, j < k → kb l j = kb m j) ∧ Below (B2 w l m).heap.size (B2 w l m) wr) (fun i _ => 16 - (intOf i).toNat)
  case atStart => exact ⟨0, by omega, rfl, fun j hj => by omega, Below.refl _ _⟩
  case round =>
    obtain ⟨k, hk, rfl, he, hbr⟩ := hrel
    have HE := Lib.hid he
    have HBR := Lib.hid hbr
    clear he hbr
    have HF := Lib.hid (show ∀ w', Below wr.heap.size wr w' → Below w.heap.size w w' from fun w' h => (HB0.out.trans (HBR.out.mono (by rw [HSZ.out]; omega))).trans (h.mono (by have := HBR.out.size; rw [HSZ.out] at this; omega)))
    by_cases hlt : k < 16
    · have q0 : ∀ n, (wr.drewN n).cell? ⟨w.heap.size, k, none⟩ = some (.int .u8 (kb l k)) := fun n => kcell H0.out (HBR.out.trans ((below_drewN (Below.refl _ _) n).mono HBR.out.size)) k hlt
      have q1 : ∀ n, (wr.drewN n).cell? ⟨w.heap.size + 1, k, none⟩ = some (.int .u8 (kb m k)) := fun n => kcell H1.out (HBR.out.trans ((below_drewN (Below.refl _ _) n).mono HBR.out.size)) k hlt
      have hat := cmpK_at l m k hlt HE.out
      by_cases c1 : kb l k < kb m k
      · have hv := Lib.hid (hat.1 c1)
        clear hat
        go_wp2_with fail
        go_quiet (fail)
        go_wp2_with fail
        go_ret
        exact ⟨by rw [hv.out] <;> rfl, HF.out _ (below_drewN (Below.refl _ _) _)⟩
      · by_cases c2 : kb m k < kb l k
        · have hv := Lib.hid (hat.2 c2)
          clear hat
          go_wp2_with fail
          go_quiet (fail)
          go_wp2_with fail
          go_quiet (fail)
          go_wp2_with fail
          go_ret
          exact ⟨by rw [hv.out] <;> rfl, HF.out _ (bd2 _ _ _)⟩
        · have hv := Lib.hid (show kb l k = kb m k by omega)
          clear hat
          go_wp2_with fail
          go_quiet (fail)
          go_wp2_with fail
          go_quiet (fail)
          go_wp2_with fail
          go_roundw
          case rel => exact ⟨k + 1, by omega, by go_num, fun j hj => by
            by_cases e : j = k
            · subst e; exact hv.out
            · exact HE.out j (by omega), HBR.out.trans ((below_drewN (Below.refl _ _) _).mono HBR.out.size)⟩
          case measure => simp [intOf]; omega
    · obtain rfl : k = 16 := by omega
      go_wp2_with fail
      go_ret
      exact ⟨by rw [cmpK_all l m HE.out] <;> rfl, HF.out _ (Below.refl _ _)⟩

/-! ### Good -/
theorem first_zero (l : List UInt8) : ∃ n, n ≤ 16 ∧ (∀ j, j < n → kb l j ≠ 0) ∧ (n = 16 ∨ kb l n = 0) := by
  have h : ∀ k, k ≤ 16 → (∃ n, n ≤ k ∧ (∀ j, j < n → kb l j ≠ 0) ∧ (n = k ∨ kb l n = 0)) := by
    intro k
    induction k with
    | zero => exact fun _ => ⟨0, by omega, fun j hj => by omega, .inl rfl⟩
    | succ k ih =>
      intro hk
      obtain ⟨n, h1, h2, h3⟩ := ih (by omega)
      rcases h3 with rfl | h3
      · by_cases hz : kb l n = 0
        · exact ⟨n, by omega, h2, .inr hz⟩
        · refine ⟨n + 1, by omega, fun j hj => ?_, .inl rfl⟩
          by_cases e : j = n
          · subst e; exact hz
          · exact h2 j (by omega)
      · exact ⟨n, by omega, h2, .inr h3⟩
  exact h 16 (by omega)
theorem tx_get (l : List UInt8) (n : Nat) (hn : n ≤ 16) (h1 : ∀ j, j < n → kb l j ≠ 0) (h2 : n = 16 ∨ kb l n = 0) (i : Nat) (hi : i < 16) : (tx l).getD i 0 = if i < n then l.getD i 0 else 0 := by
  rw [tx_eq l n hn h1 h2, List.getD_eq_getElem?_getD, List.getElem?_take]
  split
  · rw [pad_get l i hi]; rfl
  · rfl
theorem keq_iff (l m : List UInt8) : keq l m = true ↔ ∀ i, i < 16 → l.getD i 0 = m.getD i 0 := by
  unfold keq
  rw [beq_iff_eq]
  constructor
  · intro h i hi
    have e1 := pad_get l i hi
    rw [h, pad_get m i hi] at e1
    exact (Option.some.inj e1).symm
  · intro h
    unfold pad
    exact List.map_congr_left fun i hi => h i (by simpa using hi)
theorem good_bad (l : List UInt8) (j k : Nat) (hjk : j < k) (hk : k < 16) (hj : kb l j = 0) (hne : kb l k ≠ 0) : goodB l = false := by
  obtain ⟨n, h1, h2, h3⟩ := first_zero l
  have hnj : n ≤ j := by
    rcases Nat.lt_or_ge j n with h | h
    · exact absurd hj (h2 j h)
    · exact h
  cases hg : goodB l
  · rfl
  · unfold goodB at hg
    rw [Bool.and_eq_true] at hg
    have := (keq_iff _ _).1 hg.2 k hk
    rw [tx_get l n h1 h2 h3 k hk, if_neg (by omega)] at this
    exact absurd ((kb_zero l k).2 this.symm) hne
theorem tx_len (l : List UInt8) : (tx l).length ≤ 16 := by
  obtain ⟨n, h1, h2, h3⟩ := first_zero l
  rw [tx_eq l n h1 h2 h3, List.length_take]
  omega
theorem tw_imp (p : UInt8 → Bool) : ∀ (l : List UInt8) (x : UInt8), x ∈ l.takeWhile p → p x = true
  | [], x, h => by simp at h
  | y :: l, x, h => by
    rw [List.takeWhile_cons] at h
    split at h
    · rcases List.mem_cons.1 h with rfl | h
      · assumption
      · exact tw_imp p l x h
    · simp at h
theorem good_end (l : List UInt8) (h : ∀ j k, j < k → k < 16 → kb l j = 0 → kb l k = 0) : goodB l = (kb l 0 != 0) := by
  obtain ⟨n, h1, h2, h3⟩ := first_zero l
  have hk : keq (tx l) l = true := (keq_iff _ _).2 fun i hi => by
    rw [tx_get l n h1 h2 h3 i hi]
    split
    · rfl
    · rename_i hni
      have h4 : kb l n = 0 := by
        rcases h3 with h3 | h3
        · omega
        · exact h3
      have : kb l i = 0 := by
        rcases Nat.lt_or_ge n i with h5 | h5
        · exact h n i h5 hi h4
        · have : i = n := by omega
          rw [this]; exact h4
      exact ((kb_zero l i).1 this).symm
  unfold goodB
  rw [hk, Bool.and_true]
  have hz : ¬ (0 : UInt8) ∈ tx l := fun hm => by have := tw_imp _ _ _ hm; simp at this
  have hl : (tx l).length = n := by rw [tx_eq l n h1 h2 h3, List.length_take]; simp [pad]; omega
  unfold okS
  rw [show (tx l).contains 0 = false by simpa using hz, show decide ((tx l).length ≤ 16) = true from decide_eq_true (tx_len l)]
  simp only [Bool.and_true, Bool.not_false]
  rcases Nat.eq_zero_or_pos n with h0 | h0
  · subst h0
    have h4 : kb l 0 = 0 := by
      rcases h3 with h3 | h3
      · omega
      · exact h3
    have : tx l = [] := List.eq_nil_of_length_eq_zero hl
    rw [this, h4]; rfl
  · have h4 := h2 0 h0
    have : (tx l).isEmpty = false := by
      cases ht : tx l with
      | nil => rw [ht] at hl; simp at hl; omega
      | cons a b => rfl
    rw [this]
    simpa using h4
set_option maxRecDepth 100000 in
set_option maxHeartbeats 2000000 in
theorem rgood_calls (l : List UInt8) (w : World) : Calls Try.prog 19 #[.agg (kv l)] w fun e w' => e = .returned (.bool (goodB l)) ∧ Below w.heap.size w w' := by
  have HK := Lib.hid (heap_alloc_new w (.cells (kv l) 23))
  have HB := Lib.hid ((Below.refl w.heap.size w).alloc (Nat.le_refl _) (.cells (kv l) 23))
  go_enter Try.func19, Try.ntmps19
  go_wp2_with fail
  go_loop [3, 4] (fun s i => ∃ (k : Nat) (b : Bool), k ≤ 16 ∧ i = .int .i64 k ∧ s = .bool b ∧ (b = true → ∃ j, j < k ∧ kb l j = 0) ∧ (b = false → ∀ j, j < k → kb l j ≠ 0) ∧ (∀ j i, j < i → i < k → kb l j = 0 → kb l i = 0)) (fun _ i => 16 - (intOf i).toNat)
  case atStart => exact ⟨0, false, by omega, rfl, rfl, (fun h => by cases h), (fun _ j hj => by omega), fun j i _ hi => by omega⟩
  case round =>
    obtain ⟨k, b, hk, rfl, rfl, hb1, hb2, hall⟩ := hrel
    have HB1 := Lib.hid hb1
    have HB2 := Lib.hid hb2
    have HA := Lib.hid hall
    clear hb1 hb2 hall
    by_cases hlt : k < 16
    · have hx := kv_cell HK.out k hlt
      by_cases hz : kb l k = 0
      · have hz1 : (kb l k == 0) = true := by simpa using hz
        have HZ := Lib.hid hz
        clear hz
        go_wp2_with fail
        go_round
        case rel => exact ⟨k + 1, true, by omega, by go_num, rfl, fun _ => ⟨k, by omega, HZ.out⟩, (fun h => by cases h), fun j i hj hi h0 => by
          by_cases e : i = k
          · subst e; exact HZ.out
          · exact HA.out j i hj (by omega) h0⟩
        case measure => simp [intOf]; omega
      · have hz1 : (kb l k == 0) = false := by simpa using hz
        have HZ := Lib.hid hz
        clear hz
        cases b
        · go_wp2_with fail
          go_round
          case rel => exact ⟨k + 1, false, by omega, by go_num, rfl, (fun h => by cases h), (fun _ j hj => by
            by_cases e : j = k
            · subst e; exact HZ.out
            · exact HB2.out (by simp) j (by omega)), fun j i hj hi h0 => absurd h0 (HB2.out (by simp) j (by omega))⟩
          case measure => simp [intOf]; omega
        · go_wp2_with fail
          go_ret
          obtain ⟨j, hj, h0⟩ := HB1.out (by simp)
          exact ⟨by rw [good_bad l j k hj hlt h0 HZ.out] <;> rfl, HB.out⟩
    · obtain rfl : k = 16 := by omega
      have hx := kv_cell HK.out 0 (by omega)
      go_wp2_with fail
      go_ret
      exact ⟨by rw [good_end l HA.out] <;> rfl, HB.out⟩

/-! ### Text -/
set_option maxHeartbeats 2000000 in
theorem rtext_calls (l : List UInt8) (w : World) :
    Calls Try.prog 18 #[.agg (kv l)] w fun e w' => e = .returned (.string ⟨(txtK l).toArray⟩) ∧ Below w.heap.size w w' := by
  have HK0 := Lib.hid (heap_alloc_new w (.cells (kv l) 23))
  have HB0 := Lib.hid ((Below.refl w.heap.size w).alloc (Nat.le_refl _) (.cells (kv l) 23))
  obtain ⟨g, hg⟩ : ∃ g, goodB l = g := ⟨_, rfl⟩
  have HG := Lib.hid hg
  clear hg
  go_enter Try.func18, Try.ntmps18
  go_wp2_with (first | refine ld (.tmp 1) rfl rfl _ rfl l HK0.out ?_)
  refine (rgood_calls l _).mono ?_
  rw [HG.out]
  rintro e w1 ⟨rfl, hb1⟩
  have HB1 := Lib.hid (HB0.out.trans (hb1.mono (by simp)))
  have HK := Lib.hid (bcell hb1 (by simp) HK0.out)
  clear hb1
  cases g
  · go_wp2_with fail
    go_ret
    exact ⟨by simp [txtK, HG.out], HB1.out⟩
  go_wp2_with fail
  go_loop [3] (fun n => ∃ k : Nat, k ≤ 16 ∧ n = .int .i64 k ∧ ∀ j, j < k → kb l j ≠ 0) (fun n => 16 - (intOf n).toNat)
  case atStart => exact ⟨0, by omega, rfl, fun j hj => by omega⟩
  case round =>
    obtain ⟨k, hk, rfl, hne⟩ := hrel
    have HN := Lib.hid hne
    clear hne
    have hb := kb_range l k
    have hkI : (k : Int) ≤ 16 := by omega
    have hfin : (k = 16 ∨ kb l k = 0) → (convert 45 9 (.slice (some ⟨w.heap.size, 0, none⟩) k 16)).run Try.prog w1 = .ok (.string ⟨(tx l).toArray⟩) w1 := fun hz => by
      rw [tx_eq l k hk HN.out hz, ← str_kints]
      refine run_convert_bytes_arg w1 45 5 Try.underlying45 Try.underlying5 w.heap.size 0 k 16 _ (by simp [kints]; omega) (fun i hi => ?_) 9 Try.underlying9
      rw [Nat.zero_add, kv_cell HK.out i (by omega)]
      simp [List.getD_eq_getElem?_getD, List.getElem?_take, hi, kints, show i < 16 by omega]
    by_cases hlt : k < 16
    · have hc : w1.cell? ⟨w.heap.size, k, none⟩ = some (.int .u8 (kb l k)) := kv_cell HK.out k hlt
      by_cases hz : kb l k = 0
      · have hcv := hfin (.inr hz)
        have hz1 : (kb l k == 0) = true := by simpa using hz
        have hz2 : (kb l k != 0) = false := by simpa using hz
        clear hfin hz
        go_wp2_with fail
        go_ret
        exact ⟨by simp [txtK, HG.out], HB1.out⟩
      · have hz1 : (kb l k == 0) = false := by simpa using hz
        have hz2 : (kb l k != 0) = true := by simpa using hz
        have HZ := Lib.hid hz
        clear hfin hz
        go_wp2_with fail
        go_round
        case rel => exact ⟨k + 1, by omega, by go_num, fun j hj => by
          by_cases h : j = k
          · subst h; exact HZ.out
          · exact HN.out j (by omega)⟩
        case measure => simp [intOf]; omega
    · have hk16 : k = 16 := by omega
      have hcv := hfin (.inl hk16)
      subst hk16
      clear hfin hkI
      go_wp2_with fail
      go_ret
      exact ⟨by simp [txtK, HG.out], HB1.out⟩

/-! ### Within -/
set_option maxHeartbeats 2000000 in
theorem rwithin_calls (k f t : List UInt8) (w : World) :
    Calls Try.prog 21 #[.agg (kv k), .agg (kv f), .agg (kv t)] w fun e w' => e = .returned (.bool (withinB k f t)) ∧ Below w.heap.size w w' := by
  have H0 := Lib.hid (W3_0 w k f t)
  have H1 := Lib.hid (W3_1 w k f t)
  have H2 := Lib.hid (W3_2 w k f t)
  have HB0 := Lib.hid (W3_below w k f t)
  have HS := Lib.hid (W3_size w k f t)
  have hz := kv_nil
  have hq := run_keq
  obtain ⟨b, hb⟩ : ∃ b, withinB k f t = b := ⟨_, rfl⟩
  have HW := Lib.hid hb
  rw [hb]
  clear hb
  obtain ⟨c1, hc1⟩ : ∃ c1, cmpK k f = c1 := ⟨_, rfl⟩
  have HC1 := Lib.hid hc1
  clear hc1
  obtain ⟨c2, hc2⟩ : ∃ c2, cmpK k t = c2 := ⟨_, rfl⟩
  have HC2 := Lib.hid hc2
  clear hc2
  obtain ⟨q, hq2⟩ : ∃ q, keq t [] = q := ⟨_, rfl⟩
  by_cases h1 : 0 ≤ c1
  · cases q
    · go_enter Try.func21, Try.ntmps21
      go_wp2_with (first | refine ld (.tmp 3) rfl rfl _ rfl k H0.out ?_ | refine ld (.tmp 4) rfl rfl _ rfl f H1.out ?_)
      refine (rcmp_calls k f _).mono ?_
      rw [HC1.out]
      rintro e w1 ⟨rfl, hb1⟩
      have L0 := Lib.hid (bcell hb1 (by rw [HS.out]; omega) H0.out)
      have L2 := Lib.hid (bcell hb1 (by rw [HS.out]; omega) H2.out)
      have HB1 := Lib.hid hb1
      have hs1 : w.heap.size + 3 ≤ w1.heap.size := by have := hb1.size; simp at this; omega
      clear hb1
      go_wp2_with (first | refine ldg (.tmp 3) rfl rfl _ rfl k L0.out ?_ | refine ldg (.tmp 5) rfl rfl _ rfl t L2.out ?_)
      refine (rcmp_calls k t _).mono ?_
      rw [HC2.out]
      rintro e w2 ⟨rfl, hb2⟩
      have HB2 := Lib.hid hb2
      clear hb2
      go_wp2_with fail
      go_ret
      exact ⟨by rw [← HW.out]; simp [withinB, HC1.out, HC2.out, hq2, h1], (HB0.out.trans (HB1.out.mono (by rw [HS.out]; omega))).trans (HB2.out.mono (by omega))⟩
    · go_enter Try.func21, Try.ntmps21
      go_wp2_with (first | refine ld (.tmp 3) rfl rfl _ rfl k H0.out ?_ | refine ld (.tmp 4) rfl rfl _ rfl f H1.out ?_)
      refine (rcmp_calls k f _).mono ?_
      rw [HC1.out]
      rintro e w1 ⟨rfl, hb1⟩
      have L2 := Lib.hid (bcell hb1 (by rw [HS.out]; omega) H2.out)
      have HB1 := Lib.hid hb1
      clear hb1
      go_wp2_with (first | refine ldg (.tmp 5) rfl rfl _ rfl t L2.out ?_)
      go_ret
      exact ⟨by rw [← HW.out]; simp [withinB, HC1.out, hq2, h1], (HB0.out.trans (HB1.out.mono (by rw [HS.out]; omega)))⟩
  · go_enter Try.func21, Try.ntmps21
    go_wp2_with (first | refine ld (.tmp 3) rfl rfl _ rfl k H0.out ?_ | refine ld (.tmp 4) rfl rfl _ rfl f H1.out ?_)
    refine (rcmp_calls k f _).mono ?_
    rw [HC1.out]
    rintro e w1 ⟨rfl, hb1⟩
    have HB1 := Lib.hid hb1
    clear hb1
    go_wp2_with fail
    go_ret
    exact ⟨by rw [← HW.out]; simp [withinB, HC1.out]; omega, (HB0.out.trans (HB1.out.mono (by rw [HS.out]; omega)))⟩

end Go.Proofs.Ytnmnniknklfemaa
