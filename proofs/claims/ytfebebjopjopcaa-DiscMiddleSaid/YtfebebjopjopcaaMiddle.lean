/- The middle one of l, held between the bounds, has at most half of l below it and at most half above it, and is one of l: the plain law of DiscMiddle. Conditions: each theorem's own. -/
import Derived.Test.YtfebebjopjopcaaQMidx4
namespace Go.Proofs.Ytfebebjopjopcaa.QMid
open Go.RowKit Go.Proofs.YtfebebjopjopcaaW.PrintWords Go.Proofs.YtfebebjopjopcaaW.PrintLast
def cl (v : Int) : Int := if v > 1099511627776 then 1099511627776 else if v < -1099511627776 then -1099511627776 else v
theorem w64 (x : Int) (h : -9223372036854775808 ≤ x ∧ x ≤ 9223372036854775807) : wrap64 x = x := by unfold wrap64; omega
theorem cl_mono {a b : Int} (h : a ≤ b) : cl a ≤ cl b := by unfold cl; repeat' split <;> try omega
theorem cl_eq (v : Int) : min (max v (-1099511627776)) 1099511627776 = cl v := by unfold cl; repeat' split <;> omega
theorem mid_step (k : Nat) (x : List Int) (m a b : Int) (s : Bool) (i : Int) (hi : 0 ≤ i) (hl : i < (x.length : Int)) :
    hourglasslaw7_DiscMiddle.l0 (k + 1) x m a b s i = hourglasslaw7_DiscMiddle.l0 k x m (if cl (rd x i) < m then wrap64 (a + 1) else a) (if m < cl (rd x i) then wrap64 (b + 1) else b) (s || (cl (rd x i) == m)) (wrap64 (i + 1)) := by
  conv => lhs; rw [hourglasslaw7_DiscMiddle.l0.eq_def]
  simp only []
  rw [if_pos hl, if_pos hi]
  generalize rd x i = v
  generalize wrap64 (i + 1) = i'
  generalize wrap64 (a + 1) = a'
  generalize wrap64 (b + 1) = b'
  unfold cl
  have hq : ¬ ((1099511627776 : Int) < -1099511627776) := by omega
  cases s <;> by_cases h1 : v > 1099511627776 <;> by_cases h2 : v < -1099511627776 <;> simp only [h1, h2, hq, if_true, if_false, Bool.false_or, Bool.true_or, Bool.false_eq_true, gt_iff_lt] <;>
    (repeat' split) <;> rfl
theorem mid_fin (n a b : Nat) (hn : n ≤ 64) (ha : a ≤ n) (hb : b ≤ n) : (if (wrap64 (2 * (a : Int))) ≤ (wrap64 ((n : Int) - 1)) then (some (decide ((wrap64 (2 * (b : Int))) ≤ (n : Int)))) else (some false)) = some (decide (2 * a + 1 ≤ n) && decide (2 * b ≤ n)) := by
  rw [w64 (2 * (a : Int)) (by omega), w64 (2 * (b : Int)) (by omega), w64 ((n : Int) - 1) (by omega)]
  by_cases h : 2 * a + 1 ≤ n
  · rw [if_pos (by omega), decide_eq_true h, Bool.true_and]
    exact congrArg some (decide_eq_decide.mpr (by omega))
  · rw [if_neg (by omega), decide_eq_false h, Bool.false_and]
theorem mid_loop (x : List Int) (m : Int) (hx : x.length ≤ 64) : ∀ (j i k a b : Nat) (s : Bool), i + j = x.length → a ≤ i → b ≤ i →
    hourglasslaw7_DiscMiddle.l0 (k + j + 1) x m (a : Int) (b : Int) s (i : Int) =
      some ((s || (x.drop i).any (fun v => cl v == m)) && decide (2 * (a + (x.drop i).countP (fun v => decide (cl v < m))) + 1 ≤ x.length) && decide (2 * (b + (x.drop i).countP (fun v => decide (m < cl v))) ≤ x.length))
  | 0, i, k, a, b, s, hij, ha, hb => by
    have hi : i = x.length := by omega
    subst hi
    rw [hourglasslaw7_DiscMiddle.l0.eq_def]
    simp only []
    rw [if_neg (by omega), List.drop_length]
    rw [mid_fin x.length a b (by omega) (by omega) (by omega)]
    cases s
    · rfl
    · rfl
  | j + 1, i, k, a, b, s, hij, ha, hb => by
    have hlt : i < x.length := by omega
    rw [show k + (j + 1) + 1 = (k + j + 1) + 1 by omega, mid_step _ _ _ _ _ _ _ (by omega) (by omega)]
    have e1 : wrap64 ((a : Int) + 1) = ((a + 1 : Nat) : Int) := by rw [w64 _ (by omega)]; omega
    have e2 : wrap64 ((b : Int) + 1) = ((b + 1 : Nat) : Int) := by rw [w64 _ (by omega)]; omega
    have e3 : wrap64 ((i : Int) + 1) = ((i + 1 : Nat) : Int) := by rw [w64 _ (by omega)]; omega
    have e4 : rd x (i : Int) = x[i] := by simp [rd, List.getD, hlt]
    rw [e1, e2, e3, e4, List.drop_eq_getElem_cons hlt]
    generalize x[i] = v
    simp only [List.any_cons, List.countP_cons, decide_eq_true_eq]
    have q1 : (if cl v < m then ((a + 1 : Nat) : Int) else (a : Int)) = ((a + (if cl v < m then 1 else 0) : Nat) : Int) := by split <;> omega
    have q2 : (if m < cl v then ((b + 1 : Nat) : Int) else (b : Int)) = ((b + (if m < cl v then 1 else 0) : Nat) : Int) := by split <;> omega
    rw [q1, q2, mid_loop x m hx j (i + 1) k _ _ _ (by omega) (by split <;> omega) (by split <;> omega), Bool.or_assoc]
    refine congrArg some ?_
    rw [Bool.eq_iff_iff]
    simp only [Bool.and_eq_true, decide_eq_true_eq]
    refine and_congr (and_congr Iff.rfl ?_) ?_
    · split <;> omega
    · split <;> omega
theorem mid_plain (l : List Int) (h1 : 1 ≤ l.length) (m : Int) (hm : m = disc_Clock_Sample.mid l) :
    l.any (fun v => cl v == m) = true ∧ 2 * l.countP (fun v => decide (cl v < m)) + 1 ≤ l.length ∧ 2 * l.countP (fun v => decide (m < cl v)) ≤ l.length := by
  unfold disc_Clock_Sample.mid at hm
  have hp : (l.mergeSort fun x y => decide (x ≤ y)).Perm l := List.mergeSort_perm l _
  have hs : (l.mergeSort fun x y => decide (x ≤ y)).Pairwise (fun x y => decide (x ≤ y) = true) := List.pairwise_mergeSort (by intro a b c h1 h2; simp at *; omega) (by intro a b; simp; omega) l
  generalize (l.mergeSort fun x y => decide (x ≤ y)) = s at hm hp hs
  have hn : s.length = l.length := hp.length_eq
  rw [← hn] at h1 hm ⊢
  have hlt : (s.length - 1) / 2 < s.length := by omega
  rw [List.getElem?_eq_getElem hlt, Option.getD_some, cl_eq] at hm
  rw [← hp.countP_eq, ← hp.countP_eq]
  refine ⟨?_, ?_, ?_⟩
  · rw [List.any_eq_true]
    exact ⟨_, hp.mem_iff.mp (List.getElem_mem hlt), by simp [hm]⟩
  · have e : s.countP (fun v => decide (cl v < m)) = (s.take ((s.length - 1) / 2)).countP (fun v => decide (cl v < m)) := by
      conv => lhs; rw [← List.take_append_drop ((s.length - 1) / 2) s, List.countP_append]
      have : (s.drop ((s.length - 1) / 2)).countP (fun v => decide (cl v < m)) = 0 := by
        rw [List.countP_eq_zero]
        intro v hv
        obtain ⟨j, hj, rfl⟩ := List.mem_iff_getElem.mp hv
        rw [List.getElem_drop]
        have := List.length_drop (i := (s.length - 1) / 2) (l := s)
        have hle : s[(s.length - 1) / 2] ≤ s[(s.length - 1) / 2 + j] := by
          rcases Nat.eq_zero_or_pos j with rfl | hj0
          · exact Int.le_refl _
          · exact of_decide_eq_true (List.pairwise_iff_getElem.mp hs _ _ (by omega) (by omega) (by omega))
        have := cl_mono hle
        simp
        omega
      omega
    have e2 := List.countP_le_length (p := fun v => decide (cl v < m)) (l := s.take ((s.length - 1) / 2))
    have := List.length_take (i := (s.length - 1) / 2) (l := s)
    omega
  · have e : s.countP (fun v => decide (m < cl v)) = (s.drop ((s.length - 1) / 2 + 1)).countP (fun v => decide (m < cl v)) := by
      conv => lhs; rw [← List.take_append_drop ((s.length - 1) / 2 + 1) s, List.countP_append]
      have : (s.take ((s.length - 1) / 2 + 1)).countP (fun v => decide (m < cl v)) = 0 := by
        rw [List.countP_eq_zero]
        intro v hv
        obtain ⟨j, hj, rfl⟩ := List.mem_iff_getElem.mp hv
        rw [List.getElem_take]
        have := List.length_take (i := (s.length - 1) / 2 + 1) (l := s)
        have hle : s[j] ≤ s[(s.length - 1) / 2] := by
          rcases Nat.lt_or_ge j ((s.length - 1) / 2) with hj0 | hj0
          · exact of_decide_eq_true (List.pairwise_iff_getElem.mp hs _ _ (by omega) (by omega) (by omega))
          · have : j = (s.length - 1) / 2 := by omega
            subst this
            exact Int.le_refl _
        have := cl_mono hle
        simp
        omega
      omega
    have e2 := List.countP_le_length (p := fun v => decide (m < cl v)) (l := s.drop ((s.length - 1) / 2 + 1))
    have := List.length_drop (i := (s.length - 1) / 2 + 1) (l := s)
    omega
theorem awake_yes : ∀ k, hourglasslaw7_awake.f k = some true := by
  intro k
  rfl
theorem new_eq : disc_New.f 1 (-1) = some (1, -1, 0) := by rfl
theorem middle : hourglasslaw7_DiscMiddle.Pure := by
  intro l _ _ _
  refine ⟨l.length + 1, ?_⟩
  unfold hourglasslaw7_DiscMiddle.f
  rw [awake_yes, Option.bind_some, if_pos rfl]
  split
  · rfl
  · split
    · rfl
    · rename_i h1 h2
      rw [new_eq, Option.bind_some]
      simp only []
      unfold disc_Clock_Sample.f
      rw [if_neg (by omega), Option.bind_some]
      obtain ⟨p1, p2, p3⟩ := mid_plain l (by omega) _ rfl
      have := mid_loop l (disc_Clock_Sample.mid l) (by omega) l.length 0 0 0 0 false (by omega) (by omega) (by omega)
      simp only [Nat.zero_add, Bool.false_or, List.drop_zero] at this
      rw [p1, decide_eq_true p2, decide_eq_true p3] at this
      exact this
end Go.Proofs.Ytfebebjopjopcaa.QMid
