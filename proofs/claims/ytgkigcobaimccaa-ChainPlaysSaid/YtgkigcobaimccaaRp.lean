/- The document's own versions: Put: a contract for every world. Conditions: each theorem's own. -/
import Derived.Test.YtgkigcobaimccaaRa
namespace Go.Proofs.Ytgkigcobaimccaa
open Go.RowKit Go.Proofs.Ytgkigcobaimccaa.Sp
set_option linter.unusedVariables false
set_option linter.unusedSimpArgs false
theorem o_one (L : List Ver) : ∀ u ∈ oV L, u.oneCell' = true := by
  intro u hu
  obtain ⟨x, hx, hu⟩ := List.mem_flatMap.mp hu
  simp only [oC, List.mem_cons, List.not_mem_nil, or_false] at hu
  rcases hu with rfl | rfl | rfl | rfl | rfl | rfl | rfl | rfl | rfl | rfl | rfl | rfl | rfl | rfl | rfl | rfl | rfl | rfl | rfl | rfl <;> rfl
theorem oV_len : ∀ L : List Ver, (oV L).length = L.length * 20
  | [] => rfl
  | x :: L => by
    have := oV_len L
    simp only [oV, List.flatMap_cons, List.length_append, List.length_cons] at this ⊢
    rw [this, oC_len]
    omega
theorem oV_take : ∀ (k : Nat) (L : List Ver), (oV L).take (k * 20) = oV (L.take k)
  | 0, L => by simp [oV]
  | k + 1, [] => by simp [oV]
  | k + 1, x :: L => by
    have ih := oV_take k L
    simp only [oV, List.flatMap_cons, List.take_succ_cons] at ih ⊢
    rw [← ih, show (k + 1) * 20 = (oC x).toList.length + k * 20 by rw [oC_len]; omega, List.take_length_add_append]
theorem oV_drop : ∀ (k : Nat) (L : List Ver), (oV L).drop (k * 20) = oV (L.drop k)
  | 0, L => by simp [oV]
  | k + 1, [] => by simp [oV]
  | k + 1, x :: L => by
    have ih := oV_drop k L
    simp only [oV, List.flatMap_cons, List.drop_succ_cons] at ih ⊢
    rw [← ih, show (k + 1) * 20 = (oC x).toList.length + k * 20 by rw [oC_len]; omega, List.drop_length_add_append]
theorem app_o {w0 w : World} {h F : Hp} {v : Value} {n : Nat} {xs : List Value} (R : RowB 49 20 v n xs h) (H : Holds w0 (h ++ F) w) (A : Option Addr) (m c : Nat) (hc : A = none → c = 0) (news : List Value) (hr : Reads w A m 20 news) (h1 : ∀ u ∈ news, u.oneCell' = true) (hn : n + m ≤ 1000) :
    ∃ v' h' w', (Builtin.append_ #[39, 39] 39 #[v, .slice A m c]).run Try.prog w = .ok v' w' ∧ RowB 49 20 v' (n + m) (xs ++ news) h' ∧ Holds w0 (h' ++ F) w' := by
  obtain ⟨i, z, hi, hz, h3, h4, h5⟩ := info49i
  exact row_append (t := 39) R H 39 i z 56 Try.underlying39 hi hz h3 h4 h5 (by decide) A m c hc news hr h1 (by have hmx : maxLen = 9223372036854775807 := rfl; omega) (by omega)
theorem ro_take {w : World} {b n c k : Nat} {L : List Ver} (h : Ro b L w) (hk : k ≤ L.length) : Reads w (some ⟨b, 0, none⟩) k 20 (oV (L.take k)) := by
  refine ⟨by rw [oV_len, List.length_take, Nat.min_eq_left hk], (fun h => by cases h), fun ad had j u hj => ?_⟩
  injection had with had
  subst had
  have e : (⟨b, 0, none⟩ : Addr).add j = ⟨b, j, none⟩ := by simp [Addr.add]; omega
  rw [e]
  refine h j u ?_
  rw [← oV_take, List.getElem?_take] at hj
  split at hj
  · exact hj
  · cases hj
theorem ro_drop {w : World} {b c k : Nat} {L : List Ver} (h : Ro b L w) (hk : k ≤ L.length) (hc : L.length ≤ c) : ∃ A, (if c = k then (some ⟨b, 0, none⟩ : Option Addr) else some ⟨b, k * 20, none⟩) = some A ∧ Reads w (some A) (L.length - k) 20 (oV (L.drop k)) := by
  by_cases hck : c = k
  · refine ⟨⟨b, 0, none⟩, by simp [hck], by rw [oV_len, List.length_drop], (fun h => by cases h), fun ad _ j u hj => ?_⟩
    rw [List.drop_of_length_le (by omega)] at hj
    simp [oV] at hj
  · refine ⟨⟨b, k * 20, none⟩, by simp [hck], by rw [oV_len, List.length_drop], (fun h => by cases h), fun ad had j u hj => ?_⟩
    injection had with had
    subst had
    have e : (⟨b, k * 20, none⟩ : Addr).add j = ⟨b, k * 20 + j, none⟩ := by simp [Addr.add]
    rw [e]
    refine h _ _ ?_
    rw [← oV_drop, List.getElem?_drop] at hj
    exact hj
theorem eq_st2 (t n u m : Int) (b : Bool) (hb : b = decide (t = u ∧ n = m)) (w : World) : (execOp (fun o => match o with | .tmp 49 => .agg (sC t n) | .tmp 51 => .agg (sC u m) | _ => undef) { dst := some 52, op := .binOp .eql 24 (.tmp 49) (.tmp 51) 24, type := 4, pos := "", after := #[], guard := none }).run Try.prog w = .ok (.value (.bool b)) w := by
  subst hb
  by_cases h1 : t = u
  · by_cases h2 : n = m
    · simp [go_sem, sC, h1, h2]
    · simp [go_sem, sC, h1, h2]
  · simp [go_sem, sC, h1]
theorem wpB {o : Oper} {a : Act} {w : World} {K : Act → World → Prop} {Q : Exit → Act → World → Prop} (x : Operand) (g : Nat) {v : Value} (ho : o.op = .load 49 x)
    (hx : a.eval x = .pointer (some ⟨g, 0, none⟩)) (hrun : (loadVar 49 ⟨g, 0, none⟩).run Try.prog w = .ok v w) (hK : K (a.put o.dst v) w) : o.wp Try.prog a w K Q := by
  unfold Oper.wp execOp
  simp only [ho, hx, Instr.loadAt, Instr.sureAddr, Sem.run_bind, Sem.run_pure, Result.andThen_ok, hrun]
  exact hK
set_option maxRecDepth 100000 in
set_option maxHeartbeats 4000000 in
theorem rput_N (r : Nat) (x : Ver) (F : Hp) (w0 w : World) (H : Holds w0 ((r, .cells #[.slice none 0 0] 43) :: ([] ++ F)) w) :
    Calls Try.prog 21 #[.pointer (some ⟨r, 0, none⟩), .agg (oC x)] w fun e w' => e = .returned (.int .i64 (putM ([] : List Ver) x).1) ∧ ∃ h', IsR r (putM ([] : List Ver) x).2 h' ∧ Holds w0 (h' ++ F) w' := by
  obtain ⟨W, hW⟩ : ∃ W, W = w.alloc (.cells (oC x) 49) := ⟨_, rfl⟩
  have H0 : Holds w0 ((w.heap.size, .cells (oC x) 49) :: ((r, .cells #[.slice none 0 0] 43) :: ([] ++ F))) W := by rw [hW]; exact H.alloc _
  have HWb := Lib.hid hW
  have HX0 := Lib.hid (show W.rangeAt w.heap.size 0 (oC x).toList from range_own H0)
  have HMY := Lib.hid (may_calls x W)
  have HH := Lib.hid H0
  have hIR := Lib.hid (show IsR r [] [(r, .cells #[.slice none 0 0] 43)] from ⟨_, [], RowB.nil _ _, rfl, List.Pairwise.nil, by simp⟩)
  clear H H0 hW 
  cases hm : mayV x
  · have q : putM ([] : List Ver) x = (1, ([] : List Ver)) := if_pos (by unfold mayV at hm; rw [Bool.not_eq_false'] at hm; exact of_decide_eq_true hm)
    rw [q]
    rw [hm] at HMY
    clear hm q
    go_enter Try.func21, Try.ntmps21
    go_wp2_with (with_reducible refine ldOm (.tmp 3) w.heap.size 0 x rfl (by rw [← HWb.out]; exact HX0.out) ?_)
    rw [← HWb.out]
    refine HMY.out.mono ?_
    rintro e w1 ⟨rfl, hb⟩
    have HH1 := Lib.hid (HH.out.grow hb)
    clear hb
    go_wp2_with fail
    go_ret
    exact ⟨rfl, _, hIR.out, HH1.out.tail⟩
  have hnb : ¬ (gd x.t = false ∨ 200 < x.val.size ∨ (x.gone = true ∧ x.val.size ≠ 0)) := by unfold mayV at hm; rw [Bool.not_eq_true'] at hm; exact of_decide_eq_false hm
  rw [hm] at HMY
  have HPUT := Lib.hid (show putM ([] : List Ver) x = if found ([] : List Ver) x.t x.n then (5, ([] : List Ver)) else if 50 ≤ (([] : List Ver)).length then (6, ([] : List Ver)) else (0, lo ([] : List Ver) x.t x.n ++ x :: hi ([] : List Ver) x.t x.n) from if_neg hnb)
  clear hm hnb
  go_enter Try.func21, Try.ntmps21
  go_wp2_with (with_reducible refine ldOm (.tmp 3) w.heap.size 0 x rfl (by rw [← HWb.out]; exact HX0.out) ?_)
  rw [← HWb.out]
  refine HMY.out.mono ?_
  rintro e w1 ⟨rfl, hb⟩
  have HH1 := Lib.hid (HH.out.grow hb)
  have HX1 := Lib.hid (show w1.rangeAt w.heap.size 0 (oC x).toList from range_own HH1.out)
  clear hb HMY
  go_wp2_with (with_reducible refine ldKm (.tmp 13) w.heap.size 0 rfl (key_of HX1.out) ?_)
  refine (rchain_calls r 0 0 (none) ([] : List Ver) w1 (HH1.out.tail.cell 0) (fun h => absurd h (by simp)) ((fun j u hj => by simp [oV] at hj)) (by simp)).mono ?_
  rintro e w2 ⟨rfl, hb⟩
  have HH2 := Lib.hid (HH1.out.grow hb)
  clear hb HX1
  go_wp2_with fail
  go_loopw [7] (fun i wr => i = .int .i64 0 ∧ Below w2.heap.size w2 wr) (fun i _ => 0)
  case atStart => exact ⟨rfl, Below.refl _ _⟩
  case round =>
    obtain ⟨rfl, hB⟩ := hrel
    have HHr := Lib.hid (HH2.out.grow hB)
    clear hB
    go_wp2_with fail
    refine region_quiet_lit (C := fun w' => Below wr.heap.size wr w') (by kernel_rfl) (by kernel_rfl) (Below.refl _ _).drew ?_
    go_big_quiet_step (exact fun _ => rfl)
    go_big_quiet_step (exact fun _ => rfl)
    go_big_quiet_step (exact fun _ => rfl)
    go_big_quiet_step (exact fun _ => rfl)
    go_big_quiet_skip
    go_big_quiet_skip
    go_big_quiet_skip
    go_big_quiet_skip
    go_big_quiet_skip
    go_big_quiet_skip
    go_big_quiet_skip
    go_big_quiet_skip
    go_big_quiet_skip
    go_big_quiet_skip
    go_big_quiet_skip
    go_big_quiet_skip
    go_big_quiet_step (exact fun _ => rfl)
    refine wpQuiet_nil ?_
    intro w4 hw4
    have HHs := Lib.hid (HHr.out.grow hw4)
    clear hw4
    go_wp2_with fail
    refine region_quiet_lit (C := fun w' => Below w4.heap.size w4 w') (by kernel_rfl) (by kernel_rfl) (Below.refl _ _).drew ?_
    go_big_quiet_step (exact fun _ => rfl)
    go_big_quiet_step (exact fun _ => rfl)
    go_big_quiet_step (exact fun _ => rfl)
    go_big_quiet_step (exact fun _ => rfl)
    go_big_quiet_skip
    go_big_quiet_skip
    go_big_quiet_skip
    go_big_quiet_skip
    go_big_quiet_skip
    go_big_quiet_skip
    go_big_quiet_skip
    go_big_quiet_skip
    go_big_quiet_skip
    go_big_quiet_skip
    go_big_quiet_skip
    go_big_quiet_step (exact fun _ => rfl)
    refine wpQuiet_nil ?_
    intro w5 hw5
    have HHt := Lib.hid (HHs.out.grow hw5)
    clear hw5
    go_wp2_with fail
    have HHW := Lib.hid (show Holds w0 ((r, Obj.cells #[.slice none 0 0] 43) :: ([] ++ ((w.heap.size, .cells (oC x) 49) :: F))) w5.drew from HHt.out.drew.perm (by classical rw [List.perm_iff_count]; intro a; simp only [List.count_append, List.count_cons, List.count_nil]; omega))
    refine wp_region_own 19 (fun k => match k with | 8 => [1] | 11 => [8, 10] | 18 => [11] | 19 => [18] | _ => []) (by kernel_rfl) (by kernel_rfl) (by kernel_rfl) (by kernel_rfl) (Nat.le_of_ble_eq_true (by kernel_rfl)) w0 (fun Ls hs => hs = ((r, Obj.cells #[.slice none 0 0] 43) :: ([] ++ ((w.heap.size, .cells (oC x) 49) :: F)))) (fun i v h => match i with | 0 => v = .pointer (some ⟨r, 0, none⟩) ∧ h = [] | 1 => RowB 49 20 v 0 [] h | 2 => v = .pointer (some ⟨r, 0, none⟩) ∧ h = [] | 3 => v = .pointer (some ⟨r, 0, none⟩) ∧ h = [] | 4 => v = .pointer (some ⟨r, 0, none⟩) ∧ h = [] | 5 => v = .slice none 0 0 ∧ h = [] | 6 => v = .int .i64 0 ∧ h = [] | 7 => v = .slice none 0 0 ∧ h = [] | 8 => RowB 49 20 v 0 [] h | 9 => v = Value.agg (oC x) ∧ h = [] | 10 => ∃ g, v = .slice (some ⟨g, 0, none⟩) 1 1 ∧ h = [(g, .cells (oC x) 49)] | 11 => RowB 49 20 v (0 + 1) ([] ++ (oC x).toList) h | 12 => v = .pointer (some ⟨r, 0, none⟩) ∧ h = [] | 13 => v = .pointer (some ⟨r, 0, none⟩) ∧ h = [] | 14 => v = .pointer (some ⟨r, 0, none⟩) ∧ h = [] | 15 => v = .slice none 0 0 ∧ h = [] | 16 => v = .int .i64 0 ∧ h = [] | 17 => v = .slice none 0 0 ∧ h = [] | 18 => RowB 49 20 v (0 + 1 + 0) ([] ++ (oC x).toList ++ []) h | _ => True) (((r, Obj.cells #[.slice none 0 0] 43) :: ([] ++ ((w.heap.size, .cells (oC x) 49) :: F)))) (rfl) (HHW.out) ?_ ?_
    · intro i o hi ho Ls f Hf hs R w1 hI hL hd hH
      match i, hi with
      | 0, _ =>
        obtain rfl := Option.some.inj ho
        clear hd ho
        have hH : Holds w0 (hs ++ ([] ++ R)) w1 := hH
        subst hI
        unfold wpOp
        refine Or.inl ?_
        simp only [fill, List.take_succ_cons, List.take_zero, Act.put, List.setIfInBounds_toArray, List.set_cons_zero, List.set_cons_succ]
        unfold Oper.wp
        go_simp
        exact OwnBy.mk _ _ _ rfl (rfl) (⟨rfl, rfl⟩) (hH)
      | 1, _ =>
        obtain rfl := Option.some.inj ho
        clear hd ho
        have hH : Holds w0 (hs ++ ([] ++ R)) w1 := hH
        subst hI
        unfold wpOp
        refine Or.inl ?_
        simp only [fill, List.take_succ_cons, List.take_zero, Act.put, List.setIfInBounds_toArray, List.set_cons_zero, List.set_cons_succ]
        unfold Oper.wp
        go_simp
        exact OwnBy.mk _ [(w1.heap.size, .cells #[] 49)] _ rfl rfl (RowB.lit hH #[] 0 (by decide) rfl) ((hH.alloc (.cells #[] 49)).perm (by classical rw [List.perm_iff_count]; intro a; simp only [List.count_append, List.count_cons, List.count_nil]; omega))
      | 2, _ =>
        obtain rfl := Option.some.inj ho
        clear hd ho
        have hH : Holds w0 (hs ++ ([] ++ R)) w1 := hH
        subst hI
        unfold wpOp
        refine Or.inl ?_
        simp only [fill, List.take_succ_cons, List.take_zero, Act.put, List.setIfInBounds_toArray, List.set_cons_zero, List.set_cons_succ]
        unfold Oper.wp
        go_simp
        exact OwnBy.mk _ _ _ rfl (rfl) (⟨rfl, rfl⟩) (hH)
      | 3, _ =>
        obtain rfl := Option.some.inj ho
        have e2 : f 2 = .pointer (some ⟨r, 0, none⟩) := (hd ⟨2, .data⟩ (by simp) rfl).2.1
        clear hd ho
        have hH : Holds w0 (hs ++ ([] ++ R)) w1 := hH
        subst hI
        unfold wpOp
        refine Or.inl ?_
        simp only [fill, List.take_succ_cons, List.take_zero, Act.put, List.setIfInBounds_toArray, List.set_cons_zero, List.set_cons_succ, e2]
        unfold Oper.wp
        go_simp
        exact OwnBy.mk _ _ _ rfl (rfl) (⟨rfl, rfl⟩) (hH)
      | 4, _ =>
        obtain rfl := Option.some.inj ho
        have e3 : f 3 = .pointer (some ⟨r, 0, none⟩) := (hd ⟨3, .data⟩ (by simp) rfl).2.1
        clear hd ho
        have hH : Holds w0 (hs ++ ([] ++ R)) w1 := hH
        subst hI
        unfold wpOp
        refine Or.inl ?_
        simp only [fill, List.take_succ_cons, List.take_zero, Act.put, List.setIfInBounds_toArray, List.set_cons_zero, List.set_cons_succ, e3]
        unfold Oper.wp
        go_simp
        exact OwnBy.mk _ _ _ rfl (rfl) (⟨rfl, rfl⟩) (hH)
      | 5, _ =>
        obtain rfl := Option.some.inj ho
        have e4 : f 4 = .pointer (some ⟨r, 0, none⟩) := (hd ⟨4, .data⟩ (by simp) rfl).2.1
        clear hd ho
        have hH : Holds w0 (hs ++ ([] ++ R)) w1 := hH
        subst hI
        unfold wpOp
        refine Or.inl ?_
        simp only [fill, List.take_succ_cons, List.take_zero, Act.put, List.setIfInBounds_toArray, List.set_cons_zero, List.set_cons_succ, e4]
        unfold Oper.wp
        have q := (show Holds w0 ((r, Obj.cells #[.slice none 0 0] 43) :: _) w1 from hH).cell 0
        go_simp
        exact OwnBy.mk _ _ _ rfl (rfl) (⟨rfl, rfl⟩) (hH)
      | 6, _ =>
        obtain rfl := Option.some.inj ho
        clear hd ho
        have hH : Holds w0 (hs ++ ([] ++ R)) w1 := hH
        subst hI
        unfold wpOp
        refine Or.inl ?_
        simp only [fill, List.take_succ_cons, List.take_zero, Act.put, List.setIfInBounds_toArray, List.set_cons_zero, List.set_cons_succ]
        unfold Oper.wp
        go_simp
        exact OwnBy.mk _ _ _ rfl (rfl) (⟨rfl, rfl⟩) (hH)
      | 7, _ =>
        obtain rfl := Option.some.inj ho
        have e5 : f 5 = .slice none 0 0 := (hd ⟨5, .data⟩ (by simp) rfl).2.1
        have e6 : f 6 = .int .i64 0 := (hd ⟨6, .data⟩ (by simp) rfl).2.1
        clear hd ho
        have hH : Holds w0 (hs ++ ([] ++ R)) w1 := hH
        subst hI
        unfold wpOp
        refine Or.inl ?_
        simp only [fill, List.take_succ_cons, List.take_zero, Act.put, List.setIfInBounds_toArray, List.set_cons_zero, List.set_cons_succ, e5, e6]
        unfold Oper.wp
        go_simp
        exact OwnBy.mk _ _ _ rfl (rfl) (⟨rfl, rfl⟩) (hH)
      | 8, _ =>
        obtain rfl := Option.some.inj ho
        have e1 := (hd ⟨1, .data⟩ (by simp) rfl).2
        have e7 : f 7 = .slice none 0 0 := (hd ⟨7, .data⟩ (by simp) rfl).2.1
        clear hd ho
        have hH : Holds w0 (hs ++ ((Hf 1 ++ ([])) ++ R)) w1 := hH
        simp only [List.append_nil, List.append_assoc] at hH
        subst hI
        unfold wpOp
        refine Or.inl ?_
        simp only [fill, List.take_succ_cons, List.take_zero, Act.put, List.setIfInBounds_toArray, List.set_cons_zero, List.set_cons_succ, e7]
        unfold Oper.wp
        obtain ⟨v8, h8, w8, r1, r2, r3⟩ := app_o e1 (hH.perm (k := Hf 1 ++ (((r, Obj.cells #[.slice none 0 0] 43) :: ([] ++ ((w.heap.size, .cells (oC x) 49) :: F))) ++ R)) (by classical rw [List.perm_iff_count]; intro a; simp only [List.count_append, List.count_cons, List.count_nil]; omega)) (none) 0 0 (fun _ => rfl) [] ⟨rfl, (fun _ => rfl), (fun ad h => by cases h)⟩ (by simp) (by omega)
        simp only [Nat.zero_add, List.nil_append] at r2
        refine wpA (.tmp 59) (.tmp 65) rfl rfl rfl r1 ?_
        exact OwnBy.mk _ h8 _ rfl rfl r2 (r3.perm (by classical rw [List.perm_iff_count]; intro a; simp only [List.count_append, List.count_cons, List.count_nil]; omega))
      | 9, _ =>
        obtain rfl := Option.some.inj ho
        clear hd ho
        have hH : Holds w0 (hs ++ ([] ++ R)) w1 := hH
        subst hI
        unfold wpOp
        refine Or.inl ?_
        simp only [fill, List.take_succ_cons, List.take_zero, Act.put, List.setIfInBounds_toArray, List.set_cons_zero, List.set_cons_succ]
        unfold Oper.wp
        have q := run_loadVar_mid (P := Try.prog) w1 w.heap.size 0 49 (oC x).toList _ (range_own (hH.perm (k := (w.heap.size, .cells (oC x) 49) :: ((r, Obj.cells #[.slice none 0 0] 43) :: ([] ++ F) ++ R)) (by classical rw [List.perm_iff_count]; intro a; simp only [List.count_append, List.count_cons, List.count_nil]; omega))) Try.underlying49 rfl (by kernel_rfl)
        refine wpB (.tmp 3) w.heap.size rfl rfl q ?_
        exact OwnBy.mk _ _ _ rfl (rfl) (⟨rfl, rfl⟩) (hH)
      | 10, _ =>
        obtain rfl := Option.some.inj ho
        have e9 : f 9 = Value.agg (oC x) := (hd ⟨9, .data⟩ (by simp) rfl).2.1
        clear hd ho
        have hH : Holds w0 (hs ++ ([] ++ R)) w1 := hH
        subst hI
        unfold wpOp
        refine Or.inl ?_
        simp only [fill, List.take_succ_cons, List.take_zero, Act.put, List.setIfInBounds_toArray, List.set_cons_zero, List.set_cons_succ, e9]
        unfold Oper.wp
        have hH3 : Holds w0 (((r, Obj.cells #[.slice none 0 0] 43) :: ([] ++ ((w.heap.size, .cells (oC x) 49) :: F))) ++ ([(w1.heap.size, .cells (oC x) 49)] ++ R)) (w1.alloc (.cells (oC x) 49)) := (hH.alloc (.cells (oC x) 49)).perm (by classical rw [List.perm_iff_count]; intro a; simp only [List.count_append, List.count_cons, List.count_nil]; omega)
        rw [show oC x = #[.int .u8 0, .int .u8 0, .int .u8 0, .int .u8 0, .int .u8 0, .int .u8 0, .int .u8 0, .int .u8 0, .int .u8 0, .int .u8 0, .int .u8 0, .int .u8 0, .int .u8 0, .int .u8 0, .int .u8 0, .int .u8 0, .int .i64 x.t, .int .u8 x.n, .string x.val, .bool x.gone] from rfl]
        go_simp
        exact OwnBy.mk _ [(w1.heap.size, .cells (oC x) 49)] _ rfl rfl ⟨w1.heap.size, rfl, rfl⟩ hH3
      | 11, _ =>
        obtain rfl := Option.some.inj ho
        have e8 := (hd ⟨8, .data⟩ (by simp) rfl).2
        have e10 := (hd ⟨10, .data⟩ (by simp) rfl).2
        obtain ⟨g10, e10, q10⟩ := e10
        clear hd ho
        have hH : Holds w0 (hs ++ ((Hf 8 ++ (Hf 10 ++ ([]))) ++ R)) w1 := hH
        simp only [q10, List.append_nil, List.append_assoc] at hH
        subst hI
        unfold wpOp
        refine Or.inl ?_
        simp only [fill, List.take_succ_cons, List.take_zero, Act.put, List.setIfInBounds_toArray, List.set_cons_zero, List.set_cons_succ, e10]
        unfold Oper.wp
        have hH2 : Holds w0 ((g10, .cells (oC x) 49) :: (Hf 8 ++ (((r, Obj.cells #[.slice none 0 0] 43) :: ([] ++ ((w.heap.size, .cells (oC x) 49) :: F))) ++ R))) w1 := hH.perm (by classical rw [List.perm_iff_count]; intro a; simp only [List.count_append, List.count_cons, List.count_nil]; omega)
        obtain ⟨v8, h8, w8, r1, r2, r3⟩ := app_o e8 (hH2.perm (k := Hf 8 ++ ((g10, .cells (oC x) 49) :: (((r, Obj.cells #[.slice none 0 0] 43) :: ([] ++ ((w.heap.size, .cells (oC x) 49) :: F))) ++ R))) (by classical rw [List.perm_iff_count]; intro a; simp only [List.count_append, List.count_cons, List.count_nil]; omega)) (some ⟨g10, 0, none⟩) 1 1 (fun h => by cases h) (oC x).toList (reads_o hH2) (by simp [oC, Value.oneCell']) (by omega)
        refine wpA (.tmp 66) (.tmp 68) rfl rfl rfl r1 ?_
        exact OwnBy.mk _ h8 _ rfl rfl r2 ((r3.perm (k := (g10, .cells (oC x) 49) :: (((r, Obj.cells #[.slice none 0 0] 43) :: ([] ++ ((w.heap.size, .cells (oC x) 49) :: F))) ++ (h8 ++ R))) (by classical rw [List.perm_iff_count]; intro a; simp only [List.count_append, List.count_cons, List.count_nil]; omega)).tail)
      | 12, _ =>
        obtain rfl := Option.some.inj ho
        clear hd ho
        have hH : Holds w0 (hs ++ ([] ++ R)) w1 := hH
        subst hI
        unfold wpOp
        refine Or.inl ?_
        simp only [fill, List.take_succ_cons, List.take_zero, Act.put, List.setIfInBounds_toArray, List.set_cons_zero, List.set_cons_succ]
        unfold Oper.wp
        go_simp
        exact OwnBy.mk _ _ _ rfl (rfl) (⟨rfl, rfl⟩) (hH)
      | 13, _ =>
        obtain rfl := Option.some.inj ho
        have e12 : f 12 = .pointer (some ⟨r, 0, none⟩) := (hd ⟨12, .data⟩ (by simp) rfl).2.1
        clear hd ho
        have hH : Holds w0 (hs ++ ([] ++ R)) w1 := hH
        subst hI
        unfold wpOp
        refine Or.inl ?_
        simp only [fill, List.take_succ_cons, List.take_zero, Act.put, List.setIfInBounds_toArray, List.set_cons_zero, List.set_cons_succ, e12]
        unfold Oper.wp
        go_simp
        exact OwnBy.mk _ _ _ rfl (rfl) (⟨rfl, rfl⟩) (hH)
      | 14, _ =>
        obtain rfl := Option.some.inj ho
        have e13 : f 13 = .pointer (some ⟨r, 0, none⟩) := (hd ⟨13, .data⟩ (by simp) rfl).2.1
        clear hd ho
        have hH : Holds w0 (hs ++ ([] ++ R)) w1 := hH
        subst hI
        unfold wpOp
        refine Or.inl ?_
        simp only [fill, List.take_succ_cons, List.take_zero, Act.put, List.setIfInBounds_toArray, List.set_cons_zero, List.set_cons_succ, e13]
        unfold Oper.wp
        go_simp
        exact OwnBy.mk _ _ _ rfl (rfl) (⟨rfl, rfl⟩) (hH)
      | 15, _ =>
        obtain rfl := Option.some.inj ho
        have e14 : f 14 = .pointer (some ⟨r, 0, none⟩) := (hd ⟨14, .data⟩ (by simp) rfl).2.1
        clear hd ho
        have hH : Holds w0 (hs ++ ([] ++ R)) w1 := hH
        subst hI
        unfold wpOp
        refine Or.inl ?_
        simp only [fill, List.take_succ_cons, List.take_zero, Act.put, List.setIfInBounds_toArray, List.set_cons_zero, List.set_cons_succ, e14]
        unfold Oper.wp
        have q := (show Holds w0 ((r, Obj.cells #[.slice none 0 0] 43) :: _) w1 from hH).cell 0
        go_simp
        exact OwnBy.mk _ _ _ rfl (rfl) (⟨rfl, rfl⟩) (hH)
      | 16, _ =>
        obtain rfl := Option.some.inj ho
        clear hd ho
        have hH : Holds w0 (hs ++ ([] ++ R)) w1 := hH
        subst hI
        unfold wpOp
        refine Or.inl ?_
        simp only [fill, List.take_succ_cons, List.take_zero, Act.put, List.setIfInBounds_toArray, List.set_cons_zero, List.set_cons_succ]
        unfold Oper.wp
        go_simp
        exact OwnBy.mk _ _ _ rfl (rfl) (⟨rfl, rfl⟩) (hH)
      | 17, _ =>
        obtain rfl := Option.some.inj ho
        have e15 : f 15 = .slice none 0 0 := (hd ⟨15, .data⟩ (by simp) rfl).2.1
        have e16 : f 16 = .int .i64 0 := (hd ⟨16, .data⟩ (by simp) rfl).2.1
        clear hd ho
        have hH : Holds w0 (hs ++ ([] ++ R)) w1 := hH
        subst hI
        unfold wpOp
        refine Or.inl ?_
        simp only [fill, List.take_succ_cons, List.take_zero, Act.put, List.setIfInBounds_toArray, List.set_cons_zero, List.set_cons_succ, e15, e16]
        unfold Oper.wp
        go_simp
        exact OwnBy.mk _ _ _ rfl (rfl) (⟨rfl, rfl⟩) (hH)
      | 18, _ =>
        obtain rfl := Option.some.inj ho
        have e11 := (hd ⟨11, .data⟩ (by simp) rfl).2
        have e17 : f 17 = .slice none 0 0 := (hd ⟨17, .data⟩ (by simp) rfl).2.1
        clear hd ho
        have hH : Holds w0 (hs ++ ((Hf 11 ++ ([])) ++ R)) w1 := hH
        simp only [List.append_nil, List.append_assoc] at hH
        subst hI
        unfold wpOp
        refine Or.inl ?_
        simp only [fill, List.take_succ_cons, List.take_zero, Act.put, List.setIfInBounds_toArray, List.set_cons_zero, List.set_cons_succ, e17]
        unfold Oper.wp
        obtain ⟨v8, h8, w8, r1, r2, r3⟩ := app_o e11 (hH.perm (k := Hf 11 ++ (((r, Obj.cells #[.slice none 0 0] 43) :: ([] ++ ((w.heap.size, .cells (oC x) 49) :: F))) ++ R)) (by classical rw [List.perm_iff_count]; intro a; simp only [List.count_append, List.count_cons, List.count_nil]; omega)) none 0 0 (fun _ => rfl) [] ⟨rfl, (fun _ => rfl), (fun ad h => by cases h)⟩ (by simp) (by omega)
        refine wpA (.tmp 69) (.tmp 75) rfl rfl rfl r1 ?_
        exact OwnBy.mk _ h8 _ rfl rfl r2 (r3.perm (by classical rw [List.perm_iff_count]; intro a; simp only [List.count_append, List.count_cons, List.count_nil]; omega))
      | _ + 19, h19 => exact absurd h19 (by omega)
    · intro Ls f Hf hs w1 hI hL hV hH
      have e0 : f 0 = .pointer (some ⟨r, 0, none⟩) := (hV 0 (by decide)).1
      have e1 := hV 1 (by decide)
      have e2 : f 2 = .pointer (some ⟨r, 0, none⟩) := (hV 2 (by decide)).1
      have e3 : f 3 = .pointer (some ⟨r, 0, none⟩) := (hV 3 (by decide)).1
      have e4 : f 4 = .pointer (some ⟨r, 0, none⟩) := (hV 4 (by decide)).1
      have e5 : f 5 = .slice none 0 0 := (hV 5 (by decide)).1
      have e6 : f 6 = .int .i64 0 := (hV 6 (by decide)).1
      have e7 : f 7 = .slice none 0 0 := (hV 7 (by decide)).1
      have e8 := hV 8 (by decide)
      have e9 : f 9 = Value.agg (oC x) := (hV 9 (by decide)).1
      have e10 := hV 10 (by decide)
      obtain ⟨g10, e10, q10⟩ := e10
      have e11 := hV 11 (by decide)
      have e12 : f 12 = .pointer (some ⟨r, 0, none⟩) := (hV 12 (by decide)).1
      have e13 : f 13 = .pointer (some ⟨r, 0, none⟩) := (hV 13 (by decide)).1
      have e14 : f 14 = .pointer (some ⟨r, 0, none⟩) := (hV 14 (by decide)).1
      have e15 : f 15 = .slice none 0 0 := (hV 15 (by decide)).1
      have e16 : f 16 = .int .i64 0 := (hV 16 (by decide)).1
      have e17 : f 17 = .slice none 0 0 := (hV 17 (by decide)).1
      have e18 := hV 18 (by decide)
      clear hV
      have hH : Holds w0 (hs ++ (Hf 18 ++ [])) w1 := hH
      simp only [List.append_nil, List.append_assoc] at hH
      simp only [fill, List.take_succ_cons, List.take_zero, List.drop_succ_cons, List.drop_zero, Act.put, List.setIfInBounds_toArray, List.set_cons_zero, List.set_cons_succ, e0, e2, e3, e4, e5, e6, e7, e9, e10, e12, e13, e14, e15, e16, e17]
      subst hI
      obtain ⟨n8, hn8⟩ : ∃ n, n = (0 + 1 + 0) := ⟨_, rfl⟩
      rw [← hn8] at e18
      have HN8 := Lib.hid hn8
      clear hn8
      obtain ⟨A8, c8, hv8, _, _⟩ := RowB.form e18
      rw [hv8] at e18 ⊢
      have H9 : Holds w0 ((r, .cells #[.slice none 0 0] 43) :: (Hf 18 ++ ((w.heap.size, .cells (oC x) 49) :: ([] ++ F)))) w1 := hH.perm (by classical rw [List.perm_iff_count]; intro a; simp only [List.count_append, List.count_cons, List.count_nil]; omega)
      have q2 : w1.cell? ⟨r, 0, none⟩ = some (.slice none 0 0) := H9.cell 0
      have q3 : w1.frozen? ⟨r, 0, none⟩ = false := H9.froz 0
      have HNN := Lib.hid (show Holds w0 ((r, .cells #[.slice A8 n8 c8] 43) :: (Hf 18 ++ ((w.heap.size, .cells (oC x) 49) :: ([] ++ F)))) _ from H9.set 0 (.slice A8 n8 c8))
      have HR8 := Lib.hid e18
      clear hL hH H9 hv8
      have hpu := Lib.hid (show putM [] x = (0, [x]) by rw [HPUT.out]; rfl)
      go_wp2_with fail
      go_ret
      exact ⟨by rw [hpu.out] <;> rfl, _, by rw [hpu.out]; exact ⟨_, Hf 18, by have h8 := HR8.out; have e8 := HN8.out; simp only [Nat.zero_add, Nat.add_zero] at e8; clear HN8; subst e8; simpa [oV] using h8, rfl, List.pairwise_singleton _ _, by simp⟩, (HNN.out.perm (k := (w.heap.size, .cells (oC x) 49) :: ((r, .cells #[.slice A8 n8 c8] 43) :: Hf 18 ++ F)) (by classical rw [List.perm_iff_count]; intro a; simp only [List.count_append, List.count_cons, List.count_nil]; omega)).tail⟩
set_option maxRecDepth 100000 in
set_option maxHeartbeats 4000000 in
theorem rput_S (r : Nat) (L : List Ver) (b c : Nat) (hr : Hp) (x : Ver) (F : Hp) (w0 w : World) (R : RowB 49 20 (.slice (some ⟨b, 0, none⟩) L.length c) L.length (oV L) hr) (hri : Rise L) (hl : L.length ≤ 50) (hlc : L.length ≤ c) (hro : ∀ w0 F w, Holds w0 (hr ++ F) w → Ro b L w) (H : Holds w0 ((r, .cells #[.slice (some ⟨b, 0, none⟩) L.length c] 43) :: (hr ++ F)) w) :
    Calls Try.prog 21 #[.pointer (some ⟨r, 0, none⟩), .agg (oC x)] w fun e w' => e = .returned (.int .i64 (putM L x).1) ∧ ∃ h', IsR r (putM L x).2 h' ∧ Holds w0 (h' ++ F) w' := by
  obtain ⟨W, hW⟩ : ∃ W, W = w.alloc (.cells (oC x) 49) := ⟨_, rfl⟩
  have H0 : Holds w0 ((w.heap.size, .cells (oC x) 49) :: ((r, .cells #[.slice (some ⟨b, 0, none⟩) L.length c] 43) :: (hr ++ F))) W := by rw [hW]; exact H.alloc _
  have HWb := Lib.hid hW
  have HX0 := Lib.hid (show W.rangeAt w.heap.size 0 (oC x).toList from range_own H0)
  have HMY := Lib.hid (may_calls x W)
  have HH := Lib.hid H0
  have hIR := Lib.hid (show IsR r L ((r, .cells #[.slice (some ⟨b, 0, none⟩) L.length c] 43) :: hr) from ⟨_, hr, R, rfl, hri, hl⟩)
  have HRB := Lib.hid R
  have HRO := Lib.hid (fun w' (H' : Holds w0 ((w.heap.size, .cells (oC x) 49) :: ((r, .cells #[.slice (some ⟨b, 0, none⟩) L.length c] 43) :: (hr ++ F))) w') => hro w0 ((w.heap.size, .cells (oC x) 49) :: (r, .cells #[.slice (some ⟨b, 0, none⟩) L.length c] 43) :: F) w' (H'.perm (by classical rw [List.perm_iff_count]; intro a; simp only [List.count_append, List.count_cons, List.count_nil]; omega)))
  have HRI := Lib.hid hri
  obtain ⟨Pn, hP⟩ : ∃ Pn, Pn = (lo L x.t x.n).length := ⟨_, rfl⟩
  have hPl : Pn ≤ L.length := by rw [hP]; exact lo_len L x.t x.n
  have HPI := Lib.hid (fun (k : Nat) (y : Ver) (hk : L[k]? = some y) => show cs y.t y.n x.t x.n < 0 ↔ k < Pn by have := lo_iff (t := x.t) (n := x.n) hri hk; rw [← hP] at this; rw [← this]; simp [bel])
  have HFA := Lib.hid (show found L x.t x.n = match L[Pn]? with | some v => decide (cs v.t v.n x.t x.n = 0) | none => false by rw [hP]; exact found_at L x.t x.n)
  have HLO := Lib.hid (show L.take Pn = lo L x.t x.n ∧ L.drop Pn = hi L x.t x.n from by
    have h := lo_hi L x.t x.n
    rw [hP]
    exact ⟨by conv => lhs; arg 2; rw [← h]
              exact List.take_left, by conv => lhs; arg 2; rw [← h]
                                       exact List.drop_left⟩)
  clear H H0 hW R hri hP hro
  cases hm : mayV x
  · have q : putM L x = (1, L) := if_pos (by unfold mayV at hm; rw [Bool.not_eq_false'] at hm; exact of_decide_eq_true hm)
    rw [q]
    rw [hm] at HMY
    clear hm q
    go_enter Try.func21, Try.ntmps21
    go_wp2_with (with_reducible refine ldOm (.tmp 3) w.heap.size 0 x rfl (by rw [← HWb.out]; exact HX0.out) ?_)
    rw [← HWb.out]
    refine HMY.out.mono ?_
    rintro e w1 ⟨rfl, hb⟩
    have HH1 := Lib.hid (HH.out.grow hb)
    clear hb
    go_wp2_with fail
    go_ret
    exact ⟨rfl, _, hIR.out, HH1.out.tail⟩
  have hnb : ¬ (gd x.t = false ∨ 200 < x.val.size ∨ (x.gone = true ∧ x.val.size ≠ 0)) := by unfold mayV at hm; rw [Bool.not_eq_true'] at hm; exact of_decide_eq_false hm
  rw [hm] at HMY
  have HPUT := Lib.hid (show putM L x = if found L x.t x.n then (5, L) else if 50 ≤ (L).length then (6, L) else (0, lo L x.t x.n ++ x :: hi L x.t x.n) from if_neg hnb)
  clear hm hnb
  go_enter Try.func21, Try.ntmps21
  go_wp2_with (with_reducible refine ldOm (.tmp 3) w.heap.size 0 x rfl (by rw [← HWb.out]; exact HX0.out) ?_)
  rw [← HWb.out]
  refine HMY.out.mono ?_
  rintro e w1 ⟨rfl, hb⟩
  have HH1 := Lib.hid (HH.out.grow hb)
  have HX1 := Lib.hid (show w1.rangeAt w.heap.size 0 (oC x).toList from range_own HH1.out)
  clear hb HMY
  go_wp2_with (with_reducible refine ldKm (.tmp 13) w.heap.size 0 rfl (key_of HX1.out) ?_)
  refine (rchain_calls r b c (some ⟨b, 0, none⟩) L w1 (HH1.out.tail.cell 0) (fun _ => rfl) (HRO.out w1 HH1.out) (by omega)).mono ?_
  rintro e w2 ⟨rfl, hb⟩
  have HH2 := Lib.hid (HH1.out.grow hb)
  clear hb HX1
  go_wp2_with fail
  go_loopw [7] (fun i wr => ∃ k : Nat, k ≤ Pn ∧ i = .int .i64 k ∧ Below w2.heap.size w2 wr) (fun i _ => Pn - (intOf i).toNat)
  case atStart => exact ⟨0, by omega, rfl, Below.refl _ _⟩
  case round =>
    obtain ⟨k, hk, rfl, hB⟩ := hrel
    have HBr := Lib.hid hB
    have HHr := Lib.hid (HH2.out.grow hB)
    clear hB
    by_cases hkL : k < L.length
    · obtain ⟨y, hy⟩ : ∃ y, L[k]? = some y := ⟨_, List.getElem?_eq_getElem hkL⟩
      have hpi := HPI.out k y hy
      have HYY := Lib.hid hy
      have HC := Lib.hid (fun w' (hb : Below wr.heap.size wr w') => (HHr.out.grow hb).tail.cell 0)
      have HO := Lib.hid (fun w' (hb : Below wr.heap.size wr w') => show w'.rangeAt b (k * 20) (oC y).toList from (HRO.out w' (HHr.out.grow hb)).at_ hy)
      have HS := Lib.hid (fun w' (hb : Below wr.heap.size wr w') => range_own (HHr.out.grow hb))
      have hki : (k : Int) < (L.length : Int) := by omega
      clear hy
      by_cases hlt : cs y.t y.n x.t x.n < 0
      · have hkP : k < Pn := hpi.mp hlt
        clear hpi
        go_wp2_with fail
        refine region_quiet_lit (C := fun w' => Below wr.heap.size wr w') (by kernel_rfl) (by kernel_rfl) (Below.refl _ _).drew ?_
        go_big_quiet_step (exact fun _ => rfl)
        go_big_quiet_step (exact fun _ => rfl)
        go_big_quiet_step (exact fun _ => rfl)
        go_big_quiet_step (exact fun _ => rfl)
        go_big_quiet_step (exact fun _ => rfl)
        go_big_quiet_step (exact fun _ => rfl)
        go_big_quiet_step (exact fun _ => rfl)
        refine BigFrame.wpQuiet_want rfl (fun K hK => ?_)
        refine quiet_val (.slice (some ⟨b, 0, none⟩) L.length c) (fun w2 hw => by have q := HC.out w2 hw; simp [go_sem, q]) (hK _ ?_)
        clear hK K
        simp only [Act.put, List.setIfInBounds_toArray, List.set_cons_zero, List.set_cons_succ]
        go_big_quiet_step (exact fun _ => rfl)
        go_big_quiet_step (exact fun _ => rfl)
        go_big_quiet_step (exact fun _ => rfl)
        refine BigFrame.wpQuiet_want rfl (fun K hK => ?_)
        refine quiet_val (.agg (sC y.t y.n)) (fun w2 hw => by obtain ⟨q0, q1, _, _⟩ := stamp_of (HO.out w2 hw); simp [go_sem, q0, q1, sC]) (hK _ ?_)
        clear hK K
        simp only [Act.put, List.setIfInBounds_toArray, List.set_cons_zero, List.set_cons_succ]
        go_big_quiet_step (exact fun _ => rfl)
        refine BigFrame.wpQuiet_want rfl (fun K hK => ?_)
        refine quiet_val (.agg (sC x.t x.n)) (fun w2 hw => by obtain ⟨q0, q1, _, _⟩ := stamp_of (HS.out w2 hw); simp only [Nat.zero_add] at q0 q1; simp [go_sem, q0, q1, sC]) (hK _ ?_)
        clear hK K
        simp only [Act.put, List.setIfInBounds_toArray, List.set_cons_zero, List.set_cons_succ]
        refine BigFrame.wpQuiet_want rfl (fun K hK => ?_)
        refine quiet_call 9 #[.agg (sC y.t y.n), .agg (sC x.t x.n)] (.int .i64 (cs y.t y.n x.t x.n)) (fun w2 => by simp [go_sem]) (fun w2 hw => (rcmp_calls y.t y.n x.t x.n w2).mono fun e w3 hh => ⟨hh.1, hw.trans (hh.2.mono hw.size)⟩) (hK _ ?_)
        clear hK K
        simp only [Act.put, List.setIfInBounds_toArray, List.set_cons_zero, List.set_cons_succ]
        go_big_quiet_step (exact fun _ => rfl)
        go_big_quiet_step (exact fun _ => rfl)
        refine wpQuiet_nil ?_
        intro w4 hw4
        have HB4 := Lib.hid (HBr.out.trans (hw4.mono HBr.out.size))
        clear hw4
        go_wp2_with fail
        go_roundw
        case rel => exact ⟨k + 1, by omega, by go_num, HB4.out⟩
        case measure => simp [intOf] <;> omega
      · have hkP : k = Pn := by
          rcases Nat.lt_or_ge k Pn with h | h
          · exact absurd (hpi.mpr h) hlt
          · omega
        subst hkP
        clear hpi
        go_wp2_with fail
        refine region_quiet_lit (C := fun w' => Below wr.heap.size wr w') (by kernel_rfl) (by kernel_rfl) (Below.refl _ _).drew ?_
        go_big_quiet_step (exact fun _ => rfl)
        go_big_quiet_step (exact fun _ => rfl)
        go_big_quiet_step (exact fun _ => rfl)
        go_big_quiet_step (exact fun _ => rfl)
        go_big_quiet_step (exact fun _ => rfl)
        go_big_quiet_step (exact fun _ => rfl)
        go_big_quiet_step (exact fun _ => rfl)
        refine BigFrame.wpQuiet_want rfl (fun K hK => ?_)
        refine quiet_val (.slice (some ⟨b, 0, none⟩) L.length c) (fun w2 hw => by have q := HC.out w2 hw; simp [go_sem, q]) (hK _ ?_)
        clear hK K
        simp only [Act.put, List.setIfInBounds_toArray, List.set_cons_zero, List.set_cons_succ]
        go_big_quiet_step (exact fun _ => rfl)
        go_big_quiet_step (exact fun _ => rfl)
        go_big_quiet_step (exact fun _ => rfl)
        refine BigFrame.wpQuiet_want rfl (fun K hK => ?_)
        refine quiet_val (.agg (sC y.t y.n)) (fun w2 hw => by obtain ⟨q0, q1, _, _⟩ := stamp_of (HO.out w2 hw); simp [go_sem, q0, q1, sC]) (hK _ ?_)
        clear hK K
        simp only [Act.put, List.setIfInBounds_toArray, List.set_cons_zero, List.set_cons_succ]
        go_big_quiet_step (exact fun _ => rfl)
        refine BigFrame.wpQuiet_want rfl (fun K hK => ?_)
        refine quiet_val (.agg (sC x.t x.n)) (fun w2 hw => by obtain ⟨q0, q1, _, _⟩ := stamp_of (HS.out w2 hw); simp only [Nat.zero_add] at q0 q1; simp [go_sem, q0, q1, sC]) (hK _ ?_)
        clear hK K
        simp only [Act.put, List.setIfInBounds_toArray, List.set_cons_zero, List.set_cons_succ]
        refine BigFrame.wpQuiet_want rfl (fun K hK => ?_)
        refine quiet_call 9 #[.agg (sC y.t y.n), .agg (sC x.t x.n)] (.int .i64 (cs y.t y.n x.t x.n)) (fun w2 => by simp [go_sem]) (fun w2 hw => (rcmp_calls y.t y.n x.t x.n w2).mono fun e w3 hh => ⟨hh.1, hw.trans (hh.2.mono hw.size)⟩) (hK _ ?_)
        clear hK K
        simp only [Act.put, List.setIfInBounds_toArray, List.set_cons_zero, List.set_cons_succ]
        go_big_quiet_step (exact fun _ => rfl)
        go_big_quiet_step (exact fun _ => rfl)
        refine wpQuiet_nil ?_
        intro w4 hw4
        have HHs := Lib.hid (HHr.out.grow hw4)
        have HC4 := Lib.hid (fun w' (hb : Below w4.heap.size w4 w') => (HHs.out.grow hb).tail.cell 0)
        have HO4 := Lib.hid (fun w' (hb : Below w4.heap.size w4 w') => show w'.rangeAt b (k * 20) (oC y).toList from (HRO.out w' (HHs.out.grow hb)).at_ HYY.out)
        have HS4 := Lib.hid (fun w' (hb : Below w4.heap.size w4 w') => range_own (HHs.out.grow hb))
        clear hw4
        by_cases hf : y.t = x.t ∧ y.n = x.n
        · have HF := Lib.hid (show found L x.t x.n = true by rw [HFA.out, HYY.out]; exact decide_eq_true ((cs_eq _ _ _ _).mpr hf))
          have HE := Lib.hid (show true = decide (y.t = x.t ∧ y.n = x.n) from (decide_eq_true hf).symm)
          clear hf
          go_wp2_with fail
          refine region_quiet_lit (C := fun w' => Below w4.heap.size w4 w') (by kernel_rfl) (by kernel_rfl) (Below.refl _ _).drew ?_
          go_big_quiet_step (exact fun _ => rfl)
          go_big_quiet_step (exact fun _ => rfl)
          go_big_quiet_step (exact fun _ => rfl)
          go_big_quiet_step (exact fun _ => rfl)
          go_big_quiet_step (exact fun _ => rfl)
          go_big_quiet_step (exact fun _ => rfl)
          go_big_quiet_step (exact fun _ => rfl)
          refine BigFrame.wpQuiet_want rfl (fun K hK => ?_)
          refine quiet_val (.slice (some ⟨b, 0, none⟩) L.length c) (fun w2 hw => by have q := HC4.out w2 hw; simp [go_sem, q]) (hK _ ?_)
          clear hK K
          simp only [Act.put, List.setIfInBounds_toArray, List.set_cons_zero, List.set_cons_succ]
          go_big_quiet_step (exact fun _ => rfl)
          go_big_quiet_step (exact fun _ => rfl)
          go_big_quiet_step (exact fun _ => rfl)
          refine BigFrame.wpQuiet_want rfl (fun K hK => ?_)
          refine quiet_val (.agg (sC y.t y.n)) (fun w2 hw => by obtain ⟨q0, q1, _, _⟩ := stamp_of (HO4.out w2 hw); simp [go_sem, q0, q1, sC]) (hK _ ?_)
          clear hK K
          simp only [Act.put, List.setIfInBounds_toArray, List.set_cons_zero, List.set_cons_succ]
          go_big_quiet_step (exact fun _ => rfl)
          refine BigFrame.wpQuiet_want rfl (fun K hK => ?_)
          refine quiet_val (.agg (sC x.t x.n)) (fun w2 hw => by obtain ⟨q0, q1, _, _⟩ := stamp_of (HS4.out w2 hw); simp only [Nat.zero_add] at q0 q1; simp [go_sem, q0, q1, sC]) (hK _ ?_)
          clear hK K
          simp only [Act.put, List.setIfInBounds_toArray, List.set_cons_zero, List.set_cons_succ]
          refine BigFrame.wpQuiet_want rfl (fun K hK => ?_)
          refine quiet_val (.bool true) (fun w2 hw => eq_st2 _ _ _ _ _ HE.out w2) (hK _ ?_)
          clear hK K
          simp only [Act.put, List.setIfInBounds_toArray, List.set_cons_zero, List.set_cons_succ]
          go_big_quiet_step (exact fun _ => rfl)
          refine wpQuiet_nil ?_
          intro w5 hw5
          have HHt := Lib.hid (HHs.out.grow hw5)
          clear hw5
          go_wp2_with fail
          go_ret
          exact ⟨by rw [HPUT.out, if_pos HF.out] <;> rfl, _, by rw [HPUT.out, if_pos HF.out]; exact hIR.out, HHt.out.tail⟩
        · have HF := Lib.hid (show found L x.t x.n = false by rw [HFA.out, HYY.out]; exact decide_eq_false (fun h => hf ((cs_eq _ _ _ _).mp h)))
          have HE := Lib.hid (show false = decide (y.t = x.t ∧ y.n = x.n) from (decide_eq_false hf).symm)
          clear hf
          go_wp2_with fail
          refine region_quiet_lit (C := fun w' => Below w4.heap.size w4 w') (by kernel_rfl) (by kernel_rfl) (Below.refl _ _).drew ?_
          go_big_quiet_step (exact fun _ => rfl)
          go_big_quiet_step (exact fun _ => rfl)
          go_big_quiet_step (exact fun _ => rfl)
          go_big_quiet_step (exact fun _ => rfl)
          go_big_quiet_step (exact fun _ => rfl)
          go_big_quiet_step (exact fun _ => rfl)
          go_big_quiet_step (exact fun _ => rfl)
          refine BigFrame.wpQuiet_want rfl (fun K hK => ?_)
          refine quiet_val (.slice (some ⟨b, 0, none⟩) L.length c) (fun w2 hw => by have q := HC4.out w2 hw; simp [go_sem, q]) (hK _ ?_)
          clear hK K
          simp only [Act.put, List.setIfInBounds_toArray, List.set_cons_zero, List.set_cons_succ]
          go_big_quiet_step (exact fun _ => rfl)
          go_big_quiet_step (exact fun _ => rfl)
          go_big_quiet_step (exact fun _ => rfl)
          refine BigFrame.wpQuiet_want rfl (fun K hK => ?_)
          refine quiet_val (.agg (sC y.t y.n)) (fun w2 hw => by obtain ⟨q0, q1, _, _⟩ := stamp_of (HO4.out w2 hw); simp [go_sem, q0, q1, sC]) (hK _ ?_)
          clear hK K
          simp only [Act.put, List.setIfInBounds_toArray, List.set_cons_zero, List.set_cons_succ]
          go_big_quiet_step (exact fun _ => rfl)
          refine BigFrame.wpQuiet_want rfl (fun K hK => ?_)
          refine quiet_val (.agg (sC x.t x.n)) (fun w2 hw => by obtain ⟨q0, q1, _, _⟩ := stamp_of (HS4.out w2 hw); simp only [Nat.zero_add] at q0 q1; simp [go_sem, q0, q1, sC]) (hK _ ?_)
          clear hK K
          simp only [Act.put, List.setIfInBounds_toArray, List.set_cons_zero, List.set_cons_succ]
          refine BigFrame.wpQuiet_want rfl (fun K hK => ?_)
          refine quiet_val (.bool false) (fun w2 hw => eq_st2 _ _ _ _ _ HE.out w2) (hK _ ?_)
          clear hK K
          simp only [Act.put, List.setIfInBounds_toArray, List.set_cons_zero, List.set_cons_succ]
          go_big_quiet_step (exact fun _ => rfl)
          refine wpQuiet_nil ?_
          intro w5 hw5
          have HHt := Lib.hid (HHs.out.grow hw5)
          clear hw5
          have hf2 : found L x.t x.n ≠ true := by rw [HF.out]; decide
          by_cases h50 : (50 : Int) ≤ (L.length : Int)
          · go_wp2_with fail
            go_ret
            exact ⟨by rw [HPUT.out, if_neg hf2, if_pos (by omega)] <;> rfl, _, by rw [HPUT.out, if_neg hf2, if_pos (by omega)]; exact hIR.out, HHt.out.tail⟩
          · have HPU := Lib.hid (show putM L x = (0, lo L x.t x.n ++ x :: hi L x.t x.n) by rw [HPUT.out, if_neg hf2, if_neg (by omega)])
            have HFN := Lib.hid (show found L x.t x.n = false by cases h : found L x.t x.n; rfl; exact absurd h hf2)
            clear hf2
            go_wp2_with fail
            have HHW := Lib.hid (show Holds w0 ((r, Obj.cells #[.slice (some ⟨b, 0, none⟩) L.length c] 43) :: (hr ++ ((w.heap.size, .cells (oC x) 49) :: F))) w5.drew from HHt.out.drew.perm (by classical rw [List.perm_iff_count]; intro a; simp only [List.count_append, List.count_cons, List.count_nil]; omega))
            have HROW := Lib.hid (fun w1 {R : Hp} (hH : Holds w0 (((r, Obj.cells #[.slice (some ⟨b, 0, none⟩) L.length c] 43) :: (hr ++ ((w.heap.size, .cells (oC x) 49) :: F))) ++ R) w1) => show Ro b L w1 from HRO.out w1 ((hH.perm (k := ((w.heap.size, .cells (oC x) 49) :: ((r, .cells #[.slice (some ⟨b, 0, none⟩) L.length c] 43) :: (hr ++ F))) ++ R) (by classical rw [List.perm_iff_count]; intro a; simp only [List.count_append, List.count_cons, List.count_nil]; omega)).left))
            have hKi : (k : Int) ≤ (L.length : Int) := by omega
            have hKc : (k : Int) ≤ (c : Int) := by omega
            refine wp_region_own 19 (fun k => match k with | 8 => [1] | 11 => [8, 10] | 18 => [11] | 19 => [18] | _ => []) (by kernel_rfl) (by kernel_rfl) (by kernel_rfl) (by kernel_rfl) (Nat.le_of_ble_eq_true (by kernel_rfl)) w0 (fun Ls hs => hs = ((r, Obj.cells #[.slice (some ⟨b, 0, none⟩) L.length c] 43) :: (hr ++ ((w.heap.size, .cells (oC x) 49) :: F)))) (fun i v h => match i with | 0 => v = .pointer (some ⟨r, 0, none⟩) ∧ h = [] | 1 => RowB 49 20 v 0 [] h | 2 => v = .pointer (some ⟨r, 0, none⟩) ∧ h = [] | 3 => v = .pointer (some ⟨r, 0, none⟩) ∧ h = [] | 4 => v = .pointer (some ⟨r, 0, none⟩) ∧ h = [] | 5 => v = .slice (some ⟨b, 0, none⟩) L.length c ∧ h = [] | 6 => v = .int .i64 (k : Nat) ∧ h = [] | 7 => v = .slice (some ⟨b, 0, none⟩) k c ∧ h = [] | 8 => RowB 49 20 v k (oV (L.take k)) h | 9 => v = Value.agg (oC x) ∧ h = [] | 10 => ∃ g, v = .slice (some ⟨g, 0, none⟩) 1 1 ∧ h = [(g, .cells (oC x) 49)] | 11 => RowB 49 20 v (k + 1) ((oV (L.take k)) ++ (oC x).toList) h | 12 => v = .pointer (some ⟨r, 0, none⟩) ∧ h = [] | 13 => v = .pointer (some ⟨r, 0, none⟩) ∧ h = [] | 14 => v = .pointer (some ⟨r, 0, none⟩) ∧ h = [] | 15 => v = .slice (some ⟨b, 0, none⟩) L.length c ∧ h = [] | 16 => v = .int .i64 (k : Nat) ∧ h = [] | 17 => v = .slice (if c = k then (some ⟨b, 0, none⟩ : Option Addr) else some ⟨b, k * 20, none⟩) (L.length - k) (c - k) ∧ h = [] | 18 => RowB 49 20 v (k + 1 + (L.length - k)) ((oV (L.take k)) ++ (oC x).toList ++ (oV (L.drop k))) h | _ => True) (((r, Obj.cells #[.slice (some ⟨b, 0, none⟩) L.length c] 43) :: (hr ++ ((w.heap.size, .cells (oC x) 49) :: F)))) (rfl) (HHW.out) ?_ ?_
            · intro i o hi ho Ls f Hf hs R w1 hI hL hd hH
              match i, hi with
              | 0, _ =>
                obtain rfl := Option.some.inj ho
                clear hd ho
                have hH : Holds w0 (hs ++ ([] ++ R)) w1 := hH
                subst hI
                unfold wpOp
                refine Or.inl ?_
                simp only [fill, List.take_succ_cons, List.take_zero, Act.put, List.setIfInBounds_toArray, List.set_cons_zero, List.set_cons_succ]
                unfold Oper.wp
                go_simp
                exact OwnBy.mk _ _ _ rfl (rfl) (⟨rfl, rfl⟩) (hH)
              | 1, _ =>
                obtain rfl := Option.some.inj ho
                clear hd ho
                have hH : Holds w0 (hs ++ ([] ++ R)) w1 := hH
                subst hI
                unfold wpOp
                refine Or.inl ?_
                simp only [fill, List.take_succ_cons, List.take_zero, Act.put, List.setIfInBounds_toArray, List.set_cons_zero, List.set_cons_succ]
                unfold Oper.wp
                go_simp
                exact OwnBy.mk _ [(w1.heap.size, .cells #[] 49)] _ rfl rfl (RowB.lit hH #[] 0 (by decide) rfl) ((hH.alloc (.cells #[] 49)).perm (by classical rw [List.perm_iff_count]; intro a; simp only [List.count_append, List.count_cons, List.count_nil]; omega))
              | 2, _ =>
                obtain rfl := Option.some.inj ho
                clear hd ho
                have hH : Holds w0 (hs ++ ([] ++ R)) w1 := hH
                subst hI
                unfold wpOp
                refine Or.inl ?_
                simp only [fill, List.take_succ_cons, List.take_zero, Act.put, List.setIfInBounds_toArray, List.set_cons_zero, List.set_cons_succ]
                unfold Oper.wp
                go_simp
                exact OwnBy.mk _ _ _ rfl (rfl) (⟨rfl, rfl⟩) (hH)
              | 3, _ =>
                obtain rfl := Option.some.inj ho
                have e2 : f 2 = .pointer (some ⟨r, 0, none⟩) := (hd ⟨2, .data⟩ (by simp) rfl).2.1
                clear hd ho
                have hH : Holds w0 (hs ++ ([] ++ R)) w1 := hH
                subst hI
                unfold wpOp
                refine Or.inl ?_
                simp only [fill, List.take_succ_cons, List.take_zero, Act.put, List.setIfInBounds_toArray, List.set_cons_zero, List.set_cons_succ, e2]
                unfold Oper.wp
                go_simp
                exact OwnBy.mk _ _ _ rfl (rfl) (⟨rfl, rfl⟩) (hH)
              | 4, _ =>
                obtain rfl := Option.some.inj ho
                have e3 : f 3 = .pointer (some ⟨r, 0, none⟩) := (hd ⟨3, .data⟩ (by simp) rfl).2.1
                clear hd ho
                have hH : Holds w0 (hs ++ ([] ++ R)) w1 := hH
                subst hI
                unfold wpOp
                refine Or.inl ?_
                simp only [fill, List.take_succ_cons, List.take_zero, Act.put, List.setIfInBounds_toArray, List.set_cons_zero, List.set_cons_succ, e3]
                unfold Oper.wp
                go_simp
                exact OwnBy.mk _ _ _ rfl (rfl) (⟨rfl, rfl⟩) (hH)
              | 5, _ =>
                obtain rfl := Option.some.inj ho
                have e4 : f 4 = .pointer (some ⟨r, 0, none⟩) := (hd ⟨4, .data⟩ (by simp) rfl).2.1
                clear hd ho
                have hH : Holds w0 (hs ++ ([] ++ R)) w1 := hH
                subst hI
                unfold wpOp
                refine Or.inl ?_
                simp only [fill, List.take_succ_cons, List.take_zero, Act.put, List.setIfInBounds_toArray, List.set_cons_zero, List.set_cons_succ, e4]
                unfold Oper.wp
                have q := (show Holds w0 ((r, Obj.cells #[.slice (some ⟨b, 0, none⟩) L.length c] 43) :: _) w1 from hH).cell 0
                go_simp
                exact OwnBy.mk _ _ _ rfl (rfl) (⟨rfl, rfl⟩) (hH)
              | 6, _ =>
                obtain rfl := Option.some.inj ho
                clear hd ho
                have hH : Holds w0 (hs ++ ([] ++ R)) w1 := hH
                subst hI
                unfold wpOp
                refine Or.inl ?_
                simp only [fill, List.take_succ_cons, List.take_zero, Act.put, List.setIfInBounds_toArray, List.set_cons_zero, List.set_cons_succ]
                unfold Oper.wp
                go_simp
                exact OwnBy.mk _ _ _ rfl (rfl) (⟨rfl, rfl⟩) (hH)
              | 7, _ =>
                obtain rfl := Option.some.inj ho
                have e5 : f 5 = .slice (some ⟨b, 0, none⟩) L.length c := (hd ⟨5, .data⟩ (by simp) rfl).2.1
                have e6 : f 6 = .int .i64 (k : Nat) := (hd ⟨6, .data⟩ (by simp) rfl).2.1
                clear hd ho
                have hH : Holds w0 (hs ++ ([] ++ R)) w1 := hH
                subst hI
                unfold wpOp
                refine Or.inl ?_
                simp only [fill, List.take_succ_cons, List.take_zero, Act.put, List.setIfInBounds_toArray, List.set_cons_zero, List.set_cons_succ, e5, e6]
                unfold Oper.wp
                go_simp
                exact OwnBy.mk _ _ _ rfl (rfl) (⟨rfl, rfl⟩) (hH)
              | 8, _ =>
                obtain rfl := Option.some.inj ho
                have e1 := (hd ⟨1, .data⟩ (by simp) rfl).2
                have e7 : f 7 = .slice (some ⟨b, 0, none⟩) k c := (hd ⟨7, .data⟩ (by simp) rfl).2.1
                clear hd ho
                have hH : Holds w0 (hs ++ ((Hf 1 ++ ([])) ++ R)) w1 := hH
                simp only [List.append_nil, List.append_assoc] at hH
                subst hI
                unfold wpOp
                refine Or.inl ?_
                simp only [fill, List.take_succ_cons, List.take_zero, Act.put, List.setIfInBounds_toArray, List.set_cons_zero, List.set_cons_succ, e7]
                unfold Oper.wp
                obtain ⟨v8, h8, w8, r1, r2, r3⟩ := app_o e1 (hH.perm (k := Hf 1 ++ (((r, Obj.cells #[.slice (some ⟨b, 0, none⟩) L.length c] 43) :: (hr ++ ((w.heap.size, .cells (oC x) 49) :: F))) ++ R)) (by classical rw [List.perm_iff_count]; intro a; simp only [List.count_append, List.count_cons, List.count_nil]; omega)) (some ⟨b, 0, none⟩) k c (fun h => by cases h) (oV (L.take k)) (ro_take (n := 0) (c := 0) (HROW.out w1 hH) (by omega)) (o_one _) (by omega)
                simp only [Nat.zero_add, List.nil_append] at r2
                refine wpA (.tmp 59) (.tmp 65) rfl rfl rfl r1 ?_
                exact OwnBy.mk _ h8 _ rfl rfl r2 (r3.perm (by classical rw [List.perm_iff_count]; intro a; simp only [List.count_append, List.count_cons, List.count_nil]; omega))
              | 9, _ =>
                obtain rfl := Option.some.inj ho
                clear hd ho
                have hH : Holds w0 (hs ++ ([] ++ R)) w1 := hH
                subst hI
                unfold wpOp
                refine Or.inl ?_
                simp only [fill, List.take_succ_cons, List.take_zero, Act.put, List.setIfInBounds_toArray, List.set_cons_zero, List.set_cons_succ]
                unfold Oper.wp
                have q := run_loadVar_mid (P := Try.prog) w1 w.heap.size 0 49 (oC x).toList _ (range_own (hH.perm (k := (w.heap.size, .cells (oC x) 49) :: ((r, Obj.cells #[.slice (some ⟨b, 0, none⟩) L.length c] 43) :: (hr ++ F) ++ R)) (by classical rw [List.perm_iff_count]; intro a; simp only [List.count_append, List.count_cons, List.count_nil]; omega))) Try.underlying49 rfl (by kernel_rfl)
                refine wpB (.tmp 3) w.heap.size rfl rfl q ?_
                exact OwnBy.mk _ _ _ rfl (rfl) (⟨rfl, rfl⟩) (hH)
              | 10, _ =>
                obtain rfl := Option.some.inj ho
                have e9 : f 9 = Value.agg (oC x) := (hd ⟨9, .data⟩ (by simp) rfl).2.1
                clear hd ho
                have hH : Holds w0 (hs ++ ([] ++ R)) w1 := hH
                subst hI
                unfold wpOp
                refine Or.inl ?_
                simp only [fill, List.take_succ_cons, List.take_zero, Act.put, List.setIfInBounds_toArray, List.set_cons_zero, List.set_cons_succ, e9]
                unfold Oper.wp
                have hH3 : Holds w0 (((r, Obj.cells #[.slice (some ⟨b, 0, none⟩) L.length c] 43) :: (hr ++ ((w.heap.size, .cells (oC x) 49) :: F))) ++ ([(w1.heap.size, .cells (oC x) 49)] ++ R)) (w1.alloc (.cells (oC x) 49)) := (hH.alloc (.cells (oC x) 49)).perm (by classical rw [List.perm_iff_count]; intro a; simp only [List.count_append, List.count_cons, List.count_nil]; omega)
                rw [show oC x = #[.int .u8 0, .int .u8 0, .int .u8 0, .int .u8 0, .int .u8 0, .int .u8 0, .int .u8 0, .int .u8 0, .int .u8 0, .int .u8 0, .int .u8 0, .int .u8 0, .int .u8 0, .int .u8 0, .int .u8 0, .int .u8 0, .int .i64 x.t, .int .u8 x.n, .string x.val, .bool x.gone] from rfl]
                go_simp
                exact OwnBy.mk _ [(w1.heap.size, .cells (oC x) 49)] _ rfl rfl ⟨w1.heap.size, rfl, rfl⟩ hH3
              | 11, _ =>
                obtain rfl := Option.some.inj ho
                have e8 := (hd ⟨8, .data⟩ (by simp) rfl).2
                have e10 := (hd ⟨10, .data⟩ (by simp) rfl).2
                obtain ⟨g10, e10, q10⟩ := e10
                clear hd ho
                have hH : Holds w0 (hs ++ ((Hf 8 ++ (Hf 10 ++ ([]))) ++ R)) w1 := hH
                simp only [q10, List.append_nil, List.append_assoc] at hH
                subst hI
                unfold wpOp
                refine Or.inl ?_
                simp only [fill, List.take_succ_cons, List.take_zero, Act.put, List.setIfInBounds_toArray, List.set_cons_zero, List.set_cons_succ, e10]
                unfold Oper.wp
                have hH2 : Holds w0 ((g10, .cells (oC x) 49) :: (Hf 8 ++ (((r, Obj.cells #[.slice (some ⟨b, 0, none⟩) L.length c] 43) :: (hr ++ ((w.heap.size, .cells (oC x) 49) :: F))) ++ R))) w1 := hH.perm (by classical rw [List.perm_iff_count]; intro a; simp only [List.count_append, List.count_cons, List.count_nil]; omega)
                obtain ⟨v8, h8, w8, r1, r2, r3⟩ := app_o e8 (hH2.perm (k := Hf 8 ++ ((g10, .cells (oC x) 49) :: (((r, Obj.cells #[.slice (some ⟨b, 0, none⟩) L.length c] 43) :: (hr ++ ((w.heap.size, .cells (oC x) 49) :: F))) ++ R))) (by classical rw [List.perm_iff_count]; intro a; simp only [List.count_append, List.count_cons, List.count_nil]; omega)) (some ⟨g10, 0, none⟩) 1 1 (fun h => by cases h) (oC x).toList (reads_o hH2) (by simp [oC, Value.oneCell']) (by omega)
                refine wpA (.tmp 66) (.tmp 68) rfl rfl rfl r1 ?_
                exact OwnBy.mk _ h8 _ rfl rfl r2 ((r3.perm (k := (g10, .cells (oC x) 49) :: (((r, Obj.cells #[.slice (some ⟨b, 0, none⟩) L.length c] 43) :: (hr ++ ((w.heap.size, .cells (oC x) 49) :: F))) ++ (h8 ++ R))) (by classical rw [List.perm_iff_count]; intro a; simp only [List.count_append, List.count_cons, List.count_nil]; omega)).tail)
              | 12, _ =>
                obtain rfl := Option.some.inj ho
                clear hd ho
                have hH : Holds w0 (hs ++ ([] ++ R)) w1 := hH
                subst hI
                unfold wpOp
                refine Or.inl ?_
                simp only [fill, List.take_succ_cons, List.take_zero, Act.put, List.setIfInBounds_toArray, List.set_cons_zero, List.set_cons_succ]
                unfold Oper.wp
                go_simp
                exact OwnBy.mk _ _ _ rfl (rfl) (⟨rfl, rfl⟩) (hH)
              | 13, _ =>
                obtain rfl := Option.some.inj ho
                have e12 : f 12 = .pointer (some ⟨r, 0, none⟩) := (hd ⟨12, .data⟩ (by simp) rfl).2.1
                clear hd ho
                have hH : Holds w0 (hs ++ ([] ++ R)) w1 := hH
                subst hI
                unfold wpOp
                refine Or.inl ?_
                simp only [fill, List.take_succ_cons, List.take_zero, Act.put, List.setIfInBounds_toArray, List.set_cons_zero, List.set_cons_succ, e12]
                unfold Oper.wp
                go_simp
                exact OwnBy.mk _ _ _ rfl (rfl) (⟨rfl, rfl⟩) (hH)
              | 14, _ =>
                obtain rfl := Option.some.inj ho
                have e13 : f 13 = .pointer (some ⟨r, 0, none⟩) := (hd ⟨13, .data⟩ (by simp) rfl).2.1
                clear hd ho
                have hH : Holds w0 (hs ++ ([] ++ R)) w1 := hH
                subst hI
                unfold wpOp
                refine Or.inl ?_
                simp only [fill, List.take_succ_cons, List.take_zero, Act.put, List.setIfInBounds_toArray, List.set_cons_zero, List.set_cons_succ, e13]
                unfold Oper.wp
                go_simp
                exact OwnBy.mk _ _ _ rfl (rfl) (⟨rfl, rfl⟩) (hH)
              | 15, _ =>
                obtain rfl := Option.some.inj ho
                have e14 : f 14 = .pointer (some ⟨r, 0, none⟩) := (hd ⟨14, .data⟩ (by simp) rfl).2.1
                clear hd ho
                have hH : Holds w0 (hs ++ ([] ++ R)) w1 := hH
                subst hI
                unfold wpOp
                refine Or.inl ?_
                simp only [fill, List.take_succ_cons, List.take_zero, Act.put, List.setIfInBounds_toArray, List.set_cons_zero, List.set_cons_succ, e14]
                unfold Oper.wp
                have q := (show Holds w0 ((r, Obj.cells #[.slice (some ⟨b, 0, none⟩) L.length c] 43) :: _) w1 from hH).cell 0
                go_simp
                exact OwnBy.mk _ _ _ rfl (rfl) (⟨rfl, rfl⟩) (hH)
              | 16, _ =>
                obtain rfl := Option.some.inj ho
                clear hd ho
                have hH : Holds w0 (hs ++ ([] ++ R)) w1 := hH
                subst hI
                unfold wpOp
                refine Or.inl ?_
                simp only [fill, List.take_succ_cons, List.take_zero, Act.put, List.setIfInBounds_toArray, List.set_cons_zero, List.set_cons_succ]
                unfold Oper.wp
                go_simp
                exact OwnBy.mk _ _ _ rfl (rfl) (⟨rfl, rfl⟩) (hH)
              | 17, _ =>
                obtain rfl := Option.some.inj ho
                have e15 : f 15 = .slice (some ⟨b, 0, none⟩) L.length c := (hd ⟨15, .data⟩ (by simp) rfl).2.1
                have e16 : f 16 = .int .i64 (k : Nat) := (hd ⟨16, .data⟩ (by simp) rfl).2.1
                clear hd ho
                have hH : Holds w0 (hs ++ ([] ++ R)) w1 := hH
                subst hI
                unfold wpOp
                refine Or.inl ?_
                simp only [fill, List.take_succ_cons, List.take_zero, Act.put, List.setIfInBounds_toArray, List.set_cons_zero, List.set_cons_succ, e15, e16]
                unfold Oper.wp
                go_simp
                exact OwnBy.mk _ _ _ rfl (rfl) (⟨rfl, rfl⟩) (hH)
              | 18, _ =>
                obtain rfl := Option.some.inj ho
                have e11 := (hd ⟨11, .data⟩ (by simp) rfl).2
                have e17 : f 17 = .slice (if c = k then (some ⟨b, 0, none⟩ : Option Addr) else some ⟨b, k * 20, none⟩) (L.length - k) (c - k) := (hd ⟨17, .data⟩ (by simp) rfl).2.1
                clear hd ho
                have hH : Holds w0 (hs ++ ((Hf 11 ++ ([])) ++ R)) w1 := hH
                simp only [List.append_nil, List.append_assoc] at hH
                subst hI
                unfold wpOp
                refine Or.inl ?_
                simp only [fill, List.take_succ_cons, List.take_zero, Act.put, List.setIfInBounds_toArray, List.set_cons_zero, List.set_cons_succ, e17]
                unfold Oper.wp
                obtain ⟨A7, hA7, hrd7⟩ := ro_drop (HROW.out w1 hH) (k := k) (by omega) hlc
                rw [hA7]
                obtain ⟨v8, h8, w8, r1, r2, r3⟩ := app_o e11 (hH.perm (k := Hf 11 ++ (((r, Obj.cells #[.slice (some ⟨b, 0, none⟩) L.length c] 43) :: (hr ++ ((w.heap.size, .cells (oC x) 49) :: F))) ++ R)) (by classical rw [List.perm_iff_count]; intro a; simp only [List.count_append, List.count_cons, List.count_nil]; omega)) (some A7) (L.length - k) (c - k) (fun h => by cases h) (oV (L.drop k)) hrd7 (o_one _) (by omega)
                refine wpA (.tmp 69) (.tmp 75) rfl rfl rfl r1 ?_
                exact OwnBy.mk _ h8 _ rfl rfl r2 (r3.perm (by classical rw [List.perm_iff_count]; intro a; simp only [List.count_append, List.count_cons, List.count_nil]; omega))
              | _ + 19, h19 => exact absurd h19 (by omega)
            · intro Ls f Hf hs w1 hI hL hV hH
              have e0 : f 0 = .pointer (some ⟨r, 0, none⟩) := (hV 0 (by decide)).1
              have e1 := hV 1 (by decide)
              have e2 : f 2 = .pointer (some ⟨r, 0, none⟩) := (hV 2 (by decide)).1
              have e3 : f 3 = .pointer (some ⟨r, 0, none⟩) := (hV 3 (by decide)).1
              have e4 : f 4 = .pointer (some ⟨r, 0, none⟩) := (hV 4 (by decide)).1
              have e5 : f 5 = .slice (some ⟨b, 0, none⟩) L.length c := (hV 5 (by decide)).1
              have e6 : f 6 = .int .i64 (k : Nat) := (hV 6 (by decide)).1
              have e7 : f 7 = .slice (some ⟨b, 0, none⟩) k c := (hV 7 (by decide)).1
              have e8 := hV 8 (by decide)
              have e9 : f 9 = Value.agg (oC x) := (hV 9 (by decide)).1
              have e10 := hV 10 (by decide)
              obtain ⟨g10, e10, q10⟩ := e10
              have e11 := hV 11 (by decide)
              have e12 : f 12 = .pointer (some ⟨r, 0, none⟩) := (hV 12 (by decide)).1
              have e13 : f 13 = .pointer (some ⟨r, 0, none⟩) := (hV 13 (by decide)).1
              have e14 : f 14 = .pointer (some ⟨r, 0, none⟩) := (hV 14 (by decide)).1
              have e15 : f 15 = .slice (some ⟨b, 0, none⟩) L.length c := (hV 15 (by decide)).1
              have e16 : f 16 = .int .i64 (k : Nat) := (hV 16 (by decide)).1
              have e17 : f 17 = .slice (if c = k then (some ⟨b, 0, none⟩ : Option Addr) else some ⟨b, k * 20, none⟩) (L.length - k) (c - k) := (hV 17 (by decide)).1
              have e18 := hV 18 (by decide)
              clear hV
              have hH : Holds w0 (hs ++ (Hf 18 ++ [])) w1 := hH
              simp only [List.append_nil, List.append_assoc] at hH
              simp only [fill, List.take_succ_cons, List.take_zero, List.drop_succ_cons, List.drop_zero, Act.put, List.setIfInBounds_toArray, List.set_cons_zero, List.set_cons_succ, e0, e2, e3, e4, e5, e6, e7, e9, e10, e12, e13, e14, e15, e16, e17]
              subst hI
              obtain ⟨n8, hn8⟩ : ∃ n, n = (k + 1 + (L.length - k)) := ⟨_, rfl⟩
              rw [← hn8] at e18
              have HN8 := Lib.hid hn8
              clear hn8
              obtain ⟨A8, c8, hv8, _, _⟩ := RowB.form e18
              rw [hv8] at e18 ⊢
              have H9 : Holds w0 ((r, .cells #[.slice (some ⟨b, 0, none⟩) L.length c] 43) :: (Hf 18 ++ ((w.heap.size, .cells (oC x) 49) :: (hr ++ F)))) w1 := hH.perm (by classical rw [List.perm_iff_count]; intro a; simp only [List.count_append, List.count_cons, List.count_nil]; omega)
              have q2 : w1.cell? ⟨r, 0, none⟩ = some (.slice (some ⟨b, 0, none⟩) L.length c) := H9.cell 0
              have q3 : w1.frozen? ⟨r, 0, none⟩ = false := H9.froz 0
              have HNN := Lib.hid (show Holds w0 ((r, .cells #[.slice A8 n8 c8] 43) :: (Hf 18 ++ ((w.heap.size, .cells (oC x) 49) :: (hr ++ F)))) _ from H9.set 0 (.slice A8 n8 c8))
              have HR8 := Lib.hid e18
              clear hL hH H9 hv8
              have hIR2 : IsR r (lo L x.t x.n ++ x :: hi L x.t x.n) ((r, .cells #[.slice A8 n8 c8] 43) :: Hf 18) := by
                refine ⟨_, Hf 18, ?_, rfl, rise_put HRI.out HFN.out, ?_⟩
                · have h8 := HR8.out
                  rw [HLO.out.1, HLO.out.2] at h8
                  have e2 : (lo L x.t x.n ++ x :: hi L x.t x.n).length = k + 1 + (L.length - k) := by
                    have h1 := congrArg List.length HLO.out.1; have h2 := congrArg List.length HLO.out.2
                    rw [List.length_take] at h1; rw [List.length_drop] at h2
                    rw [List.length_append, List.length_cons, ← h1, ← h2]
                    omega
                  rw [e2, ← HN8.out]
                  rw [show oV (lo L x.t x.n ++ x :: hi L x.t x.n) = oV (lo L x.t x.n) ++ (oC x).toList ++ oV (hi L x.t x.n) by simp [oV]]
                  exact h8
                · have h1 := congrArg List.length (lo_hi L x.t x.n)
                  rw [List.length_append] at h1 ⊢
                  rw [List.length_cons]
                  omega
              go_wp2_with fail
              all_goals go_ret
              all_goals exact ⟨by rw [HPU.out] <;> rfl, _, by rw [HPU.out]; exact hIR2, (HNN.out.perm (k := ((w.heap.size, .cells (oC x) 49) :: hr) ++ ((r, .cells #[.slice A8 n8 c8] 43) :: Hf 18 ++ F)) (by classical rw [List.perm_iff_count]; intro a; simp only [List.count_append, List.count_cons, List.count_nil]; omega)).right⟩
    · obtain rfl : k = L.length := by omega
      have hkP : Pn = L.length := by omega
      have HC := Lib.hid (fun w' (hb : Below wr.heap.size wr w') => (HHr.out.grow hb).tail.cell 0)
      obtain rfl : Pn = L.length := hkP
      go_wp2_with fail
      refine region_quiet_lit (C := fun w' => Below wr.heap.size wr w') (by kernel_rfl) (by kernel_rfl) (Below.refl _ _).drew ?_
      go_big_quiet_step (exact fun _ => rfl)
      go_big_quiet_step (exact fun _ => rfl)
      go_big_quiet_step (exact fun _ => rfl)
      go_big_quiet_step (exact fun _ => rfl)
      go_big_quiet_skip
      go_big_quiet_skip
      go_big_quiet_skip
      go_big_quiet_skip
      go_big_quiet_skip
      go_big_quiet_skip
      go_big_quiet_skip
      go_big_quiet_skip
      go_big_quiet_skip
      go_big_quiet_skip
      go_big_quiet_skip
      go_big_quiet_skip
      go_big_quiet_step (exact fun _ => rfl)
      refine wpQuiet_nil ?_
      intro w4 hw4
      have HHs := Lib.hid (HHr.out.grow hw4)
      clear hw4
      go_wp2_with fail
      refine region_quiet_lit (C := fun w' => Below w4.heap.size w4 w') (by kernel_rfl) (by kernel_rfl) (Below.refl _ _).drew ?_
      go_big_quiet_step (exact fun _ => rfl)
      go_big_quiet_step (exact fun _ => rfl)
      go_big_quiet_step (exact fun _ => rfl)
      go_big_quiet_step (exact fun _ => rfl)
      go_big_quiet_skip
      go_big_quiet_skip
      go_big_quiet_skip
      go_big_quiet_skip
      go_big_quiet_skip
      go_big_quiet_skip
      go_big_quiet_skip
      go_big_quiet_skip
      go_big_quiet_skip
      go_big_quiet_skip
      go_big_quiet_skip
      go_big_quiet_step (exact fun _ => rfl)
      refine wpQuiet_nil ?_
      intro w5 hw5
      have HHt := Lib.hid (HHs.out.grow hw5)
      clear hw5
      have hf2 : found L x.t x.n ≠ true := by rw [HFA.out, List.getElem?_eq_none (Nat.le_refl _)]; exact Bool.false_ne_true
      by_cases h50 : (50 : Int) ≤ (L.length : Int)
      · go_wp2_with fail
        go_ret
        exact ⟨by rw [HPUT.out, if_neg hf2, if_pos (by omega)] <;> rfl, _, by rw [HPUT.out, if_neg hf2, if_pos (by omega)]; exact hIR.out, HHt.out.tail⟩
      · have HPU := Lib.hid (show putM L x = (0, lo L x.t x.n ++ x :: hi L x.t x.n) by rw [HPUT.out, if_neg hf2, if_neg (by omega)])
        have HFN := Lib.hid (show found L x.t x.n = false by cases h : found L x.t x.n; rfl; exact absurd h hf2)
        clear hf2
        go_wp2_with fail
        have HHW := Lib.hid (show Holds w0 ((r, Obj.cells #[.slice (some ⟨b, 0, none⟩) L.length c] 43) :: (hr ++ ((w.heap.size, .cells (oC x) 49) :: F))) w5.drew from HHt.out.drew.perm (by classical rw [List.perm_iff_count]; intro a; simp only [List.count_append, List.count_cons, List.count_nil]; omega))
        have HROW := Lib.hid (fun w1 {R : Hp} (hH : Holds w0 (((r, Obj.cells #[.slice (some ⟨b, 0, none⟩) L.length c] 43) :: (hr ++ ((w.heap.size, .cells (oC x) 49) :: F))) ++ R) w1) => show Ro b L w1 from HRO.out w1 ((hH.perm (k := ((w.heap.size, .cells (oC x) 49) :: ((r, .cells #[.slice (some ⟨b, 0, none⟩) L.length c] 43) :: (hr ++ F))) ++ R) (by classical rw [List.perm_iff_count]; intro a; simp only [List.count_append, List.count_cons, List.count_nil]; omega)).left))
        have hKi : ((L.length : Nat) : Int) ≤ (L.length : Int) := by omega
        have hKc : ((L.length : Nat) : Int) ≤ (c : Int) := by omega
        refine wp_region_own 19 (fun k => match k with | 8 => [1] | 11 => [8, 10] | 18 => [11] | 19 => [18] | _ => []) (by kernel_rfl) (by kernel_rfl) (by kernel_rfl) (by kernel_rfl) (Nat.le_of_ble_eq_true (by kernel_rfl)) w0 (fun Ls hs => hs = ((r, Obj.cells #[.slice (some ⟨b, 0, none⟩) L.length c] 43) :: (hr ++ ((w.heap.size, .cells (oC x) 49) :: F)))) (fun i v h => match i with | 0 => v = .pointer (some ⟨r, 0, none⟩) ∧ h = [] | 1 => RowB 49 20 v 0 [] h | 2 => v = .pointer (some ⟨r, 0, none⟩) ∧ h = [] | 3 => v = .pointer (some ⟨r, 0, none⟩) ∧ h = [] | 4 => v = .pointer (some ⟨r, 0, none⟩) ∧ h = [] | 5 => v = .slice (some ⟨b, 0, none⟩) L.length c ∧ h = [] | 6 => v = .int .i64 (L.length : Nat) ∧ h = [] | 7 => v = .slice (some ⟨b, 0, none⟩) L.length c ∧ h = [] | 8 => RowB 49 20 v L.length (oV (L.take L.length)) h | 9 => v = Value.agg (oC x) ∧ h = [] | 10 => ∃ g, v = .slice (some ⟨g, 0, none⟩) 1 1 ∧ h = [(g, .cells (oC x) 49)] | 11 => RowB 49 20 v (L.length + 1) ((oV (L.take L.length)) ++ (oC x).toList) h | 12 => v = .pointer (some ⟨r, 0, none⟩) ∧ h = [] | 13 => v = .pointer (some ⟨r, 0, none⟩) ∧ h = [] | 14 => v = .pointer (some ⟨r, 0, none⟩) ∧ h = [] | 15 => v = .slice (some ⟨b, 0, none⟩) L.length c ∧ h = [] | 16 => v = .int .i64 (L.length : Nat) ∧ h = [] | 17 => v = .slice (if c = L.length then (some ⟨b, 0, none⟩ : Option Addr) else some ⟨b, L.length * 20, none⟩) (L.length - L.length) (c - L.length) ∧ h = [] | 18 => RowB 49 20 v (L.length + 1 + (L.length - L.length)) ((oV (L.take L.length)) ++ (oC x).toList ++ (oV (L.drop L.length))) h | _ => True) (((r, Obj.cells #[.slice (some ⟨b, 0, none⟩) L.length c] 43) :: (hr ++ ((w.heap.size, .cells (oC x) 49) :: F)))) (rfl) (HHW.out) ?_ ?_
        · intro i o hi ho Ls f Hf hs R w1 hI hL hd hH
          match i, hi with
          | 0, _ =>
            obtain rfl := Option.some.inj ho
            clear hd ho
            have hH : Holds w0 (hs ++ ([] ++ R)) w1 := hH
            subst hI
            unfold wpOp
            refine Or.inl ?_
            simp only [fill, List.take_succ_cons, List.take_zero, Act.put, List.setIfInBounds_toArray, List.set_cons_zero, List.set_cons_succ]
            unfold Oper.wp
            go_simp
            exact OwnBy.mk _ _ _ rfl (rfl) (⟨rfl, rfl⟩) (hH)
          | 1, _ =>
            obtain rfl := Option.some.inj ho
            clear hd ho
            have hH : Holds w0 (hs ++ ([] ++ R)) w1 := hH
            subst hI
            unfold wpOp
            refine Or.inl ?_
            simp only [fill, List.take_succ_cons, List.take_zero, Act.put, List.setIfInBounds_toArray, List.set_cons_zero, List.set_cons_succ]
            unfold Oper.wp
            go_simp
            exact OwnBy.mk _ [(w1.heap.size, .cells #[] 49)] _ rfl rfl (RowB.lit hH #[] 0 (by decide) rfl) ((hH.alloc (.cells #[] 49)).perm (by classical rw [List.perm_iff_count]; intro a; simp only [List.count_append, List.count_cons, List.count_nil]; omega))
          | 2, _ =>
            obtain rfl := Option.some.inj ho
            clear hd ho
            have hH : Holds w0 (hs ++ ([] ++ R)) w1 := hH
            subst hI
            unfold wpOp
            refine Or.inl ?_
            simp only [fill, List.take_succ_cons, List.take_zero, Act.put, List.setIfInBounds_toArray, List.set_cons_zero, List.set_cons_succ]
            unfold Oper.wp
            go_simp
            exact OwnBy.mk _ _ _ rfl (rfl) (⟨rfl, rfl⟩) (hH)
          | 3, _ =>
            obtain rfl := Option.some.inj ho
            have e2 : f 2 = .pointer (some ⟨r, 0, none⟩) := (hd ⟨2, .data⟩ (by simp) rfl).2.1
            clear hd ho
            have hH : Holds w0 (hs ++ ([] ++ R)) w1 := hH
            subst hI
            unfold wpOp
            refine Or.inl ?_
            simp only [fill, List.take_succ_cons, List.take_zero, Act.put, List.setIfInBounds_toArray, List.set_cons_zero, List.set_cons_succ, e2]
            unfold Oper.wp
            go_simp
            exact OwnBy.mk _ _ _ rfl (rfl) (⟨rfl, rfl⟩) (hH)
          | 4, _ =>
            obtain rfl := Option.some.inj ho
            have e3 : f 3 = .pointer (some ⟨r, 0, none⟩) := (hd ⟨3, .data⟩ (by simp) rfl).2.1
            clear hd ho
            have hH : Holds w0 (hs ++ ([] ++ R)) w1 := hH
            subst hI
            unfold wpOp
            refine Or.inl ?_
            simp only [fill, List.take_succ_cons, List.take_zero, Act.put, List.setIfInBounds_toArray, List.set_cons_zero, List.set_cons_succ, e3]
            unfold Oper.wp
            go_simp
            exact OwnBy.mk _ _ _ rfl (rfl) (⟨rfl, rfl⟩) (hH)
          | 5, _ =>
            obtain rfl := Option.some.inj ho
            have e4 : f 4 = .pointer (some ⟨r, 0, none⟩) := (hd ⟨4, .data⟩ (by simp) rfl).2.1
            clear hd ho
            have hH : Holds w0 (hs ++ ([] ++ R)) w1 := hH
            subst hI
            unfold wpOp
            refine Or.inl ?_
            simp only [fill, List.take_succ_cons, List.take_zero, Act.put, List.setIfInBounds_toArray, List.set_cons_zero, List.set_cons_succ, e4]
            unfold Oper.wp
            have q := (show Holds w0 ((r, Obj.cells #[.slice (some ⟨b, 0, none⟩) L.length c] 43) :: _) w1 from hH).cell 0
            go_simp
            exact OwnBy.mk _ _ _ rfl (rfl) (⟨rfl, rfl⟩) (hH)
          | 6, _ =>
            obtain rfl := Option.some.inj ho
            clear hd ho
            have hH : Holds w0 (hs ++ ([] ++ R)) w1 := hH
            subst hI
            unfold wpOp
            refine Or.inl ?_
            simp only [fill, List.take_succ_cons, List.take_zero, Act.put, List.setIfInBounds_toArray, List.set_cons_zero, List.set_cons_succ]
            unfold Oper.wp
            go_simp
            exact OwnBy.mk _ _ _ rfl (rfl) (⟨rfl, rfl⟩) (hH)
          | 7, _ =>
            obtain rfl := Option.some.inj ho
            have e5 : f 5 = .slice (some ⟨b, 0, none⟩) L.length c := (hd ⟨5, .data⟩ (by simp) rfl).2.1
            have e6 : f 6 = .int .i64 (L.length : Nat) := (hd ⟨6, .data⟩ (by simp) rfl).2.1
            clear hd ho
            have hH : Holds w0 (hs ++ ([] ++ R)) w1 := hH
            subst hI
            unfold wpOp
            refine Or.inl ?_
            simp only [fill, List.take_succ_cons, List.take_zero, Act.put, List.setIfInBounds_toArray, List.set_cons_zero, List.set_cons_succ, e5, e6]
            unfold Oper.wp
            go_simp
            exact OwnBy.mk _ _ _ rfl (rfl) (⟨rfl, rfl⟩) (hH)
          | 8, _ =>
            obtain rfl := Option.some.inj ho
            have e1 := (hd ⟨1, .data⟩ (by simp) rfl).2
            have e7 : f 7 = .slice (some ⟨b, 0, none⟩) L.length c := (hd ⟨7, .data⟩ (by simp) rfl).2.1
            clear hd ho
            have hH : Holds w0 (hs ++ ((Hf 1 ++ ([])) ++ R)) w1 := hH
            simp only [List.append_nil, List.append_assoc] at hH
            subst hI
            unfold wpOp
            refine Or.inl ?_
            simp only [fill, List.take_succ_cons, List.take_zero, Act.put, List.setIfInBounds_toArray, List.set_cons_zero, List.set_cons_succ, e7]
            unfold Oper.wp
            obtain ⟨v8, h8, w8, r1, r2, r3⟩ := app_o e1 (hH.perm (k := Hf 1 ++ (((r, Obj.cells #[.slice (some ⟨b, 0, none⟩) L.length c] 43) :: (hr ++ ((w.heap.size, .cells (oC x) 49) :: F))) ++ R)) (by classical rw [List.perm_iff_count]; intro a; simp only [List.count_append, List.count_cons, List.count_nil]; omega)) (some ⟨b, 0, none⟩) L.length c (fun h => by cases h) (oV (L.take L.length)) (ro_take (n := 0) (c := 0) (HROW.out w1 hH) (by omega)) (o_one _) (by omega)
            simp only [Nat.zero_add, List.nil_append] at r2
            refine wpA (.tmp 59) (.tmp 65) rfl rfl rfl r1 ?_
            exact OwnBy.mk _ h8 _ rfl rfl r2 (r3.perm (by classical rw [List.perm_iff_count]; intro a; simp only [List.count_append, List.count_cons, List.count_nil]; omega))
          | 9, _ =>
            obtain rfl := Option.some.inj ho
            clear hd ho
            have hH : Holds w0 (hs ++ ([] ++ R)) w1 := hH
            subst hI
            unfold wpOp
            refine Or.inl ?_
            simp only [fill, List.take_succ_cons, List.take_zero, Act.put, List.setIfInBounds_toArray, List.set_cons_zero, List.set_cons_succ]
            unfold Oper.wp
            have q := run_loadVar_mid (P := Try.prog) w1 w.heap.size 0 49 (oC x).toList _ (range_own (hH.perm (k := (w.heap.size, .cells (oC x) 49) :: ((r, Obj.cells #[.slice (some ⟨b, 0, none⟩) L.length c] 43) :: (hr ++ F) ++ R)) (by classical rw [List.perm_iff_count]; intro a; simp only [List.count_append, List.count_cons, List.count_nil]; omega))) Try.underlying49 rfl (by kernel_rfl)
            refine wpB (.tmp 3) w.heap.size rfl rfl q ?_
            exact OwnBy.mk _ _ _ rfl (rfl) (⟨rfl, rfl⟩) (hH)
          | 10, _ =>
            obtain rfl := Option.some.inj ho
            have e9 : f 9 = Value.agg (oC x) := (hd ⟨9, .data⟩ (by simp) rfl).2.1
            clear hd ho
            have hH : Holds w0 (hs ++ ([] ++ R)) w1 := hH
            subst hI
            unfold wpOp
            refine Or.inl ?_
            simp only [fill, List.take_succ_cons, List.take_zero, Act.put, List.setIfInBounds_toArray, List.set_cons_zero, List.set_cons_succ, e9]
            unfold Oper.wp
            have hH3 : Holds w0 (((r, Obj.cells #[.slice (some ⟨b, 0, none⟩) L.length c] 43) :: (hr ++ ((w.heap.size, .cells (oC x) 49) :: F))) ++ ([(w1.heap.size, .cells (oC x) 49)] ++ R)) (w1.alloc (.cells (oC x) 49)) := (hH.alloc (.cells (oC x) 49)).perm (by classical rw [List.perm_iff_count]; intro a; simp only [List.count_append, List.count_cons, List.count_nil]; omega)
            rw [show oC x = #[.int .u8 0, .int .u8 0, .int .u8 0, .int .u8 0, .int .u8 0, .int .u8 0, .int .u8 0, .int .u8 0, .int .u8 0, .int .u8 0, .int .u8 0, .int .u8 0, .int .u8 0, .int .u8 0, .int .u8 0, .int .u8 0, .int .i64 x.t, .int .u8 x.n, .string x.val, .bool x.gone] from rfl]
            go_simp
            exact OwnBy.mk _ [(w1.heap.size, .cells (oC x) 49)] _ rfl rfl ⟨w1.heap.size, rfl, rfl⟩ hH3
          | 11, _ =>
            obtain rfl := Option.some.inj ho
            have e8 := (hd ⟨8, .data⟩ (by simp) rfl).2
            have e10 := (hd ⟨10, .data⟩ (by simp) rfl).2
            obtain ⟨g10, e10, q10⟩ := e10
            clear hd ho
            have hH : Holds w0 (hs ++ ((Hf 8 ++ (Hf 10 ++ ([]))) ++ R)) w1 := hH
            simp only [q10, List.append_nil, List.append_assoc] at hH
            subst hI
            unfold wpOp
            refine Or.inl ?_
            simp only [fill, List.take_succ_cons, List.take_zero, Act.put, List.setIfInBounds_toArray, List.set_cons_zero, List.set_cons_succ, e10]
            unfold Oper.wp
            have hH2 : Holds w0 ((g10, .cells (oC x) 49) :: (Hf 8 ++ (((r, Obj.cells #[.slice (some ⟨b, 0, none⟩) L.length c] 43) :: (hr ++ ((w.heap.size, .cells (oC x) 49) :: F))) ++ R))) w1 := hH.perm (by classical rw [List.perm_iff_count]; intro a; simp only [List.count_append, List.count_cons, List.count_nil]; omega)
            obtain ⟨v8, h8, w8, r1, r2, r3⟩ := app_o e8 (hH2.perm (k := Hf 8 ++ ((g10, .cells (oC x) 49) :: (((r, Obj.cells #[.slice (some ⟨b, 0, none⟩) L.length c] 43) :: (hr ++ ((w.heap.size, .cells (oC x) 49) :: F))) ++ R))) (by classical rw [List.perm_iff_count]; intro a; simp only [List.count_append, List.count_cons, List.count_nil]; omega)) (some ⟨g10, 0, none⟩) 1 1 (fun h => by cases h) (oC x).toList (reads_o hH2) (by simp [oC, Value.oneCell']) (by omega)
            refine wpA (.tmp 66) (.tmp 68) rfl rfl rfl r1 ?_
            exact OwnBy.mk _ h8 _ rfl rfl r2 ((r3.perm (k := (g10, .cells (oC x) 49) :: (((r, Obj.cells #[.slice (some ⟨b, 0, none⟩) L.length c] 43) :: (hr ++ ((w.heap.size, .cells (oC x) 49) :: F))) ++ (h8 ++ R))) (by classical rw [List.perm_iff_count]; intro a; simp only [List.count_append, List.count_cons, List.count_nil]; omega)).tail)
          | 12, _ =>
            obtain rfl := Option.some.inj ho
            clear hd ho
            have hH : Holds w0 (hs ++ ([] ++ R)) w1 := hH
            subst hI
            unfold wpOp
            refine Or.inl ?_
            simp only [fill, List.take_succ_cons, List.take_zero, Act.put, List.setIfInBounds_toArray, List.set_cons_zero, List.set_cons_succ]
            unfold Oper.wp
            go_simp
            exact OwnBy.mk _ _ _ rfl (rfl) (⟨rfl, rfl⟩) (hH)
          | 13, _ =>
            obtain rfl := Option.some.inj ho
            have e12 : f 12 = .pointer (some ⟨r, 0, none⟩) := (hd ⟨12, .data⟩ (by simp) rfl).2.1
            clear hd ho
            have hH : Holds w0 (hs ++ ([] ++ R)) w1 := hH
            subst hI
            unfold wpOp
            refine Or.inl ?_
            simp only [fill, List.take_succ_cons, List.take_zero, Act.put, List.setIfInBounds_toArray, List.set_cons_zero, List.set_cons_succ, e12]
            unfold Oper.wp
            go_simp
            exact OwnBy.mk _ _ _ rfl (rfl) (⟨rfl, rfl⟩) (hH)
          | 14, _ =>
            obtain rfl := Option.some.inj ho
            have e13 : f 13 = .pointer (some ⟨r, 0, none⟩) := (hd ⟨13, .data⟩ (by simp) rfl).2.1
            clear hd ho
            have hH : Holds w0 (hs ++ ([] ++ R)) w1 := hH
            subst hI
            unfold wpOp
            refine Or.inl ?_
            simp only [fill, List.take_succ_cons, List.take_zero, Act.put, List.setIfInBounds_toArray, List.set_cons_zero, List.set_cons_succ, e13]
            unfold Oper.wp
            go_simp
            exact OwnBy.mk _ _ _ rfl (rfl) (⟨rfl, rfl⟩) (hH)
          | 15, _ =>
            obtain rfl := Option.some.inj ho
            have e14 : f 14 = .pointer (some ⟨r, 0, none⟩) := (hd ⟨14, .data⟩ (by simp) rfl).2.1
            clear hd ho
            have hH : Holds w0 (hs ++ ([] ++ R)) w1 := hH
            subst hI
            unfold wpOp
            refine Or.inl ?_
            simp only [fill, List.take_succ_cons, List.take_zero, Act.put, List.setIfInBounds_toArray, List.set_cons_zero, List.set_cons_succ, e14]
            unfold Oper.wp
            have q := (show Holds w0 ((r, Obj.cells #[.slice (some ⟨b, 0, none⟩) L.length c] 43) :: _) w1 from hH).cell 0
            go_simp
            exact OwnBy.mk _ _ _ rfl (rfl) (⟨rfl, rfl⟩) (hH)
          | 16, _ =>
            obtain rfl := Option.some.inj ho
            clear hd ho
            have hH : Holds w0 (hs ++ ([] ++ R)) w1 := hH
            subst hI
            unfold wpOp
            refine Or.inl ?_
            simp only [fill, List.take_succ_cons, List.take_zero, Act.put, List.setIfInBounds_toArray, List.set_cons_zero, List.set_cons_succ]
            unfold Oper.wp
            go_simp
            exact OwnBy.mk _ _ _ rfl (rfl) (⟨rfl, rfl⟩) (hH)
          | 17, _ =>
            obtain rfl := Option.some.inj ho
            have e15 : f 15 = .slice (some ⟨b, 0, none⟩) L.length c := (hd ⟨15, .data⟩ (by simp) rfl).2.1
            have e16 : f 16 = .int .i64 (L.length : Nat) := (hd ⟨16, .data⟩ (by simp) rfl).2.1
            clear hd ho
            have hH : Holds w0 (hs ++ ([] ++ R)) w1 := hH
            subst hI
            unfold wpOp
            refine Or.inl ?_
            simp only [fill, List.take_succ_cons, List.take_zero, Act.put, List.setIfInBounds_toArray, List.set_cons_zero, List.set_cons_succ, e15, e16]
            unfold Oper.wp
            go_simp
            exact OwnBy.mk _ _ _ rfl (rfl) (⟨rfl, rfl⟩) (hH)
          | 18, _ =>
            obtain rfl := Option.some.inj ho
            have e11 := (hd ⟨11, .data⟩ (by simp) rfl).2
            have e17 : f 17 = .slice (if c = L.length then (some ⟨b, 0, none⟩ : Option Addr) else some ⟨b, L.length * 20, none⟩) (L.length - L.length) (c - L.length) := (hd ⟨17, .data⟩ (by simp) rfl).2.1
            clear hd ho
            have hH : Holds w0 (hs ++ ((Hf 11 ++ ([])) ++ R)) w1 := hH
            simp only [List.append_nil, List.append_assoc] at hH
            subst hI
            unfold wpOp
            refine Or.inl ?_
            simp only [fill, List.take_succ_cons, List.take_zero, Act.put, List.setIfInBounds_toArray, List.set_cons_zero, List.set_cons_succ, e17]
            unfold Oper.wp
            obtain ⟨A7, hA7, hrd7⟩ := ro_drop (HROW.out w1 hH) (k := L.length) (by omega) hlc
            rw [hA7]
            obtain ⟨v8, h8, w8, r1, r2, r3⟩ := app_o e11 (hH.perm (k := Hf 11 ++ (((r, Obj.cells #[.slice (some ⟨b, 0, none⟩) L.length c] 43) :: (hr ++ ((w.heap.size, .cells (oC x) 49) :: F))) ++ R)) (by classical rw [List.perm_iff_count]; intro a; simp only [List.count_append, List.count_cons, List.count_nil]; omega)) (some A7) (L.length - L.length) (c - L.length) (fun h => by cases h) (oV (L.drop L.length)) hrd7 (o_one _) (by omega)
            refine wpA (.tmp 69) (.tmp 75) rfl rfl rfl r1 ?_
            exact OwnBy.mk _ h8 _ rfl rfl r2 (r3.perm (by classical rw [List.perm_iff_count]; intro a; simp only [List.count_append, List.count_cons, List.count_nil]; omega))
          | _ + 19, h19 => exact absurd h19 (by omega)
        · intro Ls f Hf hs w1 hI hL hV hH
          have e0 : f 0 = .pointer (some ⟨r, 0, none⟩) := (hV 0 (by decide)).1
          have e1 := hV 1 (by decide)
          have e2 : f 2 = .pointer (some ⟨r, 0, none⟩) := (hV 2 (by decide)).1
          have e3 : f 3 = .pointer (some ⟨r, 0, none⟩) := (hV 3 (by decide)).1
          have e4 : f 4 = .pointer (some ⟨r, 0, none⟩) := (hV 4 (by decide)).1
          have e5 : f 5 = .slice (some ⟨b, 0, none⟩) L.length c := (hV 5 (by decide)).1
          have e6 : f 6 = .int .i64 (L.length : Nat) := (hV 6 (by decide)).1
          have e7 : f 7 = .slice (some ⟨b, 0, none⟩) L.length c := (hV 7 (by decide)).1
          have e8 := hV 8 (by decide)
          have e9 : f 9 = Value.agg (oC x) := (hV 9 (by decide)).1
          have e10 := hV 10 (by decide)
          obtain ⟨g10, e10, q10⟩ := e10
          have e11 := hV 11 (by decide)
          have e12 : f 12 = .pointer (some ⟨r, 0, none⟩) := (hV 12 (by decide)).1
          have e13 : f 13 = .pointer (some ⟨r, 0, none⟩) := (hV 13 (by decide)).1
          have e14 : f 14 = .pointer (some ⟨r, 0, none⟩) := (hV 14 (by decide)).1
          have e15 : f 15 = .slice (some ⟨b, 0, none⟩) L.length c := (hV 15 (by decide)).1
          have e16 : f 16 = .int .i64 (L.length : Nat) := (hV 16 (by decide)).1
          have e17 : f 17 = .slice (if c = L.length then (some ⟨b, 0, none⟩ : Option Addr) else some ⟨b, L.length * 20, none⟩) (L.length - L.length) (c - L.length) := (hV 17 (by decide)).1
          have e18 := hV 18 (by decide)
          clear hV
          have hH : Holds w0 (hs ++ (Hf 18 ++ [])) w1 := hH
          simp only [List.append_nil, List.append_assoc] at hH
          simp only [fill, List.take_succ_cons, List.take_zero, List.drop_succ_cons, List.drop_zero, Act.put, List.setIfInBounds_toArray, List.set_cons_zero, List.set_cons_succ, e0, e2, e3, e4, e5, e6, e7, e9, e10, e12, e13, e14, e15, e16, e17]
          subst hI
          obtain ⟨n8, hn8⟩ : ∃ n, n = (L.length + 1 + (L.length - L.length)) := ⟨_, rfl⟩
          rw [← hn8] at e18
          have HN8 := Lib.hid hn8
          clear hn8
          obtain ⟨A8, c8, hv8, _, _⟩ := RowB.form e18
          rw [hv8] at e18 ⊢
          have H9 : Holds w0 ((r, .cells #[.slice (some ⟨b, 0, none⟩) L.length c] 43) :: (Hf 18 ++ ((w.heap.size, .cells (oC x) 49) :: (hr ++ F)))) w1 := hH.perm (by classical rw [List.perm_iff_count]; intro a; simp only [List.count_append, List.count_cons, List.count_nil]; omega)
          have q2 : w1.cell? ⟨r, 0, none⟩ = some (.slice (some ⟨b, 0, none⟩) L.length c) := H9.cell 0
          have q3 : w1.frozen? ⟨r, 0, none⟩ = false := H9.froz 0
          have HNN := Lib.hid (show Holds w0 ((r, .cells #[.slice A8 n8 c8] 43) :: (Hf 18 ++ ((w.heap.size, .cells (oC x) 49) :: (hr ++ F)))) _ from H9.set 0 (.slice A8 n8 c8))
          have HR8 := Lib.hid e18
          clear hL hH H9 hv8
          have hIR2 : IsR r (lo L x.t x.n ++ x :: hi L x.t x.n) ((r, .cells #[.slice A8 n8 c8] 43) :: Hf 18) := by
            refine ⟨_, Hf 18, ?_, rfl, rise_put HRI.out HFN.out, ?_⟩
            · have h8 := HR8.out
              rw [HLO.out.1, HLO.out.2] at h8
              have e2 : (lo L x.t x.n ++ x :: hi L x.t x.n).length = L.length + 1 + (L.length - L.length) := by
                have h1 := congrArg List.length HLO.out.1; have h2 := congrArg List.length HLO.out.2
                rw [List.length_take] at h1; rw [List.length_drop] at h2
                rw [List.length_append, List.length_cons, ← h1, ← h2]
                omega
              rw [e2, ← HN8.out]
              rw [show oV (lo L x.t x.n ++ x :: hi L x.t x.n) = oV (lo L x.t x.n) ++ (oC x).toList ++ oV (hi L x.t x.n) by simp [oV]]
              exact h8
            · have h1 := congrArg List.length (lo_hi L x.t x.n)
              rw [List.length_append] at h1 ⊢
              rw [List.length_cons]
              omega
          go_wp2_with fail
          all_goals go_ret
          all_goals exact ⟨by rw [HPU.out] <;> rfl, _, by rw [HPU.out]; exact hIR2, (HNN.out.perm (k := ((w.heap.size, .cells (oC x) 49) :: hr) ++ ((r, .cells #[.slice A8 n8 c8] 43) :: Hf 18 ++ F)) (by classical rw [List.perm_iff_count]; intro a; simp only [List.count_append, List.count_cons, List.count_nil]; omega)).right⟩
theorem rput_calls (r : Nat) (L : List Ver) (x : Ver) (h F : Hp) (w0 w : World) (hI : IsR r L h) (H : Holds w0 (h ++ F) w) :
    Calls Try.prog 21 #[.pointer (some ⟨r, 0, none⟩), .agg (oC x)] w fun e w' => e = .returned (.int .i64 (putM L x).1) ∧ ∃ h', IsR r (putM L x).2 h' ∧ Holds w0 (h' ++ F) w' := by
  obtain ⟨v, hr, hR, rfl, hri, hl⟩ := hI
  rcases RowB.two hR with ⟨rfl, h0, rfl⟩ | ⟨b, c, rfl, hlc, hcs⟩
  · obtain rfl : L = [] := List.eq_nil_of_length_eq_zero h0
    exact rput_N r x F w0 w H
  · exact rput_S r L b c hr x F w0 w hR hri hl hlc (fun w0 F w H j u hj => hcs w0 F w H j u hj) H
end Go.Proofs.Ytgkigcobaimccaa
