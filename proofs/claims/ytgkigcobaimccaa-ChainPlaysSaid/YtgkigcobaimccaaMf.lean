/- A chain's Since, Newest, All, Trim: contracts for every world. Conditions: each theorem's own. -/
import Derived.Test.YtgkigcobaimccaaMe
import Derived.Lib.SliceRun
namespace Go.Proofs.Ytgkigcobaimccaa
open Go.RowKit Go.Proofs.Ytgkigcobaimccaa.Sp
set_option linter.unusedVariables false
set_option linter.unusedSimpArgs false
set_option maxRecDepth 100000 in
set_option maxHeartbeats 4000000 in
theorem since_calls (g : Nat) (l : List Ver) (t n : Int) (h F : Hp) (w0 w : World) (hI : IsC g l h) (H : Holds w0 (h ++ F) w) :
    Calls Try.prog 13 #[.pointer (some ⟨g, 0, none⟩), .agg (sC t n)] w fun e w' => e = .returned (.int .i64 ((l.length : Int) - (untilN l t n : Int))) ∧ Below w.heap.size w w' := by
  have hI0 := hI
  obtain ⟨v, hr, hR, rfl, hri, hl⟩ := hI
  have hul := until_le l t n
  have H0 := H.alloc (.cells (sC t n) 24)
  obtain ⟨W, hW⟩ : ∃ W, W = w.alloc (.cells (sC t n) 24) := ⟨_, rfl⟩
  rw [← hW] at H0
  have HB0 := Lib.hid (show Below w.heap.size w W by rw [hW]; exact (Below.refl _ w).alloc (Nat.le_refl _) _)
  have HS := Lib.hid (fun w' (hb : Below W.heap.size W w') => show w'.cell? ⟨w.heap.size, 0, none⟩ = some (.int .i64 t) ∧ w'.cell? ⟨w.heap.size, 1, none⟩ = some (.int .u8 n) from ⟨(H0.grow hb).cell 0, (H0.grow hb).cell 1⟩)
  have HC := Lib.hid (fun w' (hb : Below W.heap.size W w') => show w'.cell? ⟨g, 0, none⟩ = some v from (H0.grow hb).tail.cell 0)
  obtain ⟨U, hU⟩ : ∃ U, U = untilN l t n := ⟨_, rfl⟩
  have HK := Lib.hid (fun w' (hb : Below W.heap.size W w') => until_calls g l t n _ ((w.heap.size, .cells (sC t n) 24) :: F) w0 w' hI0 ((H0.grow hb).perm (by classical rw [List.perm_iff_count]; intro a; simp only [List.count_append, List.count_cons, List.count_nil]; omega)))
  rw [← hU] at HK hul ⊢
  have HWb := Lib.hid hW
  obtain ⟨A, c, rfl, _, _⟩ := RowB.form hR
  have hwr : IntKind.i64.wrap ((l.length : Int) - (U : Int)) = (l.length : Int) - (U : Int) := by rw [IntKind.wrap_i64]; omega
  clear hR hri H H0 hW hU hI0
  go_enter Try.func13, Try.ntmps13
  go_wp2_with fail
  rw [← HWb.out]
  refine region_quiet_lit (C := fun w' => Below W.heap.size W w') (by kernel_rfl) (by kernel_rfl) (Below.refl _ _).drew ?_
  go_big_quiet_step (exact fun _ => rfl)
  go_big_quiet_step (exact fun _ => rfl)
  go_big_quiet_step (exact fun _ => rfl)
  refine BigFrame.wpQuiet_want rfl (fun K hK => ?_)
  refine quiet_val (.slice A l.length c) (fun w2 hw => by have q := HC.out w2 hw; simp [go_sem, q]) (hK _ ?_)
  clear hK K
  simp only [Act.put, List.setIfInBounds_toArray, List.set_cons_zero, List.set_cons_succ]
  go_big_quiet_step (exact fun _ => rfl)
  go_big_quiet_step (exact fun _ => rfl)
  refine BigFrame.wpQuiet_want rfl (fun K hK => ?_)
  refine quiet_val (.agg (sC t n)) (fun w2 hw => by obtain ⟨q0, q1⟩ := HS.out w2 hw; simp [go_sem, q0, q1, sC]) (hK _ ?_)
  clear hK K
  simp only [Act.put, List.setIfInBounds_toArray, List.set_cons_zero, List.set_cons_succ]
  refine BigFrame.wpQuiet_want rfl (fun K hK => ?_)
  refine quiet_call 29 #[.pointer (some ⟨g, 0, none⟩), .agg (sC t n)] (.int .i64 U) (fun w2 => by simp [go_sem]) (fun w2 hw => (HK.out w2 hw).mono fun e w3 hh => ⟨hh.1, hw.trans (hh.2.mono hw.size)⟩) (hK _ ?_)
  clear hK K
  simp only [Act.put, List.setIfInBounds_toArray, List.set_cons_zero, List.set_cons_succ]
  go_big_quiet_step (exact fun _ => rfl)
  go_big_quiet_step (exact fun _ => rfl)
  refine wpQuiet_nil ?_
  intro w4 hw4
  have HB4 := Lib.hid (HB0.out.trans (hw4.mono HB0.out.size))
  clear hw4
  go_wp2_with fail
  go_ret
  exact ⟨rfl, HB4.out⟩
def newest (l : List Ver) : Option Ver := l[l.length - 1]?
set_option maxRecDepth 100000 in
set_option maxHeartbeats 4000000 in
theorem newest_calls (g : Nat) (l : List Ver) (h F : Hp) (w0 w : World) (hI : IsC g l h) (H : Holds w0 (h ++ F) w) :
    Calls Try.prog 24 #[.pointer (some ⟨g, 0, none⟩)] w fun e w' => e = .returned (.tuple #[.agg (vC ((newest l).getD v0)), .bool (newest l).isSome]) ∧ Below w.heap.size w w' := by
  obtain ⟨v, hr, hR, rfl, hri, hl⟩ := hI
  have H0 : Holds w0 ((w.heap.size, .cells (vC v0) 30) :: ((g, chO v) :: hr ++ F)) (w.alloc (.cells #[.int .i64 0, .int .u8 0, .string ⟨#[]⟩, .bool false] 30)) := H.alloc (.cells (vC v0) 30)
  have HB0 := Lib.hid (show Below w.heap.size w (w.alloc (.cells #[.int .i64 0, .int .u8 0, .string ⟨#[]⟩, .bool false] 30)) from (Below.refl _ w).alloc (Nat.le_refl _) _)
  have c0 : (w.alloc (.cells #[.int .i64 0, .int .u8 0, .string ⟨#[]⟩, .bool false] 30)).cell? ⟨g, 0, none⟩ = some v := H0.tail.cell 0
  have g1 : (w.alloc (.cells #[.int .i64 0, .int .u8 0, .string ⟨#[]⟩, .bool false] 30)).heap[w.heap.size]? = some (.cells (vC v0) 30 (0, 0)) := H0.get
  by_cases hl0 : l = []
  · subst hl0
    obtain ⟨A, c, rfl, _, _⟩ := RowB.form hR
    have G2 := Lib.hid (show ((w.alloc (.cells #[.int .i64 0, .int .u8 0, .string ⟨#[]⟩, .bool false] 30)).setRow w.heap.size (vC v0)).heap[w.heap.size]? = some (.cells (vC v0) 30 (0, 0)) from setRow_heap _ _ _ _ _ _ g1)
    have HB1 := Lib.hid (HB0.out.grown (row_grown _ w.heap.size (vC v0)) HB0.out.size (by rintro k hk; injection hk with hk; omega))
    simp only [List.length_nil] at c0
    rw [show newest [] = none from rfl]
    simp only [Option.getD_none, Option.isSome_none]
    clear hR hri H H0
    go_enter Try.func24, Try.ntmps24
    go_wp2_with (with_reducible refine stV (.tmp 2) (.tmp 10) w.heap.size v0 v0 rfl rfl g1 ?_)
    exact bodyPost_ret (v := .tuple #[.agg (vC v0), .bool false]) (res24 _ _ _ _ w.heap.size rfl rfl G2.out) rfl ⟨rfl, HB1.out⟩
  · have hlp : 0 < l.length := by
      cases l with
      | nil => exact absurd rfl hl0
      | cons a r => simp
    obtain ⟨m, hm⟩ : ∃ m, m = l.length - 1 := ⟨_, rfl⟩
    obtain ⟨y, hy⟩ : ∃ y, l[m]? = some y := ⟨_, List.getElem?_eq_getElem (by omega)⟩
    have hnw : newest l = some y := by unfold newest; rw [← hm]; exact hy
    rw [hnw]
    simp only [Option.getD_some, Option.isSome_some]
    obtain ⟨gL, c, rfl, hlc, hcs⟩ := ver_at hR m y hy
    have hmm : (l.length : Int) - 1 = (m : Int) := by omega
    have hml : m < l.length := by omega
    have hml' : (m : Int) < (l.length : Int) := by omega
    have hl0' : ¬ (l.length : Int) = 0 := by omega
    have HWR := Lib.hid (show IntKind.i64.wrap (m : Int) = (m : Int) by rw [IntKind.wrap_i64]; omega)
    obtain ⟨W, hW⟩ : ∃ W, W = (w.alloc (.cells #[.int .i64 0, .int .u8 0, .string ⟨#[]⟩, .bool false] 30)).drew := ⟨_, rfl⟩
    have h1 := H0.drew
    rw [← hW] at h1
    have HG := Lib.hid (fun w' (hb : Below W.heap.size W w') => show w'.heap[w.heap.size]? = some (.cells (vC v0) 30 (0, 0)) from (h1.grow hb).get)
    have HC := Lib.hid (fun w' (hb : Below W.heap.size W w') => show w'.cell? ⟨g, 0, none⟩ = some (.slice (some ⟨gL, 0, none⟩) l.length c) from (h1.grow hb).tail.cell 0)
    have HX := Lib.hid (fun w' (hb : Below W.heap.size W w') => hcs w0 ((w.heap.size, .cells (vC v0) 30) :: (g, chO (.slice (some ⟨gL, 0, none⟩) l.length c)) :: F) w' ((h1.grow hb).perm (by classical rw [List.perm_iff_count]; intro a; simp only [List.count_append, List.count_cons, List.count_nil]; omega)))
    have HWb := Lib.hid hW
    have HBW := Lib.hid (show Below w.heap.size w W by rw [hW]; exact HB0.out.drew)
    clear hR hri H H0 hnw hm hy hcs h1 hW g1
    go_enter Try.func24, Try.ntmps24
    go_wp2_with fail
    refine wp_region_vals3 12 (by kernel_rfl) (by kernel_rfl) (by kernel_rfl) (fun Ls w' => Below W.heap.size W w') (fun k w1 w2 => Below w1.heap.size w1 w2) (fun i w v => match i with | 0 => v = .pointer (some ⟨g, 0, none⟩) | 1 => v = .pointer (some ⟨g, 0, none⟩) | 2 => v = .pointer (some ⟨g, 0, none⟩) | 3 => v = .slice (some ⟨gL, 0, none⟩) l.length c | 4 => v = .pointer (some ⟨g, 0, none⟩) | 5 => v = .pointer (some ⟨g, 0, none⟩) | 6 => v = .pointer (some ⟨g, 0, none⟩) | 7 => v = .slice (some ⟨gL, 0, none⟩) l.length c | 8 => v = .int .i64 l.length | 9 => v = .int .i64 m | 10 => v = .pointer (some ⟨gL, m * 4, none⟩) | 11 => v = (Value.agg (vC y)) | _ => True) (by rw [← HWb.out]; exact Below.refl _ _) ?_ ?_ ?_
    · intro i k v w1 w2 hne hS h
      match i, h with
      | 0, h => exact h
      | 1, h => exact h
      | 2, h => exact h
      | 3, h => exact h
      | 4, h => exact h
      | 5, h => exact h
      | 6, h => exact h
      | 7, h => exact h
      | 8, h => exact h
      | 9, h => exact h
      | 10, h => exact h
      | 11, h => exact h
      | _ + 12, h => exact trivial
    · intro i o hi ho Ls f w1 hI hL hd
      match i, hi with
      | 0, _ =>
        obtain rfl := Option.some.inj ho
        have q2 := HC.out w1 hI
        clear hd ho
        unfold wpOp
        refine Or.inl ?_
        simp only [fill, List.take_succ_cons, List.take_zero, Act.put, List.setIfInBounds_toArray, List.set_cons_zero, List.set_cons_succ]
        unfold Oper.wp
        go_simp
        exact LeftBy.mk _ rfl (hI) (Below.refl _ _) (rfl)
      | 1, _ =>
        obtain rfl := Option.some.inj ho
        have e0 : f 0 = .pointer (some ⟨g, 0, none⟩) := (hd ⟨0, .data⟩ (by simp) rfl).2
        have q2 := HC.out w1 hI
        clear hd ho
        unfold wpOp
        refine Or.inl ?_
        simp only [fill, List.take_succ_cons, List.take_zero, Act.put, List.setIfInBounds_toArray, List.set_cons_zero, List.set_cons_succ, e0]
        unfold Oper.wp
        go_simp
        exact LeftBy.mk _ rfl (hI) (Below.refl _ _) (rfl)
      | 2, _ =>
        obtain rfl := Option.some.inj ho
        have e1 : f 1 = .pointer (some ⟨g, 0, none⟩) := (hd ⟨1, .data⟩ (by simp) rfl).2
        have q2 := HC.out w1 hI
        clear hd ho
        unfold wpOp
        refine Or.inl ?_
        simp only [fill, List.take_succ_cons, List.take_zero, Act.put, List.setIfInBounds_toArray, List.set_cons_zero, List.set_cons_succ, e1]
        unfold Oper.wp
        go_simp
        exact LeftBy.mk _ rfl (hI) (Below.refl _ _) (rfl)
      | 3, _ =>
        obtain rfl := Option.some.inj ho
        have e2 : f 2 = .pointer (some ⟨g, 0, none⟩) := (hd ⟨2, .data⟩ (by simp) rfl).2
        have q2 := HC.out w1 hI
        clear hd ho
        unfold wpOp
        refine Or.inl ?_
        simp only [fill, List.take_succ_cons, List.take_zero, Act.put, List.setIfInBounds_toArray, List.set_cons_zero, List.set_cons_succ, e2]
        unfold Oper.wp
        go_simp
        exact LeftBy.mk _ rfl (hI) (Below.refl _ _) (rfl)
      | 4, _ =>
        obtain rfl := Option.some.inj ho
        have q2 := HC.out w1 hI
        clear hd ho
        unfold wpOp
        refine Or.inl ?_
        simp only [fill, List.take_succ_cons, List.take_zero, Act.put, List.setIfInBounds_toArray, List.set_cons_zero, List.set_cons_succ]
        unfold Oper.wp
        go_simp
        exact LeftBy.mk _ rfl (hI) (Below.refl _ _) (rfl)
      | 5, _ =>
        obtain rfl := Option.some.inj ho
        have e4 : f 4 = .pointer (some ⟨g, 0, none⟩) := (hd ⟨4, .data⟩ (by simp) rfl).2
        have q2 := HC.out w1 hI
        clear hd ho
        unfold wpOp
        refine Or.inl ?_
        simp only [fill, List.take_succ_cons, List.take_zero, Act.put, List.setIfInBounds_toArray, List.set_cons_zero, List.set_cons_succ, e4]
        unfold Oper.wp
        go_simp
        exact LeftBy.mk _ rfl (hI) (Below.refl _ _) (rfl)
      | 6, _ =>
        obtain rfl := Option.some.inj ho
        have e5 : f 5 = .pointer (some ⟨g, 0, none⟩) := (hd ⟨5, .data⟩ (by simp) rfl).2
        have q2 := HC.out w1 hI
        clear hd ho
        unfold wpOp
        refine Or.inl ?_
        simp only [fill, List.take_succ_cons, List.take_zero, Act.put, List.setIfInBounds_toArray, List.set_cons_zero, List.set_cons_succ, e5]
        unfold Oper.wp
        go_simp
        exact LeftBy.mk _ rfl (hI) (Below.refl _ _) (rfl)
      | 7, _ =>
        obtain rfl := Option.some.inj ho
        have e6 : f 6 = .pointer (some ⟨g, 0, none⟩) := (hd ⟨6, .data⟩ (by simp) rfl).2
        have q2 := HC.out w1 hI
        clear hd ho
        unfold wpOp
        refine Or.inl ?_
        simp only [fill, List.take_succ_cons, List.take_zero, Act.put, List.setIfInBounds_toArray, List.set_cons_zero, List.set_cons_succ, e6]
        unfold Oper.wp
        go_simp
        exact LeftBy.mk _ rfl (hI) (Below.refl _ _) (rfl)
      | 8, _ =>
        obtain rfl := Option.some.inj ho
        have e7 : f 7 = .slice (some ⟨gL, 0, none⟩) l.length c := (hd ⟨7, .data⟩ (by simp) rfl).2
        have q2 := HC.out w1 hI
        clear hd ho
        unfold wpOp
        refine Or.inl ?_
        simp only [fill, List.take_succ_cons, List.take_zero, Act.put, List.setIfInBounds_toArray, List.set_cons_zero, List.set_cons_succ, e7]
        unfold Oper.wp
        go_simp
        exact LeftBy.mk _ rfl (hI) (Below.refl _ _) (rfl)
      | 9, _ =>
        obtain rfl := Option.some.inj ho
        have e8 : f 8 = .int .i64 l.length := (hd ⟨8, .data⟩ (by simp) rfl).2
        have q2 := HC.out w1 hI
        clear hd ho
        unfold wpOp
        refine Or.inl ?_
        simp only [fill, List.take_succ_cons, List.take_zero, Act.put, List.setIfInBounds_toArray, List.set_cons_zero, List.set_cons_succ, e8]
        unfold Oper.wp
        go_simp
        exact LeftBy.mk _ rfl (hI) (Below.refl _ _) ((by first | rfl | (show Value.int .i64 (IntKind.i64.wrap (m : Int)) = _; rw [HWR.out])))
      | 10, _ =>
        obtain rfl := Option.some.inj ho
        have e3 : f 3 = .slice (some ⟨gL, 0, none⟩) l.length c := (hd ⟨3, .data⟩ (by simp) rfl).2
        have e9 : f 9 = .int .i64 m := (hd ⟨9, .data⟩ (by simp) rfl).2
        have q2 := HC.out w1 hI
        clear hd ho
        unfold wpOp
        refine Or.inl ?_
        simp only [fill, List.take_succ_cons, List.take_zero, Act.put, List.setIfInBounds_toArray, List.set_cons_zero, List.set_cons_succ, e3, e9]
        unfold Oper.wp
        go_simp
        exact LeftBy.mk _ rfl (hI) (Below.refl _ _) (rfl)
      | 11, _ =>
        obtain rfl := Option.some.inj ho
        have e10 : f 10 = .pointer (some ⟨gL, m * 4, none⟩) := (hd ⟨10, .data⟩ (by simp) rfl).2
        have q2 := HC.out w1 hI
        clear hd ho
        unfold wpOp
        refine Or.inl ?_
        simp only [fill, List.take_succ_cons, List.take_zero, Act.put, List.setIfInBounds_toArray, List.set_cons_zero, List.set_cons_succ, e10]
        unfold Oper.wp
        obtain ⟨p0, p1, p2, p3⟩ := HX.out w1 hI
        go_simp
        exact LeftBy.mk _ rfl (hI) (Below.refl _ _) (rfl)
    · intro Ls f w1 hI hL hV
      have e0 : f 0 = .pointer (some ⟨g, 0, none⟩) := hV 0 (by decide) (by simp)
      have e1 : f 1 = .pointer (some ⟨g, 0, none⟩) := hV 1 (by decide) (by simp)
      have e2 : f 2 = .pointer (some ⟨g, 0, none⟩) := hV 2 (by decide) (by simp)
      have e3 : f 3 = .slice (some ⟨gL, 0, none⟩) l.length c := hV 3 (by decide) (by simp)
      have e4 : f 4 = .pointer (some ⟨g, 0, none⟩) := hV 4 (by decide) (by simp)
      have e5 : f 5 = .pointer (some ⟨g, 0, none⟩) := hV 5 (by decide) (by simp)
      have e6 : f 6 = .pointer (some ⟨g, 0, none⟩) := hV 6 (by decide) (by simp)
      have e7 : f 7 = .slice (some ⟨gL, 0, none⟩) l.length c := hV 7 (by decide) (by simp)
      have e8 : f 8 = .int .i64 l.length := hV 8 (by decide) (by simp)
      have e9 : f 9 = .int .i64 m := hV 9 (by decide) (by simp)
      have e10 : f 10 = .pointer (some ⟨gL, m * 4, none⟩) := hV 10 (by decide) (by simp)
      have e11 : f 11 = (Value.agg (vC y)) := hV 11 (by decide) (by simp)
      clear hV hL
      simp only [fill, List.take_succ_cons, List.take_zero, List.drop_succ_cons, List.drop_zero, Act.put, List.setIfInBounds_toArray, List.set_cons_zero, List.set_cons_succ, e0, e1, e2, e3, e4, e5, e6, e7, e8, e9, e10, e11]
      have HB1 := Lib.hid (HBW.out.trans (hI.mono HBW.out.size))
      have g1 := HG.out w1 hI
      have G2 := Lib.hid (show (w1.setRow w.heap.size (vC y)).heap[w.heap.size]? = some (.cells (vC y) 30 (0, 0)) from setRow_heap _ _ _ _ _ _ g1)
      have HB2 := Lib.hid (HB1.out.grown (row_grown _ w.heap.size (vC y)) HB1.out.size (by rintro k hk; injection hk with hk; omega))
      clear hI
      go_wp2_with (with_reducible refine stV (.tmp 2) (.tmp 22) w.heap.size y v0 rfl rfl g1 ?_)
      exact bodyPost_ret (v := .tuple #[.agg (vC y), .bool true]) (res24 _ _ _ _ w.heap.size rfl rfl G2.out) rfl ⟨rfl, HB2.out⟩
theorem vclone_calls (A : Option Addr) (c : Nat) (L : List Ver) (w0 w : World) (F : Hp) (hc : A = none → c = 0) (hr : Reads w A L.length 4 (verV L)) (hl : L.length ≤ 100000) (H : Holds w0 F w) :
    Calls Try.prog 30 #[.slice A L.length c] w fun e w' => ∃ v, e = .returned v ∧ ∃ h, RowB 30 4 v L.length (verV L) h ∧ Holds w0 (h ++ F) w' := by
  have heq : ∀ w : World, (binOp .eql 22 (.slice A L.length c) (.slice none 0 0)).run Try.prog w = .ok (.bool A.isNone) w := fun w => Lib.run_eql_slice_nil w 22 30 A L.length c 0 0 Try.underlying22
  have HH := Lib.hid H
  clear H
  cases A with
  | none =>
    have e0 : L = [] := List.eq_nil_of_length_eq_zero (hr.2.1 rfl)
    subst e0
    obtain rfl := hc rfl
    clear hr hc
    have heq2 : ∀ w : World, (binOp .eql 22 (.slice none 0 0) (.slice none 0 0)).run Try.prog w = .ok (.bool true) w := heq
    clear heq
    go_enter Try.func30, Try.ntmps30
    go_wp2
    go_ret
    exact ⟨_, rfl, [], RowB.nil _ _, HH.out⟩
  | some ad =>
    have heq2 : ∀ w : World, (binOp .eql 22 (.slice (some ad) L.length c) (.slice none 0 0)).run Try.prog w = .ok (.bool false) w := heq
    clear heq
    have H1 := HH.out.alloc (.cells #[] 30)
    have hmx : maxLen = 9223372036854775807 := rfl
    obtain ⟨i, z, hi, hz, h1, h2, h3⟩ := info30i
    obtain ⟨v', h', w', r1, r2, r3⟩ := row_append (t := 22) (RowB.lit (e := 30) (sz := 4) HH.out #[] 0 (Nat.zero_le _) rfl) H1 22 i z 40 Try.underlying22 hi hz h1 h2 h3 (by decide) (some ad) L.length c (fun h => by cases h) (verV L) (hr.below ((Below.refl _ w).alloc (Nat.le_refl _) _)) (ver_one L) (by omega) (by omega)
    have R1 := Lib.hid r1; have R2 := Lib.hid r2; have R3 := Lib.hid r3
    clear r1 r2 r3 H1 hr
    go_enter Try.func30, Try.ntmps30
    go_wp2_with ((with_reducible refine apL (.tmp 5) (.tmp 6) ?_ ?_ R1.out ?_); rfl; rfl)
    go_ret
    exact ⟨_, rfl, h', by simpa using R2.out, R3.out⟩
theorem all_calls (g : Nat) (l : List Ver) (h F : Hp) (w0 w : World) (hI : IsC g l h) (H : Holds w0 (h ++ F) w) :
    Calls Try.prog 16 #[.pointer (some ⟨g, 0, none⟩)] w fun e w' => ∃ v, e = .returned v ∧ ∃ hv, RowB 30 4 v l.length (verV l) hv ∧ Holds w0 (hv ++ (h ++ F)) w' := by
  obtain ⟨v, hr, hR, rfl, hri, hl⟩ := hI
  have c0 : w.cell? ⟨g, 0, none⟩ = some v := H.cell 0
  obtain ⟨A, c, rfl, _, hA, hrd⟩ := hR.reads (H.perm (k := hr ++ ((g, chO v) :: F)) (by classical rw [List.perm_iff_count]; intro a; simp only [List.count_append, List.count_cons, List.count_nil]; omega))
  have HRD := Lib.hid hrd
  have HH := Lib.hid H
  clear hR hri H hrd
  go_enter Try.func16, Try.ntmps16
  go_wp2_with fail
  refine (vclone_calls A c l w0 w _ hA HRD.out (by omega) HH.out).mono ?_
  rintro e w1 ⟨v, rfl, hv, hRv, hH⟩
  have HV := Lib.hid hRv; have HH1 := Lib.hid hH
  clear hRv hH
  go_wp2_with fail
  go_ret
  exact ⟨_, rfl, hv, HV.out, HH1.out⟩
end Go.Proofs.Ytgkigcobaimccaa
