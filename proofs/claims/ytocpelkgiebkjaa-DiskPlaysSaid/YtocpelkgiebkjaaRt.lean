/- Chapter 8's own answer: remove, lay: contracts for every world. Conditions: each theorem's own. -/
import Derived.Test.YtocpelkgiebkjaaRs
import Derived.Test.YtocpelkgiebkjaaRc
import Derived.Test.YtocpelkgiebkjaaQt
import Derived.Test.YtocpelkgiebkjaaOs
import Derived.Test.YtocpelkgiebkjaaCx
namespace Go.Proofs.Ytocpelkgiebkjaa
open Go.RowKit Go.Proofs.Ytocpelkgiebkjaa.Sp
set_option linter.unusedVariables false
set_option linter.unusedSimpArgs false
theorem wpA {P : Program} {o : Oper} {a : Act} {w w' : World} {K : Act → World → Prop} {Q : Exit → Act → World → Prop} (s x : Operand) {t u : TypeId} {v v1 v' : Value}
    (ho : o.op = .call { callee := .builtin .append, args := #[s, x], argTypes := #[t, u] }) (hs : a.eval s = v) (hx : a.eval x = v1) (hrun : (Builtin.append_ #[t, u] o.type #[v, v1]).run P w = .ok v' w') (hK : K (a.put o.dst v') w') : o.wp P a w K Q := by
  unfold Oper.wp execOp
  simp only [ho, resolve, invoke, builtin, Sem.run_bind, Sem.run_pure, Result.andThen_ok, List.map_toArray, List.map_cons, List.map_nil, hs, hx, hrun]
  exact hK
theorem info51i : ∃ i z, Try.prog.info? 51 = some i ∧ i.zero = some z ∧ i.size = 3 ∧ i.bytes = 48 ∧ z.cells.size = 3 := by
  obtain ⟨i, hi, h⟩ := Option.map_eq_some_iff.1 (show (Try.prog.info? 51).map (fun i => (i.zero.isSome, i.size, i.bytes, (i.zero.getD undef).cells.size)) = some (true, 3, 48, 3) by kernel_rfl)
  obtain ⟨z, hz⟩ := Option.isSome_iff_exists.1 (congrArg (·.1) h)
  refine ⟨i, z, hi, hz, congrArg (·.2.1) h, congrArg (·.2.2.1) h, ?_⟩
  have := congrArg (·.2.2.2) h
  simpa [hz] using this
theorem app_f {w0 w : World} {h F : Hp} {v : Value} {n : Nat} {xs : List Value} (R : RowB 51 3 v n xs h) (H : Holds w0 (h ++ F) w) (A : Option Addr) (m c : Nat) (hc : A = none → c = 0) (news : List Value) (hr : Reads w A m 3 news) (h1 : ∀ u ∈ news, u.oneCell' = true) (hn : n + m ≤ 100000) :
    ∃ v' h' w', (Builtin.append_ #[44, 44] 44 #[v, .slice A m c]).run Try.prog w = .ok v' w' ∧ RowB 51 3 v' (n + m) (xs ++ news) h' ∧ Holds w0 (h' ++ F) w' := by
  obtain ⟨i, z, hi, hz, h3, h4, h5⟩ := info51i
  exact row_append (t := 44) R H 44 i z 48 Try.underlying44 hi hz h3 h4 h5 (by decide) A m c hc news hr h1 (by have hmx : maxLen = 9223372036854775807 := rfl; omega) (by omega)
theorem sz51 : (Try.prog.info? 51).map (·.size) = some 3 := by kernel_rfl
theorem sz5 : (Try.prog.info? 5).map (·.size) = some 1 := by kernel_rfl
theorem oc_take {vs : List Value} {k : Nat} (h : ∀ u ∈ vs, u.oneCell' = true) : ∀ u ∈ vs.take k, u.oneCell' = true := fun u hu => h u (List.mem_of_mem_take hu)
theorem oc_drop {vs : List Value} {k : Nat} (h : ∀ u ∈ vs, u.oneCell' = true) : ∀ u ∈ vs.drop k, u.oneCell' = true := fun u hu => h u (List.mem_of_mem_drop hu)
theorem FRw.oc : ∀ {L : List (ByteArray × Fl)} {vs : List Value} {h : Hp}, FRw L vs h → ∀ u ∈ vs, u.oneCell' = true
  | [], vs, h, H, u, hu => by rw [H.1] at hu; simp at hu
  | y :: L, vs, h, H, u, hu => by
    obtain ⟨v, hb, vs', h', R, F, rfl, rfl⟩ := H
    obtain ⟨A, c, rfl, _⟩ := RowB.form R
    rcases List.mem_cons.1 hu with rfl | hu
    · rfl
    rcases List.mem_cons.1 hu with rfl | hu
    · rfl
    rcases List.mem_cons.1 hu with rfl | hu
    · rfl
    · exact FRw.oc F u hu
theorem FRw.len : ∀ {L : List (ByteArray × Fl)} {vs : List Value} {h : Hp}, FRw L vs h → vs.length = L.length * 3
  | [], vs, h, H => by rw [H.1]; rfl
  | y :: L, vs, h, H => by
    obtain ⟨v, hb, vs', h', R, F, rfl, rfl⟩ := H
    have := FRw.len F
    simp only [List.length_cons, this]; omega
theorem FRw.app : ∀ {L1 L2 : List (ByteArray × Fl)} {v1 v2 : List Value} {h1 h2 : Hp}, FRw L1 v1 h1 → FRw L2 v2 h2 → FRw (L1 ++ L2) (v1 ++ v2) (h1 ++ h2)
  | [], L2, v1, v2, h1, h2, H, H2 => by rw [H.1, H.2]; exact H2
  | y :: L, L2, vs, v2, h, h2, H, H2 => by
    obtain ⟨v, hb, vs', h', R, F, rfl, rfl⟩ := H
    exact ⟨v, hb, _, _, R, FRw.app F H2, rfl, by rw [List.append_assoc]⟩
theorem FRw.split : ∀ {L1 L2 : List (ByteArray × Fl)} {vs : List Value} {h : Hp}, FRw (L1 ++ L2) vs h → ∃ h1 h2, FRw L1 (vs.take (L1.length * 3)) h1 ∧ FRw L2 (vs.drop (L1.length * 3)) h2 ∧ h = h1 ++ h2
  | [], L2, vs, h, H => ⟨[], h, ⟨by simp, rfl⟩, by simpa using H, rfl⟩
  | y :: L, L2, vs, h, H => by
    obtain ⟨v, hb, vs', h', R, F, rfl, rfl⟩ := H
    obtain ⟨h1, h2, a, b, rfl⟩ := FRw.split F
    have e : (y :: L).length * 3 = L.length * 3 + 3 := by simp only [List.length_cons]; omega
    rw [e]
    exact ⟨hb ++ h1, h2, ⟨v, hb, _, h1, R, a, rfl, rfl⟩, b, by rw [List.append_assoc]⟩
set_option maxRecDepth 100000 in
set_option maxHeartbeats 8000000 in
theorem rremove_calls (d : Nat) (m : DM) (n k : Nat) (v : Value) (vs : List Value) (hrw F : Hp) (w0 w : World) (hk : k < n) (hn : n ≤ 10000) (hoc : ∀ u ∈ vs, u.oneCell' = true) (R : RowB 51 3 v n vs hrw) (H : Holds w0 ((d, rO m v) :: (hrw ++ F)) w) :
    Calls Try.prog 41 #[.pointer (some ⟨d, 0, none⟩), .int .i64 (k : Nat)] w fun e w' => e = .returned (.tuple #[]) ∧ ∃ v' hrw', RowB 51 3 v' (n - 1) (vs.take (k * 3) ++ vs.drop ((k + 1) * 3)) hrw' ∧ Holds w0 ((d, rO m v') :: (hrw' ++ F)) w' := by
  obtain ⟨A, c, rfl, hnc, hAn⟩ := RowB.form R
  have HR := Lib.hid R
  have HH := Lib.hid H
  have HOC := Lib.hid hoc
  have HBN := Lib.hid hAn
  obtain ⟨DA, hDA⟩ : ∃ DA, DA = (if c = (k + 1) then A else A.map fun a => a.add ((k + 1) * 3)) := ⟨_, rfl⟩
  have HDA := Lib.hid hDA
  have HDN := Lib.hid (show DA = none → c - (k + 1) = 0 by rw [hDA]; exact cut_none hAn)
  have hwr : IntKind.i64.wrap ((k : Int) + 1) = (k : Int) + 1 := by rw [IntKind.wrap_i64]; omega
  clear R H hoc hAn hDA
  go_enter Try.func41, Try.ntmps41
  refine wp_region_own 17 (fun k => match k with | 8 => [1] | 16 => [8] | 17 => [16] | _ => []) (by kernel_rfl) (by kernel_rfl) (by kernel_rfl) (by kernel_rfl) (Nat.le_of_ble_eq_true (by kernel_rfl)) w0 (fun Ls hs => hs = ((d, rO m (.slice A n c)) :: (hrw ++ F))) (fun i v h => match i with | 0 => v = .pointer (some ⟨d, 0, none⟩) ∧ h = [] | 1 => RowB 51 3 v 0 [] h | 2 => v = .pointer (some ⟨d, 0, none⟩) ∧ h = [] | 3 => v = .pointer (some ⟨d, 0, none⟩) ∧ h = [] | 4 => v = .pointer (some ⟨d, 1, none⟩) ∧ h = [] | 5 => v = .slice A n c ∧ h = [] | 6 => v = .int .i64 (k : Nat) ∧ h = [] | 7 => v = .slice A k c ∧ h = [] | 8 => RowB 51 3 v k (vs.take (k * 3)) h | 9 => v = .pointer (some ⟨d, 0, none⟩) ∧ h = [] | 10 => v = .pointer (some ⟨d, 0, none⟩) ∧ h = [] | 11 => v = .pointer (some ⟨d, 1, none⟩) ∧ h = [] | 12 => v = .slice A n c ∧ h = [] | 13 => v = .int .i64 (k : Nat) ∧ h = [] | 14 => v = .int .i64 ((k : Int) + 1) ∧ h = [] | 15 => v = .slice DA (n - (k + 1)) (c - (k + 1)) ∧ h = [] | 16 => RowB 51 3 v (k + (n - (k + 1))) (vs.take (k * 3) ++ vs.drop ((k + 1) * 3)) h | _ => True) (((d, rO m (.slice A n c)) :: (hrw ++ F))) (rfl) (HH.out.drew) ?_ ?_
  · intro i o hi ho Ls f Hf hs R w1 hI hL hd hH
    simp only [fill, List.take_succ_cons, List.take_zero, Act.put, List.setIfInBounds_toArray, List.set_cons_zero, List.set_cons_succ]
    match i, hi with
    | 0, _ =>
      obtain rfl := Option.some.inj ho
      clear hd ho
      have hH : Holds w0 (hs ++ ([] ++ R)) w1 := hH
      rw [show hs = ((d, rO m (.slice A n c)) :: (hrw ++ F)) from hI] at hH
      clear hI
      unfold wpOp
      refine Or.inl ?_
      unfold Oper.wp
      go_simp
      exact OwnBy.mk _ _ _ rfl (rfl) (⟨rfl, rfl⟩) (hH)
    | 1, _ =>
      obtain rfl := Option.some.inj ho
      clear hd ho
      have hH : Holds w0 (hs ++ ([] ++ R)) w1 := hH
      rw [show hs = ((d, rO m (.slice A n c)) :: (hrw ++ F)) from hI] at hH
      clear hI
      unfold wpOp
      refine Or.inl ?_
      unfold Oper.wp
      go_simp
      exact OwnBy.mk _ [(w1.heap.size, .cells #[] 51)] _ rfl rfl (RowB.lit hH #[] 0 (by decide) rfl) ((hH.alloc (.cells #[] 51)).perm (by classical rw [List.perm_iff_count]; intro a; simp only [List.count_append, List.count_cons, List.count_nil] <;> omega))
    | 2, _ =>
      obtain rfl := Option.some.inj ho
      clear hd ho
      have hH : Holds w0 (hs ++ ([] ++ R)) w1 := hH
      rw [show hs = ((d, rO m (.slice A n c)) :: (hrw ++ F)) from hI] at hH
      clear hI
      unfold wpOp
      refine Or.inl ?_
      unfold Oper.wp
      go_simp
      exact OwnBy.mk _ _ _ rfl (rfl) (⟨rfl, rfl⟩) (hH)
    | 3, _ =>
      obtain rfl := Option.some.inj ho
      have e2 : f 2 = .pointer (some ⟨d, 0, none⟩) := (hd ⟨2, .data⟩ (by simp) rfl).2.1
      clear hd ho
      have hH : Holds w0 (hs ++ ([] ++ R)) w1 := hH
      rw [show hs = ((d, rO m (.slice A n c)) :: (hrw ++ F)) from hI] at hH
      clear hI
      unfold wpOp
      refine Or.inl ?_
      simp only [e2]
      unfold Oper.wp
      go_simp
      exact OwnBy.mk _ _ _ rfl (rfl) (⟨rfl, rfl⟩) (hH)
    | 4, _ =>
      obtain rfl := Option.some.inj ho
      have e3 : f 3 = .pointer (some ⟨d, 0, none⟩) := (hd ⟨3, .data⟩ (by simp) rfl).2.1
      clear hd ho
      have hH : Holds w0 (hs ++ ([] ++ R)) w1 := hH
      rw [show hs = ((d, rO m (.slice A n c)) :: (hrw ++ F)) from hI] at hH
      clear hI
      unfold wpOp
      refine Or.inl ?_
      simp only [e3]
      unfold Oper.wp
      go_simp
      exact OwnBy.mk _ _ _ rfl (rfl) (⟨rfl, rfl⟩) (hH)
    | 5, _ =>
      obtain rfl := Option.some.inj ho
      have e4 : f 4 = .pointer (some ⟨d, 1, none⟩) := (hd ⟨4, .data⟩ (by simp) rfl).2.1
      clear hd ho
      have hH : Holds w0 (hs ++ ([] ++ R)) w1 := hH
      rw [show hs = ((d, rO m (.slice A n c)) :: (hrw ++ F)) from hI] at hH
      clear hI
      unfold wpOp
      refine Or.inl ?_
      simp only [e4]
      unfold Oper.wp
      have q : w1.cell? ⟨d, 1, none⟩ = some (.slice A n c) := Holds.cell hH 1
      go_simp
      exact OwnBy.mk _ _ _ rfl (rfl) (⟨rfl, rfl⟩) (hH)
    | 6, _ =>
      obtain rfl := Option.some.inj ho
      clear hd ho
      have hH : Holds w0 (hs ++ ([] ++ R)) w1 := hH
      rw [show hs = ((d, rO m (.slice A n c)) :: (hrw ++ F)) from hI] at hH
      clear hI
      unfold wpOp
      refine Or.inl ?_
      unfold Oper.wp
      go_simp
      exact OwnBy.mk _ _ _ rfl (rfl) (⟨rfl, rfl⟩) (hH)
    | 7, _ =>
      obtain rfl := Option.some.inj ho
      have e5 : f 5 = .slice A n c := (hd ⟨5, .data⟩ (by simp) rfl).2.1
      have e6 : f 6 = .int .i64 (k : Nat) := (hd ⟨6, .data⟩ (by simp) rfl).2.1
      clear hd ho
      have hH : Holds w0 (hs ++ ([] ++ R)) w1 := hH
      rw [show hs = ((d, rO m (.slice A n c)) :: (hrw ++ F)) from hI] at hH
      clear hI
      unfold wpOp
      refine Or.inl ?_
      simp only [e5, e6]
      unfold Oper.wp
      have hcut := cutHi Try.underlying44 sz51 A n c k (by omega) (by omega) w1
      go_simp
      exact OwnBy.mk _ _ _ rfl (rfl) (⟨rfl, rfl⟩) (hH)
    | 8, _ =>
      obtain rfl := Option.some.inj ho
      have e1 := (hd ⟨1, .data⟩ (by simp) rfl).2
      have e7 : f 7 = .slice A k c := (hd ⟨7, .data⟩ (by simp) rfl).2.1
      clear hd ho
      have hH : Holds w0 (hs ++ ((Hf 1 ++ ([])) ++ R)) w1 := hH
      simp only [List.append_nil, List.append_assoc] at hH
      rw [show hs = ((d, rO m (.slice A n c)) :: (hrw ++ F)) from hI] at hH
      clear hI
      unfold wpOp
      refine Or.inl ?_
      simp only [e7]
      unfold Oper.wp
      obtain ⟨A0, c0, hv0, _, _, hrd⟩ := HR.out.reads (hH.perm (k := hrw ++ (((d, rO m (.slice A n c)) :: F) ++ (Hf 1 ++ R))) (by classical rw [List.perm_iff_count]; intro a; simp only [List.count_append, List.count_cons, List.count_nil] <;> omega))
      injection hv0 with hv0 _ hv0c
      subst hv0
      subst hv0c
      obtain ⟨v8, h8, w8, r1, r2, r3⟩ := app_f e1 (hH.perm (k := Hf 1 ++ (((d, rO m (.slice A n c)) :: (hrw ++ F)) ++ R)) (by classical rw [List.perm_iff_count]; intro a; simp only [List.count_append, List.count_cons, List.count_nil] <;> omega)) (A) (k) (c) (HBN.out) (vs.take (k * 3)) (hrd.take (by omega)) (oc_take HOC.out) (by omega)
      try simp only [Nat.zero_add, List.nil_append] at r2
      refine wpA (.tmp 5) (.tmp 11) rfl rfl rfl r1 ?_
      exact OwnBy.mk _ h8 _ rfl rfl r2 (r3.perm (by classical rw [List.perm_iff_count]; intro a; simp only [List.count_append, List.count_cons, List.count_nil] <;> omega))
    | 9, _ =>
      obtain rfl := Option.some.inj ho
      clear hd ho
      have hH : Holds w0 (hs ++ ([] ++ R)) w1 := hH
      rw [show hs = ((d, rO m (.slice A n c)) :: (hrw ++ F)) from hI] at hH
      clear hI
      unfold wpOp
      refine Or.inl ?_
      unfold Oper.wp
      go_simp
      exact OwnBy.mk _ _ _ rfl (rfl) (⟨rfl, rfl⟩) (hH)
    | 10, _ =>
      obtain rfl := Option.some.inj ho
      have e9 : f 9 = .pointer (some ⟨d, 0, none⟩) := (hd ⟨9, .data⟩ (by simp) rfl).2.1
      clear hd ho
      have hH : Holds w0 (hs ++ ([] ++ R)) w1 := hH
      rw [show hs = ((d, rO m (.slice A n c)) :: (hrw ++ F)) from hI] at hH
      clear hI
      unfold wpOp
      refine Or.inl ?_
      simp only [e9]
      unfold Oper.wp
      go_simp
      exact OwnBy.mk _ _ _ rfl (rfl) (⟨rfl, rfl⟩) (hH)
    | 11, _ =>
      obtain rfl := Option.some.inj ho
      have e10 : f 10 = .pointer (some ⟨d, 0, none⟩) := (hd ⟨10, .data⟩ (by simp) rfl).2.1
      clear hd ho
      have hH : Holds w0 (hs ++ ([] ++ R)) w1 := hH
      rw [show hs = ((d, rO m (.slice A n c)) :: (hrw ++ F)) from hI] at hH
      clear hI
      unfold wpOp
      refine Or.inl ?_
      simp only [e10]
      unfold Oper.wp
      go_simp
      exact OwnBy.mk _ _ _ rfl (rfl) (⟨rfl, rfl⟩) (hH)
    | 12, _ =>
      obtain rfl := Option.some.inj ho
      have e11 : f 11 = .pointer (some ⟨d, 1, none⟩) := (hd ⟨11, .data⟩ (by simp) rfl).2.1
      clear hd ho
      have hH : Holds w0 (hs ++ ([] ++ R)) w1 := hH
      rw [show hs = ((d, rO m (.slice A n c)) :: (hrw ++ F)) from hI] at hH
      clear hI
      unfold wpOp
      refine Or.inl ?_
      simp only [e11]
      unfold Oper.wp
      have q : w1.cell? ⟨d, 1, none⟩ = some (.slice A n c) := Holds.cell hH 1
      go_simp
      exact OwnBy.mk _ _ _ rfl (rfl) (⟨rfl, rfl⟩) (hH)
    | 13, _ =>
      obtain rfl := Option.some.inj ho
      clear hd ho
      have hH : Holds w0 (hs ++ ([] ++ R)) w1 := hH
      rw [show hs = ((d, rO m (.slice A n c)) :: (hrw ++ F)) from hI] at hH
      clear hI
      unfold wpOp
      refine Or.inl ?_
      unfold Oper.wp
      go_simp
      exact OwnBy.mk _ _ _ rfl (rfl) (⟨rfl, rfl⟩) (hH)
    | 14, _ =>
      obtain rfl := Option.some.inj ho
      have e13 : f 13 = .int .i64 (k : Nat) := (hd ⟨13, .data⟩ (by simp) rfl).2.1
      clear hd ho
      have hH : Holds w0 (hs ++ ([] ++ R)) w1 := hH
      rw [show hs = ((d, rO m (.slice A n c)) :: (hrw ++ F)) from hI] at hH
      clear hI
      unfold wpOp
      refine Or.inl ?_
      simp only [e13]
      unfold Oper.wp
      go_simp
      exact OwnBy.mk _ _ _ rfl (rfl) (⟨rfl, rfl⟩) (hH)
    | 15, _ =>
      obtain rfl := Option.some.inj ho
      have e12 : f 12 = .slice A n c := (hd ⟨12, .data⟩ (by simp) rfl).2.1
      have e14 : f 14 = .int .i64 ((k : Int) + 1) := (hd ⟨14, .data⟩ (by simp) rfl).2.1
      clear hd ho
      have hH : Holds w0 (hs ++ ([] ++ R)) w1 := hH
      rw [show hs = ((d, rO m (.slice A n c)) :: (hrw ++ F)) from hI] at hH
      clear hI
      unfold wpOp
      refine Or.inl ?_
      simp only [e12, e14]
      unfold Oper.wp
      have hcut := cutLo Try.underlying44 sz51 A n c (k + 1) (by omega) (by omega) w1
      rw [← HDA.out] at hcut
      have hk1 : ((k + 1 : Nat) : Int) = (k : Int) + 1 := by omega
      rw [hk1] at hcut
      go_simp
      exact OwnBy.mk _ _ _ rfl (rfl) (⟨rfl, rfl⟩) (hH)
    | 16, _ =>
      obtain rfl := Option.some.inj ho
      have e8 := (hd ⟨8, .data⟩ (by simp) rfl).2
      have e15 : f 15 = .slice DA (n - (k + 1)) (c - (k + 1)) := (hd ⟨15, .data⟩ (by simp) rfl).2.1
      clear hd ho
      have hH : Holds w0 (hs ++ ((Hf 8 ++ ([])) ++ R)) w1 := hH
      simp only [List.append_nil, List.append_assoc] at hH
      rw [show hs = ((d, rO m (.slice A n c)) :: (hrw ++ F)) from hI] at hH
      clear hI
      unfold wpOp
      refine Or.inl ?_
      simp only [e15]
      unfold Oper.wp
      obtain ⟨A0, c0, hv0, _, _, hrd⟩ := HR.out.reads (hH.perm (k := hrw ++ (((d, rO m (.slice A n c)) :: F) ++ (Hf 8 ++ R))) (by classical rw [List.perm_iff_count]; intro a; simp only [List.count_append, List.count_cons, List.count_nil] <;> omega))
      injection hv0 with hv0 _ hv0c
      subst hv0
      subst hv0c
      obtain ⟨v8, h8, w8, r1, r2, r3⟩ := app_f e8 (hH.perm (k := Hf 8 ++ (((d, rO m (.slice A n c)) :: (hrw ++ F)) ++ R)) (by classical rw [List.perm_iff_count]; intro a; simp only [List.count_append, List.count_cons, List.count_nil] <;> omega)) (DA) (n - (k + 1)) (c - (k + 1)) (HDN.out) (vs.drop ((k + 1) * 3)) ((by rw [HDA.out]; exact hrd.drop (by omega) (by omega))) (oc_drop HOC.out) (by omega)
      try simp only [Nat.zero_add, List.nil_append] at r2
      refine wpA (.tmp 12) (.tmp 19) rfl rfl rfl r1 ?_
      exact OwnBy.mk _ h8 _ rfl rfl r2 (r3.perm (by classical rw [List.perm_iff_count]; intro a; simp only [List.count_append, List.count_cons, List.count_nil] <;> omega))
    | _ + 17, h17 => exact absurd h17 (by omega)
  · intro Ls f Hf hs w1 hI hL hV hH
    have e0 : f 0 = .pointer (some ⟨d, 0, none⟩) := (hV 0 (by decide)).1
    have e1 := hV 1 (by decide)
    have e2 : f 2 = .pointer (some ⟨d, 0, none⟩) := (hV 2 (by decide)).1
    have e3 : f 3 = .pointer (some ⟨d, 0, none⟩) := (hV 3 (by decide)).1
    have e4 : f 4 = .pointer (some ⟨d, 1, none⟩) := (hV 4 (by decide)).1
    have e5 : f 5 = .slice A n c := (hV 5 (by decide)).1
    have e6 : f 6 = .int .i64 (k : Nat) := (hV 6 (by decide)).1
    have e7 : f 7 = .slice A k c := (hV 7 (by decide)).1
    have e8 := hV 8 (by decide)
    have e9 : f 9 = .pointer (some ⟨d, 0, none⟩) := (hV 9 (by decide)).1
    have e10 : f 10 = .pointer (some ⟨d, 0, none⟩) := (hV 10 (by decide)).1
    have e11 : f 11 = .pointer (some ⟨d, 1, none⟩) := (hV 11 (by decide)).1
    have e12 : f 12 = .slice A n c := (hV 12 (by decide)).1
    have e13 : f 13 = .int .i64 (k : Nat) := (hV 13 (by decide)).1
    have e14 : f 14 = .int .i64 ((k : Int) + 1) := (hV 14 (by decide)).1
    have e15 : f 15 = .slice DA (n - (k + 1)) (c - (k + 1)) := (hV 15 (by decide)).1
    have e16 := hV 16 (by decide)
    clear hV
    have hH : Holds w0 (hs ++ (Hf 16 ++ [])) w1 := hH
    simp only [List.append_nil, List.append_assoc] at hH
    simp only [fill, List.take_succ_cons, List.take_zero, List.drop_succ_cons, List.drop_zero, Act.put, List.setIfInBounds_toArray, List.set_cons_zero, List.set_cons_succ, e0, e2, e3, e4, e5, e6, e7, e9, e10, e11, e12, e13, e14, e15]
    rw [show hs = ((d, rO m (.slice A n c)) :: (hrw ++ F)) from hI] at hH
    clear hI
    obtain ⟨A8, c8, hv8, _, _⟩ := RowB.form e16
    have en : k + (n - (k + 1)) = n - 1 := by omega
    rw [hv8] at e16 ⊢
    rw [en] at e16 ⊢
    have H9 : Holds w0 ((d, rO m (.slice A n c)) :: (Hf 16 ++ F ++ hrw)) w1 := hH.perm (by classical rw [List.perm_iff_count]; intro a; simp only [List.count_append, List.count_cons, List.count_nil] <;> omega)
    have q2 : w1.cell? ⟨d, 1, none⟩ = some (.slice A n c) := H9.cell 1
    have q3 : w1.frozen? ⟨d, 1, none⟩ = false := H9.froz 1
    have HNN := Lib.hid (show Holds w0 ((d, rO m (.slice A8 (n - 1) c8)) :: (Hf 16 ++ F ++ hrw)) _ from H9.set 1 (.slice A8 (n - 1) c8))
    have HR8 := Lib.hid e16
    clear hL hH H9 hv8
    go_wp2_with fail
    refine bodyPost_end (v := .tuple #[]) (by simp [results, Try.results41, go_sem]) rfl ?_
    exact ⟨rfl, .slice A8 (n - 1) c8, Hf 16, HR8.out, (HNN.out.perm (k := ((d, rO m (.slice A8 (n - 1) c8)) :: (Hf 16 ++ F)) ++ hrw) (by classical rw [List.perm_iff_count]; intro a; simp only [List.count_append, List.count_cons, List.count_nil] <;> omega)).left⟩
/-- A file's cells. -/
def fC (s : ByteArray) (A : Option Addr) (n c : Nat) (f : Int) : Array Value := #[.string s, .slice A n c, .int .i64 f]
theorem info51f (s : ByteArray) (A : Option Addr) (n c : Nat) (f : Int) : (Try.prog.info? 51).map (·.size) = some (fC s A n c f).size := by kernel_rfl
theorem ldFr {w : World} {g : Nat} {s : ByteArray} {A : Option Addr} {n c : Nat} {f : Int} (hg : w.heap[g]? = some (.cells (fC s A n c f) 51 (0, 0))) : (loadVar 51 ⟨g, 0, none⟩).run Try.prog w = .ok (.agg (fC s A n c f)) w :=
  run_loadVar_row (P := Try.prog) w g 51 51 _ (0, 0) _ hg Try.underlying51 rfl (info51f s A n c f)
theorem wpF {o : Oper} {a : Act} {w : World} {K : Act → World → Prop} {Q : Exit → Act → World → Prop} (x : Operand) (g : Nat) {v : Value} (ho : o.op = .load 51 x) (hx : a.eval x = .pointer (some ⟨g, 0, none⟩))
    (hrun : (loadVar 51 ⟨g, 0, none⟩).run Try.prog w = .ok v w) (hK : K (a.put o.dst v) w) : o.wp Try.prog a w K Q := by
  unfold Oper.wp execOp
  simp only [ho, hx, Instr.loadAt, Instr.sureAddr, Sem.run_bind, Sem.run_pure, Result.andThen_ok, hrun]
  exact hK
theorem reads_f {w0 w : World} {F : Hp} {g : Nat} {s : ByteArray} {A : Option Addr} {n c : Nat} {f : Int} (H : Holds w0 ((g, .cells (fC s A n c f) 51) :: F) w) : Reads w (some ⟨g, 0, none⟩) 1 3 (fC s A n c f).toList := by
  refine ⟨rfl, (fun h => by cases h), fun ad had j u hj => ?_⟩
  injection had with had
  subst had
  have e : (⟨g, 0, none⟩ : Addr).add j = ⟨g, j, none⟩ := by simp [Addr.add]; omega
  rw [e, H.cell j, ← Array.getElem?_toList]
  exact hj
def ltS (a b : ByteArray) : Bool := Op.bytesLess a.toList b.toList
def posS (L : List (ByteArray × Fl)) (s : ByteArray) : Nat := (L.takeWhile fun y => ltS y.1 s).length
theorem posS_le (L : List (ByteArray × Fl)) (s : ByteArray) : posS L s ≤ L.length := (List.takeWhile_sublist _).length_le
theorem posS_lo : ∀ (L : List (ByteArray × Fl)) (s : ByteArray) (k : Nat) (y : ByteArray × Fl), k < posS L s → L[k]? = some y → ltS y.1 s = true
  | [], s, k, y, h, _ => by simp [posS] at h
  | z :: L, s, k, y, h, e => by
    unfold posS at h
    rw [List.takeWhile_cons] at h
    split at h
    · rename_i hz
      cases k with
      | zero => simp at e; subst e; exact hz
      | succ k => exact posS_lo L s k y (by unfold posS; simpa using h) (by simpa using e)
    · simp at h
theorem posS_hi : ∀ (L : List (ByteArray × Fl)) (s : ByteArray) (y : ByteArray × Fl), L[posS L s]? = some y → ltS y.1 s = false
  | [], s, y, e => by simp at e
  | z :: L, s, y, e => by
    unfold posS at e
    rw [List.takeWhile_cons] at e
    split at e
    · exact posS_hi L s y (by unfold posS; simpa using e)
    · rename_i hz
      simp at e
      subst e
      simpa using hz
set_option maxRecDepth 100000 in
set_option maxHeartbeats 8000000 in
theorem rlay_calls (d : Nat) (m : DM) (n : Nat) (v : Value) (vs : List Value) (L : List (ByteArray × Fl)) (s : ByteArray) (Av : Option Addr) (nv cv : Nat) (sf : Int) (hrw F : Hp) (w0 w : World) (hn : n ≤ 10000) (hLn : L.length = n) (hoc : ∀ u ∈ vs, u.oneCell' = true)
    (hnm : ∀ j x, L[j]? = some x → vs[j * 3]? = some (.string x.1)) (R : RowB 51 3 v n vs hrw) (H : Holds w0 ((d, rO m v) :: (hrw ++ F)) w) :
    Calls Try.prog 38 #[.pointer (some ⟨d, 0, none⟩), .agg (fC s Av nv cv sf)] w fun e w' => e = .returned (.tuple #[]) ∧ ∃ v' hrw', RowB 51 3 v' (n + 1) (vs.take (posS L s * 3) ++ (fC s Av nv cv sf).toList ++ vs.drop (posS L s * 3)) hrw' ∧ Holds w0 ((d, rO m v') :: (hrw' ++ F)) w' := by
  obtain ⟨A, c, rfl, hnc, hAn⟩ := RowB.form R
  obtain ⟨bx, hbx⟩ : ∃ bx, bx = w.heap.size := ⟨_, rfl⟩
  have HBX := Lib.hid hbx
  have HH := Lib.hid (show Holds w0 ((d, rO m (.slice A n c)) :: (hrw ++ ((bx, .cells (fC s Av nv cv sf) 51) :: F))) (w.alloc (.cells (fC s Av nv cv sf) 51)) by rw [hbx]; exact (H.alloc (.cells (fC s Av nv cv sf) 51)).perm (by classical rw [List.perm_iff_count]; intro a; simp only [List.count_append, List.count_cons, List.count_nil] <;> omega))
  have HR := Lib.hid R
  have HOC := Lib.hid hoc
  have HBN := Lib.hid hAn
  have HNM := Lib.hid hnm
  have HLN := Lib.hid hLn
  obtain ⟨Pn, hP⟩ : ∃ Pn, Pn = posS L s := ⟨_, rfl⟩
  have hPm : Pn ≤ n := by rw [hP, ← hLn]; exact posS_le L s
  have HPL := Lib.hid (show ∀ j y, j < Pn → L[j]? = some y → ltS y.1 s = true by rw [hP]; exact posS_lo L s)
  have HPH := Lib.hid (show ∀ y, L[Pn]? = some y → ltS y.1 s = false by rw [hP]; exact posS_hi L s)
  have HP := Lib.hid hP
  clear R H hoc hAn hnm hP hbx hLn
  go_enter Try.func38, Try.ntmps38
  go_wp2_with fail
  rw [← HBX.out]
  go_loopw [4] (fun i wr => ∃ k : Nat, k ≤ Pn ∧ i = .int .i64 k ∧ Holds w0 ((d, rO m (.slice A n c)) :: (hrw ++ ((bx, .cells (fC s Av nv cv sf) 51) :: F))) wr) (fun i _ => n - (intOf i).toNat)
  case atStart => exact ⟨0, by omega, rfl, HH.out⟩
  case round =>
    obtain ⟨k, hk, rfl, hH2⟩ := hrel
    have HH2 := Lib.hid hH2
    have HC1 := Lib.hid (fun w2 (hb : Below wr.heap.size wr w2) => show w2.cell? ⟨d, 1, none⟩ = some (.slice A n c) from Holds.cell (hH2.grow hb) 1)
    have HS0 := Lib.hid (fun w2 (hb : Below wr.heap.size wr w2) => show w2.cell? ⟨bx, 0, none⟩ = some (.string s) from Holds.cell ((hH2.grow hb).perm (k := (bx, .cells (fC s Av nv cv sf) 51) :: ((d, rO m (.slice A n c)) :: (hrw ++ F))) (by classical rw [List.perm_iff_count]; intro a; simp only [List.count_append, List.count_cons, List.count_nil] <;> omega)) 0)
    clear hH2
    by_cases hlt : k < n
    · have hki : (k : Int) < (n : Int) := by omega
      obtain ⟨y, hy⟩ : ∃ y, L[k]? = some y := ⟨_, List.getElem?_eq_getElem (by rw [HLN.out]; exact hlt)⟩
      have hrd0 := fun w2 (hb : Below wr.heap.size wr w2) => HR.out.reads ((HH2.out.grow hb).perm (k := hrw ++ ((d, rO m (.slice A n c)) :: ((bx, .cells (fC s Av nv cv sf) 51) :: F))) (by classical rw [List.perm_iff_count]; intro a; simp only [List.count_append, List.count_cons, List.count_nil] <;> omega))
      obtain ⟨A9, c9, hv9, _, _, hr9⟩ := hrd0 wr (Below.refl _ _)
      injection hv9 with e9 _ e9c
      subst e9
      subst e9c
      cases A with
      | none => have := hr9.2.1 rfl; omega
      | some ad =>
      have HY := Lib.hid (fun w2 (hb : Below wr.heap.size wr w2) => show w2.cell? (ad.add (k * 3)) = some (.string y.1) from by
        obtain ⟨A8, c8, hv8, _, _, hr8⟩ := hrd0 w2 hb
        injection hv8 with e8 _ _
        exact hr8.2.2 ad e8.symm _ _ (HNM.out k y hy))
      clear hrd0 hr9
      cases hc : ltS y.1 s
      · have hkP : k = Pn := by
          rcases Nat.lt_or_ge k Pn with h | h
          · have := HPL.out k y h hy; rw [hc] at this; cases this
          · omega
        have HLT := Lib.hid hc
        clear hy hc
        subst hkP
        go_wp2_with fail
        refine region_quiet_lit (C := fun w' => Below wr.heap.size wr w') (by kernel_rfl) (by kernel_rfl) (Below.refl _ _).drew ?_
        go_big_quiet_step (exact fun _ => rfl)
        go_big_quiet_step (exact fun _ => rfl)
        go_big_quiet_step (exact fun _ => rfl)
        go_big_quiet_step (exact fun _ => rfl)
        refine BigFrame.wpQuiet_want rfl (fun K hK => ?_)
        refine quiet_val (.slice (some ad) n c) (fun w2 hw => by have q := HC1.out w2 hw; simp [go_sem, q]) (hK _ ?_)
        clear hK K
        simp only [Act.put, List.setIfInBounds_toArray, List.set_cons_zero, List.set_cons_succ]
        go_big_quiet_step (exact fun _ => rfl)
        go_big_quiet_step (exact fun _ => rfl)
        go_big_quiet_step (exact fun _ => rfl)
        go_big_quiet_step (exact fun _ => rfl)
        go_big_quiet_step (exact fun _ => rfl)
        go_big_quiet_step (exact fun _ => rfl)
        refine BigFrame.wpQuiet_want rfl (fun K hK => ?_)
        refine quiet_val (.slice (some ad) n c) (fun w2 hw => by have q := HC1.out w2 hw; simp [go_sem, q]) (hK _ ?_)
        clear hK K
        simp only [Act.put, List.setIfInBounds_toArray, List.set_cons_zero, List.set_cons_succ]
        go_big_quiet_step (exact fun _ => rfl)
        go_big_quiet_step (exact fun _ => rfl)
        go_big_quiet_step (exact fun _ => rfl)
        refine BigFrame.wpQuiet_want rfl (fun K hK => ?_)
        refine quiet_val (.string y.1) (fun w2 hw => by have q := HY.out w2 hw; simp [go_sem, q]) (hK _ ?_)
        clear hK K
        simp only [Act.put, List.setIfInBounds_toArray, List.set_cons_zero, List.set_cons_succ]
        go_big_quiet_step (exact fun _ => rfl)
        refine BigFrame.wpQuiet_want rfl (fun K hK => ?_)
        refine quiet_val (.string s) (fun w2 hw => by have q := HS0.out w2 hw; simp [go_sem, q]) (hK _ ?_)
        clear hK K
        simp only [Act.put, List.setIfInBounds_toArray, List.set_cons_zero, List.set_cons_succ]
        refine BigFrame.wpQuiet_want rfl (fun K hK => ?_)
        refine quiet_val (.bool false) (fun w2 hw => by have q := HLT.out; unfold ltS at q; simp [go_sem, q]) (hK _ ?_)
        clear hK K
        simp only [Act.put, List.setIfInBounds_toArray, List.set_cons_zero, List.set_cons_succ]
        go_big_quiet_step (exact fun _ => rfl)
        refine wpQuiet_nil ?_
        intro w4 hw4
        have HH4 := Lib.hid (HH2.out.grow hw4)
        clear hw4
        go_wp2_with fail
        have HPE := Lib.hid (show k = posS L s from HP.out)
        obtain ⟨DA, hDA⟩ : ∃ DA, DA = (if c = k then (some ad) else (some ad).map fun a => a.add (k * 3)) := ⟨_, rfl⟩
        have HDA := Lib.hid hDA
        have HDN := Lib.hid (show DA = none → c - k = 0 by rw [hDA]; exact cut_none HBN.out)
        clear hDA
        refine wp_region_own 19 (fun k => match k with | 8 => [1] | 11 => [8, 10] | 18 => [11] | 19 => [18] | _ => []) (by kernel_rfl) (by kernel_rfl) (by kernel_rfl) (by kernel_rfl) (Nat.le_of_ble_eq_true (by kernel_rfl)) w0 (fun Ls hs => hs = ((d, rO m (.slice (some ad) n c)) :: (hrw ++ ((bx, .cells (fC s Av nv cv sf) 51) :: F)))) (fun i v h => match i with | 0 => v = .pointer (some ⟨d, 0, none⟩) ∧ h = [] | 1 => RowB 51 3 v 0 [] h | 2 => v = .pointer (some ⟨d, 0, none⟩) ∧ h = [] | 3 => v = .pointer (some ⟨d, 0, none⟩) ∧ h = [] | 4 => v = .pointer (some ⟨d, 1, none⟩) ∧ h = [] | 5 => v = .slice (some ad) n c ∧ h = [] | 6 => v = .int .i64 (k : Nat) ∧ h = [] | 7 => v = .slice (some ad) k c ∧ h = [] | 8 => RowB 51 3 v k (vs.take (k * 3)) h | 9 => v = Value.agg (fC s Av nv cv sf) ∧ h = [] | 10 => ∃ g, v = .slice (some ⟨g, 0, none⟩) 1 1 ∧ h = [(g, .cells (fC s Av nv cv sf) 51)] | 11 => RowB 51 3 v (k + 1) (vs.take (k * 3) ++ (fC s Av nv cv sf).toList) h | 12 => v = .pointer (some ⟨d, 0, none⟩) ∧ h = [] | 13 => v = .pointer (some ⟨d, 0, none⟩) ∧ h = [] | 14 => v = .pointer (some ⟨d, 1, none⟩) ∧ h = [] | 15 => v = .slice (some ad) n c ∧ h = [] | 16 => v = .int .i64 (k : Nat) ∧ h = [] | 17 => v = .slice DA (n - k) (c - k) ∧ h = [] | 18 => RowB 51 3 v (k + 1 + (n - k)) (vs.take (k * 3) ++ (fC s Av nv cv sf).toList ++ vs.drop (k * 3)) h | _ => True) (((d, rO m (.slice (some ad) n c)) :: (hrw ++ ((bx, .cells (fC s Av nv cv sf) 51) :: F)))) (rfl) (HH4.out.drew) ?_ ?_
        · intro i o hi ho Ls f Hf hs R w1 hI hL hd hH
          simp only [fill, List.take_succ_cons, List.take_zero, Act.put, List.setIfInBounds_toArray, List.set_cons_zero, List.set_cons_succ]
          match i, hi with
          | 0, _ =>
            obtain rfl := Option.some.inj ho
            clear hd ho
            have hH : Holds w0 (hs ++ ([] ++ R)) w1 := hH
            rw [show hs = ((d, rO m (.slice (some ad) n c)) :: (hrw ++ ((bx, .cells (fC s Av nv cv sf) 51) :: F))) from hI] at hH
            clear hI
            unfold wpOp
            refine Or.inl ?_
            unfold Oper.wp
            go_simp
            exact OwnBy.mk _ _ _ rfl (rfl) (⟨rfl, rfl⟩) (hH)
          | 1, _ =>
            obtain rfl := Option.some.inj ho
            clear hd ho
            have hH : Holds w0 (hs ++ ([] ++ R)) w1 := hH
            rw [show hs = ((d, rO m (.slice (some ad) n c)) :: (hrw ++ ((bx, .cells (fC s Av nv cv sf) 51) :: F))) from hI] at hH
            clear hI
            unfold wpOp
            refine Or.inl ?_
            unfold Oper.wp
            go_simp
            exact OwnBy.mk _ [(w1.heap.size, .cells #[] 51)] _ rfl rfl (RowB.lit hH #[] 0 (by decide) rfl) ((hH.alloc (.cells #[] 51)).perm (by classical rw [List.perm_iff_count]; intro a; simp only [List.count_append, List.count_cons, List.count_nil] <;> omega))
          | 2, _ =>
            obtain rfl := Option.some.inj ho
            clear hd ho
            have hH : Holds w0 (hs ++ ([] ++ R)) w1 := hH
            rw [show hs = ((d, rO m (.slice (some ad) n c)) :: (hrw ++ ((bx, .cells (fC s Av nv cv sf) 51) :: F))) from hI] at hH
            clear hI
            unfold wpOp
            refine Or.inl ?_
            unfold Oper.wp
            go_simp
            exact OwnBy.mk _ _ _ rfl (rfl) (⟨rfl, rfl⟩) (hH)
          | 3, _ =>
            obtain rfl := Option.some.inj ho
            have e2 : f 2 = .pointer (some ⟨d, 0, none⟩) := (hd ⟨2, .data⟩ (by simp) rfl).2.1
            clear hd ho
            have hH : Holds w0 (hs ++ ([] ++ R)) w1 := hH
            rw [show hs = ((d, rO m (.slice (some ad) n c)) :: (hrw ++ ((bx, .cells (fC s Av nv cv sf) 51) :: F))) from hI] at hH
            clear hI
            unfold wpOp
            refine Or.inl ?_
            simp only [e2]
            unfold Oper.wp
            go_simp
            exact OwnBy.mk _ _ _ rfl (rfl) (⟨rfl, rfl⟩) (hH)
          | 4, _ =>
            obtain rfl := Option.some.inj ho
            have e3 : f 3 = .pointer (some ⟨d, 0, none⟩) := (hd ⟨3, .data⟩ (by simp) rfl).2.1
            clear hd ho
            have hH : Holds w0 (hs ++ ([] ++ R)) w1 := hH
            rw [show hs = ((d, rO m (.slice (some ad) n c)) :: (hrw ++ ((bx, .cells (fC s Av nv cv sf) 51) :: F))) from hI] at hH
            clear hI
            unfold wpOp
            refine Or.inl ?_
            simp only [e3]
            unfold Oper.wp
            go_simp
            exact OwnBy.mk _ _ _ rfl (rfl) (⟨rfl, rfl⟩) (hH)
          | 5, _ =>
            obtain rfl := Option.some.inj ho
            have e4 : f 4 = .pointer (some ⟨d, 1, none⟩) := (hd ⟨4, .data⟩ (by simp) rfl).2.1
            clear hd ho
            have hH : Holds w0 (hs ++ ([] ++ R)) w1 := hH
            rw [show hs = ((d, rO m (.slice (some ad) n c)) :: (hrw ++ ((bx, .cells (fC s Av nv cv sf) 51) :: F))) from hI] at hH
            clear hI
            unfold wpOp
            refine Or.inl ?_
            simp only [e4]
            unfold Oper.wp
            have q : w1.cell? ⟨d, 1, none⟩ = some (.slice (some ad) n c) := Holds.cell hH 1
            go_simp
            exact OwnBy.mk _ _ _ rfl (rfl) (⟨rfl, rfl⟩) (hH)
          | 6, _ =>
            obtain rfl := Option.some.inj ho
            clear hd ho
            have hH : Holds w0 (hs ++ ([] ++ R)) w1 := hH
            rw [show hs = ((d, rO m (.slice (some ad) n c)) :: (hrw ++ ((bx, .cells (fC s Av nv cv sf) 51) :: F))) from hI] at hH
            clear hI
            unfold wpOp
            refine Or.inl ?_
            unfold Oper.wp
            go_simp
            exact OwnBy.mk _ _ _ rfl (rfl) (⟨rfl, rfl⟩) (hH)
          | 7, _ =>
            obtain rfl := Option.some.inj ho
            have e5 : f 5 = .slice (some ad) n c := (hd ⟨5, .data⟩ (by simp) rfl).2.1
            have e6 : f 6 = .int .i64 (k : Nat) := (hd ⟨6, .data⟩ (by simp) rfl).2.1
            clear hd ho
            have hH : Holds w0 (hs ++ ([] ++ R)) w1 := hH
            rw [show hs = ((d, rO m (.slice (some ad) n c)) :: (hrw ++ ((bx, .cells (fC s Av nv cv sf) 51) :: F))) from hI] at hH
            clear hI
            unfold wpOp
            refine Or.inl ?_
            simp only [e5, e6]
            unfold Oper.wp
            have hcut := cutHi Try.underlying44 sz51 (some ad) n c k (by omega) (by omega) w1
            go_simp
            exact OwnBy.mk _ _ _ rfl (rfl) (⟨rfl, rfl⟩) (hH)
          | 8, _ =>
            obtain rfl := Option.some.inj ho
            have e1 := (hd ⟨1, .data⟩ (by simp) rfl).2
            have e7 : f 7 = .slice (some ad) k c := (hd ⟨7, .data⟩ (by simp) rfl).2.1
            clear hd ho
            have hH : Holds w0 (hs ++ ((Hf 1 ++ ([])) ++ R)) w1 := hH
            simp only [List.append_nil, List.append_assoc] at hH
            rw [show hs = ((d, rO m (.slice (some ad) n c)) :: (hrw ++ ((bx, .cells (fC s Av nv cv sf) 51) :: F))) from hI] at hH
            clear hI
            unfold wpOp
            refine Or.inl ?_
            simp only [e7]
            unfold Oper.wp
            obtain ⟨A0, c0, hv0, _, _, hrd⟩ := HR.out.reads (hH.perm (k := hrw ++ (((d, rO m (.slice (some ad) n c)) :: ((bx, .cells (fC s Av nv cv sf) 51) :: F)) ++ (Hf 1 ++ R))) (by classical rw [List.perm_iff_count]; intro a; simp only [List.count_append, List.count_cons, List.count_nil] <;> omega))
            injection hv0 with hv0 _ hv0c
            subst hv0
            subst hv0c
            obtain ⟨v8, h8, w8, r1, r2, r3⟩ := app_f e1 (hH.perm (k := Hf 1 ++ (((d, rO m (.slice (some ad) n c)) :: (hrw ++ ((bx, .cells (fC s Av nv cv sf) 51) :: F))) ++ R)) (by classical rw [List.perm_iff_count]; intro a; simp only [List.count_append, List.count_cons, List.count_nil] <;> omega)) ((some ad)) (k) (c) (HBN.out) (vs.take (k * 3)) (hrd.take (by omega)) (oc_take HOC.out) (by omega)
            try simp only [Nat.zero_add, List.nil_append] at r2
            refine wpA (.tmp 28) (.tmp 34) rfl rfl rfl r1 ?_
            exact OwnBy.mk _ h8 _ rfl rfl r2 (r3.perm (by classical rw [List.perm_iff_count]; intro a; simp only [List.count_append, List.count_cons, List.count_nil] <;> omega))
          | 9, _ =>
            obtain rfl := Option.some.inj ho
            clear hd ho
            have hH : Holds w0 (hs ++ ([] ++ R)) w1 := hH
            rw [show hs = ((d, rO m (.slice (some ad) n c)) :: (hrw ++ ((bx, .cells (fC s Av nv cv sf) 51) :: F))) from hI] at hH
            clear hI
            unfold wpOp
            refine Or.inl ?_
            unfold Oper.wp
            refine wpF (.tmp 3) bx rfl rfl (ldFr (hH.perm (k := (bx, .cells (fC s Av nv cv sf) 51) :: (((d, rO m (.slice (some ad) n c)) :: (hrw ++ F)) ++ R)) (by classical rw [List.perm_iff_count]; intro a; simp only [List.count_append, List.count_cons, List.count_nil] <;> omega)).get) ?_
            exact OwnBy.mk _ _ _ rfl (rfl) (⟨rfl, rfl⟩) (hH)
          | 10, _ =>
            obtain rfl := Option.some.inj ho
            have e9 : f 9 = Value.agg (fC s Av nv cv sf) := (hd ⟨9, .data⟩ (by simp) rfl).2.1
            clear hd ho
            have hH : Holds w0 (hs ++ ([] ++ R)) w1 := hH
            rw [show hs = ((d, rO m (.slice (some ad) n c)) :: (hrw ++ ((bx, .cells (fC s Av nv cv sf) 51) :: F))) from hI] at hH
            clear hI
            unfold wpOp
            refine Or.inl ?_
            simp only [e9]
            unfold Oper.wp
            have hH3 : Holds w0 (((d, rO m (.slice (some ad) n c)) :: (hrw ++ ((bx, .cells (fC s Av nv cv sf) 51) :: F))) ++ ([(w1.heap.size, .cells (fC s Av nv cv sf) 51)] ++ R)) (w1.alloc (.cells (fC s Av nv cv sf) 51)) := (hH.alloc (.cells (fC s Av nv cv sf) 51)).perm (by classical rw [List.perm_iff_count]; intro a; simp only [List.count_append, List.count_cons, List.count_nil] <;> omega)
            unfold fC
            go_simp
            exact OwnBy.mk _ [(w1.heap.size, .cells (fC s Av nv cv sf) 51)] _ rfl rfl ⟨w1.heap.size, rfl, rfl⟩ hH3
          | 11, _ =>
            obtain rfl := Option.some.inj ho
            have e8 := (hd ⟨8, .data⟩ (by simp) rfl).2
            have e10 := (hd ⟨10, .data⟩ (by simp) rfl).2
            obtain ⟨g10, e10, q10⟩ := e10
            clear hd ho
            have hH : Holds w0 (hs ++ ((Hf 8 ++ (Hf 10 ++ ([]))) ++ R)) w1 := hH
            simp only [q10, List.append_nil, List.append_assoc] at hH
            rw [show hs = ((d, rO m (.slice (some ad) n c)) :: (hrw ++ ((bx, .cells (fC s Av nv cv sf) 51) :: F))) from hI] at hH
            clear hI
            unfold wpOp
            refine Or.inl ?_
            simp only [e10]
            unfold Oper.wp
            have hH2 : Holds w0 ((g10, .cells (fC s Av nv cv sf) 51) :: (Hf 8 ++ (((d, rO m (.slice (some ad) n c)) :: (hrw ++ ((bx, .cells (fC s Av nv cv sf) 51) :: F))) ++ R))) w1 := hH.perm (by classical rw [List.perm_iff_count]; intro a; simp only [List.count_append, List.count_cons, List.count_nil] <;> omega)
            obtain ⟨v8, h8, w8, r1, r2, r3⟩ := app_f e8 (hH2.perm (k := Hf 8 ++ ((g10, .cells (fC s Av nv cv sf) 51) :: (((d, rO m (.slice (some ad) n c)) :: (hrw ++ ((bx, .cells (fC s Av nv cv sf) 51) :: F))) ++ R))) (by classical rw [List.perm_iff_count]; intro a; simp only [List.count_append, List.count_cons, List.count_nil] <;> omega)) (some ⟨g10, 0, none⟩) 1 1 (fun h => by cases h) (fC s Av nv cv sf).toList (reads_f hH2) (by simp [fC, Value.oneCell']) (by omega)
            refine wpA (.tmp 35) (.tmp 37) rfl rfl rfl r1 ?_
            exact OwnBy.mk _ h8 _ rfl rfl r2 ((r3.perm (k := (g10, .cells (fC s Av nv cv sf) 51) :: (((d, rO m (.slice (some ad) n c)) :: (hrw ++ ((bx, .cells (fC s Av nv cv sf) 51) :: F))) ++ (h8 ++ R))) (by classical rw [List.perm_iff_count]; intro a; simp only [List.count_append, List.count_cons, List.count_nil] <;> omega)).tail)
          | 12, _ =>
            obtain rfl := Option.some.inj ho
            clear hd ho
            have hH : Holds w0 (hs ++ ([] ++ R)) w1 := hH
            rw [show hs = ((d, rO m (.slice (some ad) n c)) :: (hrw ++ ((bx, .cells (fC s Av nv cv sf) 51) :: F))) from hI] at hH
            clear hI
            unfold wpOp
            refine Or.inl ?_
            unfold Oper.wp
            go_simp
            exact OwnBy.mk _ _ _ rfl (rfl) (⟨rfl, rfl⟩) (hH)
          | 13, _ =>
            obtain rfl := Option.some.inj ho
            have e12 : f 12 = .pointer (some ⟨d, 0, none⟩) := (hd ⟨12, .data⟩ (by simp) rfl).2.1
            clear hd ho
            have hH : Holds w0 (hs ++ ([] ++ R)) w1 := hH
            rw [show hs = ((d, rO m (.slice (some ad) n c)) :: (hrw ++ ((bx, .cells (fC s Av nv cv sf) 51) :: F))) from hI] at hH
            clear hI
            unfold wpOp
            refine Or.inl ?_
            simp only [e12]
            unfold Oper.wp
            go_simp
            exact OwnBy.mk _ _ _ rfl (rfl) (⟨rfl, rfl⟩) (hH)
          | 14, _ =>
            obtain rfl := Option.some.inj ho
            have e13 : f 13 = .pointer (some ⟨d, 0, none⟩) := (hd ⟨13, .data⟩ (by simp) rfl).2.1
            clear hd ho
            have hH : Holds w0 (hs ++ ([] ++ R)) w1 := hH
            rw [show hs = ((d, rO m (.slice (some ad) n c)) :: (hrw ++ ((bx, .cells (fC s Av nv cv sf) 51) :: F))) from hI] at hH
            clear hI
            unfold wpOp
            refine Or.inl ?_
            simp only [e13]
            unfold Oper.wp
            go_simp
            exact OwnBy.mk _ _ _ rfl (rfl) (⟨rfl, rfl⟩) (hH)
          | 15, _ =>
            obtain rfl := Option.some.inj ho
            have e14 : f 14 = .pointer (some ⟨d, 1, none⟩) := (hd ⟨14, .data⟩ (by simp) rfl).2.1
            clear hd ho
            have hH : Holds w0 (hs ++ ([] ++ R)) w1 := hH
            rw [show hs = ((d, rO m (.slice (some ad) n c)) :: (hrw ++ ((bx, .cells (fC s Av nv cv sf) 51) :: F))) from hI] at hH
            clear hI
            unfold wpOp
            refine Or.inl ?_
            simp only [e14]
            unfold Oper.wp
            have q : w1.cell? ⟨d, 1, none⟩ = some (.slice (some ad) n c) := Holds.cell hH 1
            go_simp
            exact OwnBy.mk _ _ _ rfl (rfl) (⟨rfl, rfl⟩) (hH)
          | 16, _ =>
            obtain rfl := Option.some.inj ho
            clear hd ho
            have hH : Holds w0 (hs ++ ([] ++ R)) w1 := hH
            rw [show hs = ((d, rO m (.slice (some ad) n c)) :: (hrw ++ ((bx, .cells (fC s Av nv cv sf) 51) :: F))) from hI] at hH
            clear hI
            unfold wpOp
            refine Or.inl ?_
            unfold Oper.wp
            go_simp
            exact OwnBy.mk _ _ _ rfl (rfl) (⟨rfl, rfl⟩) (hH)
          | 17, _ =>
            obtain rfl := Option.some.inj ho
            have e15 : f 15 = .slice (some ad) n c := (hd ⟨15, .data⟩ (by simp) rfl).2.1
            have e16 : f 16 = .int .i64 (k : Nat) := (hd ⟨16, .data⟩ (by simp) rfl).2.1
            clear hd ho
            have hH : Holds w0 (hs ++ ([] ++ R)) w1 := hH
            rw [show hs = ((d, rO m (.slice (some ad) n c)) :: (hrw ++ ((bx, .cells (fC s Av nv cv sf) 51) :: F))) from hI] at hH
            clear hI
            unfold wpOp
            refine Or.inl ?_
            simp only [e15, e16]
            unfold Oper.wp
            have hcut := cutLo Try.underlying44 sz51 (some ad) n c k (by omega) (by omega) w1
            rw [← HDA.out] at hcut
            go_simp
            exact OwnBy.mk _ _ _ rfl (rfl) (⟨rfl, rfl⟩) (hH)
          | 18, _ =>
            obtain rfl := Option.some.inj ho
            have e11 := (hd ⟨11, .data⟩ (by simp) rfl).2
            have e17 : f 17 = .slice DA (n - k) (c - k) := (hd ⟨17, .data⟩ (by simp) rfl).2.1
            clear hd ho
            have hH : Holds w0 (hs ++ ((Hf 11 ++ ([])) ++ R)) w1 := hH
            simp only [List.append_nil, List.append_assoc] at hH
            rw [show hs = ((d, rO m (.slice (some ad) n c)) :: (hrw ++ ((bx, .cells (fC s Av nv cv sf) 51) :: F))) from hI] at hH
            clear hI
            unfold wpOp
            refine Or.inl ?_
            simp only [e17]
            unfold Oper.wp
            obtain ⟨A0, c0, hv0, _, _, hrd⟩ := HR.out.reads (hH.perm (k := hrw ++ (((d, rO m (.slice (some ad) n c)) :: ((bx, .cells (fC s Av nv cv sf) 51) :: F)) ++ (Hf 11 ++ R))) (by classical rw [List.perm_iff_count]; intro a; simp only [List.count_append, List.count_cons, List.count_nil] <;> omega))
            injection hv0 with hv0 _ hv0c
            subst hv0
            subst hv0c
            obtain ⟨v8, h8, w8, r1, r2, r3⟩ := app_f e11 (hH.perm (k := Hf 11 ++ (((d, rO m (.slice (some ad) n c)) :: (hrw ++ ((bx, .cells (fC s Av nv cv sf) 51) :: F))) ++ R)) (by classical rw [List.perm_iff_count]; intro a; simp only [List.count_append, List.count_cons, List.count_nil] <;> omega)) (DA) (n - k) (c - k) (HDN.out) (vs.drop (k * 3)) ((by rw [HDA.out]; exact hrd.drop (by omega) (by omega))) (oc_drop HOC.out) (by omega)
            try simp only [Nat.zero_add, List.nil_append] at r2
            refine wpA (.tmp 38) (.tmp 44) rfl rfl rfl r1 ?_
            exact OwnBy.mk _ h8 _ rfl rfl r2 (r3.perm (by classical rw [List.perm_iff_count]; intro a; simp only [List.count_append, List.count_cons, List.count_nil] <;> omega))
          | _ + 19, h19 => exact absurd h19 (by omega)
        · intro Ls f Hf hs w1 hI hL hV hH
          have e0 : f 0 = .pointer (some ⟨d, 0, none⟩) := (hV 0 (by decide)).1
          have e1 := hV 1 (by decide)
          have e2 : f 2 = .pointer (some ⟨d, 0, none⟩) := (hV 2 (by decide)).1
          have e3 : f 3 = .pointer (some ⟨d, 0, none⟩) := (hV 3 (by decide)).1
          have e4 : f 4 = .pointer (some ⟨d, 1, none⟩) := (hV 4 (by decide)).1
          have e5 : f 5 = .slice (some ad) n c := (hV 5 (by decide)).1
          have e6 : f 6 = .int .i64 (k : Nat) := (hV 6 (by decide)).1
          have e7 : f 7 = .slice (some ad) k c := (hV 7 (by decide)).1
          have e8 := hV 8 (by decide)
          have e9 : f 9 = Value.agg (fC s Av nv cv sf) := (hV 9 (by decide)).1
          have e10 := hV 10 (by decide)
          obtain ⟨g10, e10, q10⟩ := e10
          have e11 := hV 11 (by decide)
          have e12 : f 12 = .pointer (some ⟨d, 0, none⟩) := (hV 12 (by decide)).1
          have e13 : f 13 = .pointer (some ⟨d, 0, none⟩) := (hV 13 (by decide)).1
          have e14 : f 14 = .pointer (some ⟨d, 1, none⟩) := (hV 14 (by decide)).1
          have e15 : f 15 = .slice (some ad) n c := (hV 15 (by decide)).1
          have e16 : f 16 = .int .i64 (k : Nat) := (hV 16 (by decide)).1
          have e17 : f 17 = .slice DA (n - k) (c - k) := (hV 17 (by decide)).1
          have e18 := hV 18 (by decide)
          clear hV
          have hH : Holds w0 (hs ++ (Hf 18 ++ [])) w1 := hH
          simp only [List.append_nil, List.append_assoc] at hH
          simp only [fill, List.take_succ_cons, List.take_zero, List.drop_succ_cons, List.drop_zero, Act.put, List.setIfInBounds_toArray, List.set_cons_zero, List.set_cons_succ, e0, e2, e3, e4, e5, e6, e7, e9, e10, e12, e13, e14, e15, e16, e17]
          rw [show hs = ((d, rO m (.slice (some ad) n c)) :: (hrw ++ ((bx, .cells (fC s Av nv cv sf) 51) :: F))) from hI] at hH
          clear hI
          obtain ⟨A8, c8, hv8, _, _⟩ := RowB.form e18
          have en : k + 1 + (n - k) = n + 1 := by omega
          rw [hv8] at e18 ⊢
          rw [en] at e18 ⊢
          have H9 : Holds w0 ((d, rO m (.slice (some ad) n c)) :: (Hf 18 ++ F ++ (hrw ++ [(bx, .cells (fC s Av nv cv sf) 51)]))) w1 := hH.perm (by classical rw [List.perm_iff_count]; intro a; simp only [List.count_append, List.count_cons, List.count_nil] <;> omega)
          have q2 : w1.cell? ⟨d, 1, none⟩ = some (.slice (some ad) n c) := H9.cell 1
          have q3 : w1.frozen? ⟨d, 1, none⟩ = false := H9.froz 1
          have HNN := Lib.hid (show Holds w0 ((d, rO m (.slice A8 (n + 1) c8)) :: (Hf 18 ++ F ++ (hrw ++ [(bx, .cells (fC s Av nv cv sf) 51)]))) _ from H9.set 1 (.slice A8 (n + 1) c8))
          have HR8 := Lib.hid e18
          clear hL hH H9 hv8
          go_wp2_with fail
          refine bodyPost_end (v := .tuple #[]) (by simp [results, Try.results38, go_sem]) rfl ?_
          exact ⟨rfl, .slice A8 (n + 1) c8, Hf 18, by rw [← HPE.out]; simpa only [List.append_assoc] using HR8.out, (HNN.out.perm (k := ((d, rO m (.slice A8 (n + 1) c8)) :: (Hf 18 ++ F)) ++ (hrw ++ [(bx, .cells (fC s Av nv cv sf) 51)])) (by classical rw [List.perm_iff_count]; intro a; simp only [List.count_append, List.count_cons, List.count_nil] <;> omega)).left⟩
      · have hkP : k < Pn := by
          rcases Nat.lt_or_ge k Pn with h | h
          · exact h
          · obtain rfl : k = Pn := by omega
            have := HPH.out y hy; rw [hc] at this; cases this
        have HLT := Lib.hid hc
        clear hy hc
        go_wp2_with fail
        refine region_quiet_lit (C := fun w' => Below wr.heap.size wr w') (by kernel_rfl) (by kernel_rfl) (Below.refl _ _).drew ?_
        go_big_quiet_step (exact fun _ => rfl)
        go_big_quiet_step (exact fun _ => rfl)
        go_big_quiet_step (exact fun _ => rfl)
        go_big_quiet_step (exact fun _ => rfl)
        refine BigFrame.wpQuiet_want rfl (fun K hK => ?_)
        refine quiet_val (.slice (some ad) n c) (fun w2 hw => by have q := HC1.out w2 hw; simp [go_sem, q]) (hK _ ?_)
        clear hK K
        simp only [Act.put, List.setIfInBounds_toArray, List.set_cons_zero, List.set_cons_succ]
        go_big_quiet_step (exact fun _ => rfl)
        go_big_quiet_step (exact fun _ => rfl)
        go_big_quiet_step (exact fun _ => rfl)
        go_big_quiet_step (exact fun _ => rfl)
        go_big_quiet_step (exact fun _ => rfl)
        go_big_quiet_step (exact fun _ => rfl)
        refine BigFrame.wpQuiet_want rfl (fun K hK => ?_)
        refine quiet_val (.slice (some ad) n c) (fun w2 hw => by have q := HC1.out w2 hw; simp [go_sem, q]) (hK _ ?_)
        clear hK K
        simp only [Act.put, List.setIfInBounds_toArray, List.set_cons_zero, List.set_cons_succ]
        go_big_quiet_step (exact fun _ => rfl)
        go_big_quiet_step (exact fun _ => rfl)
        go_big_quiet_step (exact fun _ => rfl)
        refine BigFrame.wpQuiet_want rfl (fun K hK => ?_)
        refine quiet_val (.string y.1) (fun w2 hw => by have q := HY.out w2 hw; simp [go_sem, q]) (hK _ ?_)
        clear hK K
        simp only [Act.put, List.setIfInBounds_toArray, List.set_cons_zero, List.set_cons_succ]
        go_big_quiet_step (exact fun _ => rfl)
        refine BigFrame.wpQuiet_want rfl (fun K hK => ?_)
        refine quiet_val (.string s) (fun w2 hw => by have q := HS0.out w2 hw; simp [go_sem, q]) (hK _ ?_)
        clear hK K
        simp only [Act.put, List.setIfInBounds_toArray, List.set_cons_zero, List.set_cons_succ]
        refine BigFrame.wpQuiet_want rfl (fun K hK => ?_)
        refine quiet_val (.bool true) (fun w2 hw => by have q := HLT.out; unfold ltS at q; simp [go_sem, q]) (hK _ ?_)
        clear hK K
        simp only [Act.put, List.setIfInBounds_toArray, List.set_cons_zero, List.set_cons_succ]
        go_big_quiet_step (exact fun _ => rfl)
        refine wpQuiet_nil ?_
        intro w4 hw4
        go_wp2_with fail
        go_roundw
        case rel => exact ⟨k + 1, by omega, by go_num, HH2.out.grow hw4⟩
        case measure => simp [intOf]; omega
    · obtain rfl : n = k := by omega
      obtain rfl : n = Pn := by omega
      go_wp2_with fail
      refine region_quiet_lit (C := fun w' => Below wr.heap.size wr w') (by kernel_rfl) (by kernel_rfl) (Below.refl _ _).drew ?_
      go_big_quiet_step (exact fun _ => rfl)
      go_big_quiet_step (exact fun _ => rfl)
      go_big_quiet_step (exact fun _ => rfl)
      go_big_quiet_step (exact fun _ => rfl)
      refine BigFrame.wpQuiet_want rfl (fun K hK => ?_)
      refine quiet_val (.slice A n c) (fun w2 hw => by have q := HC1.out w2 hw; simp [go_sem, q]) (hK _ ?_)
      clear hK K
      simp only [Act.put, List.setIfInBounds_toArray, List.set_cons_zero, List.set_cons_succ]
      go_big_quiet_step (exact fun _ => rfl)
      go_big_quiet_step (exact fun _ => rfl)
      go_big_quiet_step (exact fun _ => rfl)
      go_big_quiet_skip
      go_big_quiet_skip
      go_big_quiet_skip
      go_big_quiet_skip
      go_big_quiet_skip
      go_big_quiet_skip
      go_big_quiet_skip
      go_big_quiet_skip
      go_big_quiet_skip
      go_big_quiet_skip
      go_big_quiet_skip
      go_big_quiet_step (exact fun _ => rfl)
      refine wpQuiet_nil ?_
      intro w4 hw4
      have HH4 := Lib.hid (HH2.out.grow hw4)
      clear hw4
      go_wp2_with fail
      have HPE := Lib.hid (show n = posS L s from HP.out)
      obtain ⟨DA, hDA⟩ : ∃ DA, DA = (if c = n then A else A.map fun a => a.add (n * 3)) := ⟨_, rfl⟩
      have HDA := Lib.hid hDA
      have HDN := Lib.hid (show DA = none → c - n = 0 by rw [hDA]; exact cut_none HBN.out)
      clear hDA
      refine wp_region_own 19 (fun k => match k with | 8 => [1] | 11 => [8, 10] | 18 => [11] | 19 => [18] | _ => []) (by kernel_rfl) (by kernel_rfl) (by kernel_rfl) (by kernel_rfl) (Nat.le_of_ble_eq_true (by kernel_rfl)) w0 (fun Ls hs => hs = ((d, rO m (.slice A n c)) :: (hrw ++ ((bx, .cells (fC s Av nv cv sf) 51) :: F)))) (fun i v h => match i with | 0 => v = .pointer (some ⟨d, 0, none⟩) ∧ h = [] | 1 => RowB 51 3 v 0 [] h | 2 => v = .pointer (some ⟨d, 0, none⟩) ∧ h = [] | 3 => v = .pointer (some ⟨d, 0, none⟩) ∧ h = [] | 4 => v = .pointer (some ⟨d, 1, none⟩) ∧ h = [] | 5 => v = .slice A n c ∧ h = [] | 6 => v = .int .i64 (n : Nat) ∧ h = [] | 7 => v = .slice A n c ∧ h = [] | 8 => RowB 51 3 v n (vs.take (n * 3)) h | 9 => v = Value.agg (fC s Av nv cv sf) ∧ h = [] | 10 => ∃ g, v = .slice (some ⟨g, 0, none⟩) 1 1 ∧ h = [(g, .cells (fC s Av nv cv sf) 51)] | 11 => RowB 51 3 v (n + 1) (vs.take (n * 3) ++ (fC s Av nv cv sf).toList) h | 12 => v = .pointer (some ⟨d, 0, none⟩) ∧ h = [] | 13 => v = .pointer (some ⟨d, 0, none⟩) ∧ h = [] | 14 => v = .pointer (some ⟨d, 1, none⟩) ∧ h = [] | 15 => v = .slice A n c ∧ h = [] | 16 => v = .int .i64 (n : Nat) ∧ h = [] | 17 => v = .slice DA (n - n) (c - n) ∧ h = [] | 18 => RowB 51 3 v (n + 1 + (n - n)) (vs.take (n * 3) ++ (fC s Av nv cv sf).toList ++ vs.drop (n * 3)) h | _ => True) (((d, rO m (.slice A n c)) :: (hrw ++ ((bx, .cells (fC s Av nv cv sf) 51) :: F)))) (rfl) (HH4.out.drew) ?_ ?_
      · intro i o hi ho Ls f Hf hs R w1 hI hL hd hH
        simp only [fill, List.take_succ_cons, List.take_zero, Act.put, List.setIfInBounds_toArray, List.set_cons_zero, List.set_cons_succ]
        match i, hi with
        | 0, _ =>
          obtain rfl := Option.some.inj ho
          clear hd ho
          have hH : Holds w0 (hs ++ ([] ++ R)) w1 := hH
          rw [show hs = ((d, rO m (.slice A n c)) :: (hrw ++ ((bx, .cells (fC s Av nv cv sf) 51) :: F))) from hI] at hH
          clear hI
          unfold wpOp
          refine Or.inl ?_
          unfold Oper.wp
          go_simp
          exact OwnBy.mk _ _ _ rfl (rfl) (⟨rfl, rfl⟩) (hH)
        | 1, _ =>
          obtain rfl := Option.some.inj ho
          clear hd ho
          have hH : Holds w0 (hs ++ ([] ++ R)) w1 := hH
          rw [show hs = ((d, rO m (.slice A n c)) :: (hrw ++ ((bx, .cells (fC s Av nv cv sf) 51) :: F))) from hI] at hH
          clear hI
          unfold wpOp
          refine Or.inl ?_
          unfold Oper.wp
          go_simp
          exact OwnBy.mk _ [(w1.heap.size, .cells #[] 51)] _ rfl rfl (RowB.lit hH #[] 0 (by decide) rfl) ((hH.alloc (.cells #[] 51)).perm (by classical rw [List.perm_iff_count]; intro a; simp only [List.count_append, List.count_cons, List.count_nil] <;> omega))
        | 2, _ =>
          obtain rfl := Option.some.inj ho
          clear hd ho
          have hH : Holds w0 (hs ++ ([] ++ R)) w1 := hH
          rw [show hs = ((d, rO m (.slice A n c)) :: (hrw ++ ((bx, .cells (fC s Av nv cv sf) 51) :: F))) from hI] at hH
          clear hI
          unfold wpOp
          refine Or.inl ?_
          unfold Oper.wp
          go_simp
          exact OwnBy.mk _ _ _ rfl (rfl) (⟨rfl, rfl⟩) (hH)
        | 3, _ =>
          obtain rfl := Option.some.inj ho
          have e2 : f 2 = .pointer (some ⟨d, 0, none⟩) := (hd ⟨2, .data⟩ (by simp) rfl).2.1
          clear hd ho
          have hH : Holds w0 (hs ++ ([] ++ R)) w1 := hH
          rw [show hs = ((d, rO m (.slice A n c)) :: (hrw ++ ((bx, .cells (fC s Av nv cv sf) 51) :: F))) from hI] at hH
          clear hI
          unfold wpOp
          refine Or.inl ?_
          simp only [e2]
          unfold Oper.wp
          go_simp
          exact OwnBy.mk _ _ _ rfl (rfl) (⟨rfl, rfl⟩) (hH)
        | 4, _ =>
          obtain rfl := Option.some.inj ho
          have e3 : f 3 = .pointer (some ⟨d, 0, none⟩) := (hd ⟨3, .data⟩ (by simp) rfl).2.1
          clear hd ho
          have hH : Holds w0 (hs ++ ([] ++ R)) w1 := hH
          rw [show hs = ((d, rO m (.slice A n c)) :: (hrw ++ ((bx, .cells (fC s Av nv cv sf) 51) :: F))) from hI] at hH
          clear hI
          unfold wpOp
          refine Or.inl ?_
          simp only [e3]
          unfold Oper.wp
          go_simp
          exact OwnBy.mk _ _ _ rfl (rfl) (⟨rfl, rfl⟩) (hH)
        | 5, _ =>
          obtain rfl := Option.some.inj ho
          have e4 : f 4 = .pointer (some ⟨d, 1, none⟩) := (hd ⟨4, .data⟩ (by simp) rfl).2.1
          clear hd ho
          have hH : Holds w0 (hs ++ ([] ++ R)) w1 := hH
          rw [show hs = ((d, rO m (.slice A n c)) :: (hrw ++ ((bx, .cells (fC s Av nv cv sf) 51) :: F))) from hI] at hH
          clear hI
          unfold wpOp
          refine Or.inl ?_
          simp only [e4]
          unfold Oper.wp
          have q : w1.cell? ⟨d, 1, none⟩ = some (.slice A n c) := Holds.cell hH 1
          go_simp
          exact OwnBy.mk _ _ _ rfl (rfl) (⟨rfl, rfl⟩) (hH)
        | 6, _ =>
          obtain rfl := Option.some.inj ho
          clear hd ho
          have hH : Holds w0 (hs ++ ([] ++ R)) w1 := hH
          rw [show hs = ((d, rO m (.slice A n c)) :: (hrw ++ ((bx, .cells (fC s Av nv cv sf) 51) :: F))) from hI] at hH
          clear hI
          unfold wpOp
          refine Or.inl ?_
          unfold Oper.wp
          go_simp
          exact OwnBy.mk _ _ _ rfl (rfl) (⟨rfl, rfl⟩) (hH)
        | 7, _ =>
          obtain rfl := Option.some.inj ho
          have e5 : f 5 = .slice A n c := (hd ⟨5, .data⟩ (by simp) rfl).2.1
          have e6 : f 6 = .int .i64 (n : Nat) := (hd ⟨6, .data⟩ (by simp) rfl).2.1
          clear hd ho
          have hH : Holds w0 (hs ++ ([] ++ R)) w1 := hH
          rw [show hs = ((d, rO m (.slice A n c)) :: (hrw ++ ((bx, .cells (fC s Av nv cv sf) 51) :: F))) from hI] at hH
          clear hI
          unfold wpOp
          refine Or.inl ?_
          simp only [e5, e6]
          unfold Oper.wp
          have hcut := cutHi Try.underlying44 sz51 A n c n (by omega) (by omega) w1
          go_simp
          exact OwnBy.mk _ _ _ rfl (rfl) (⟨rfl, rfl⟩) (hH)
        | 8, _ =>
          obtain rfl := Option.some.inj ho
          have e1 := (hd ⟨1, .data⟩ (by simp) rfl).2
          have e7 : f 7 = .slice A n c := (hd ⟨7, .data⟩ (by simp) rfl).2.1
          clear hd ho
          have hH : Holds w0 (hs ++ ((Hf 1 ++ ([])) ++ R)) w1 := hH
          simp only [List.append_nil, List.append_assoc] at hH
          rw [show hs = ((d, rO m (.slice A n c)) :: (hrw ++ ((bx, .cells (fC s Av nv cv sf) 51) :: F))) from hI] at hH
          clear hI
          unfold wpOp
          refine Or.inl ?_
          simp only [e7]
          unfold Oper.wp
          obtain ⟨A0, c0, hv0, _, _, hrd⟩ := HR.out.reads (hH.perm (k := hrw ++ (((d, rO m (.slice A n c)) :: ((bx, .cells (fC s Av nv cv sf) 51) :: F)) ++ (Hf 1 ++ R))) (by classical rw [List.perm_iff_count]; intro a; simp only [List.count_append, List.count_cons, List.count_nil] <;> omega))
          injection hv0 with hv0 _ hv0c
          subst hv0
          subst hv0c
          obtain ⟨v8, h8, w8, r1, r2, r3⟩ := app_f e1 (hH.perm (k := Hf 1 ++ (((d, rO m (.slice A n c)) :: (hrw ++ ((bx, .cells (fC s Av nv cv sf) 51) :: F))) ++ R)) (by classical rw [List.perm_iff_count]; intro a; simp only [List.count_append, List.count_cons, List.count_nil] <;> omega)) (A) (n) (c) (HBN.out) (vs.take (n * 3)) (hrd.take (by omega)) (oc_take HOC.out) (by omega)
          try simp only [Nat.zero_add, List.nil_append] at r2
          refine wpA (.tmp 28) (.tmp 34) rfl rfl rfl r1 ?_
          exact OwnBy.mk _ h8 _ rfl rfl r2 (r3.perm (by classical rw [List.perm_iff_count]; intro a; simp only [List.count_append, List.count_cons, List.count_nil] <;> omega))
        | 9, _ =>
          obtain rfl := Option.some.inj ho
          clear hd ho
          have hH : Holds w0 (hs ++ ([] ++ R)) w1 := hH
          rw [show hs = ((d, rO m (.slice A n c)) :: (hrw ++ ((bx, .cells (fC s Av nv cv sf) 51) :: F))) from hI] at hH
          clear hI
          unfold wpOp
          refine Or.inl ?_
          unfold Oper.wp
          refine wpF (.tmp 3) bx rfl rfl (ldFr (hH.perm (k := (bx, .cells (fC s Av nv cv sf) 51) :: (((d, rO m (.slice A n c)) :: (hrw ++ F)) ++ R)) (by classical rw [List.perm_iff_count]; intro a; simp only [List.count_append, List.count_cons, List.count_nil] <;> omega)).get) ?_
          exact OwnBy.mk _ _ _ rfl (rfl) (⟨rfl, rfl⟩) (hH)
        | 10, _ =>
          obtain rfl := Option.some.inj ho
          have e9 : f 9 = Value.agg (fC s Av nv cv sf) := (hd ⟨9, .data⟩ (by simp) rfl).2.1
          clear hd ho
          have hH : Holds w0 (hs ++ ([] ++ R)) w1 := hH
          rw [show hs = ((d, rO m (.slice A n c)) :: (hrw ++ ((bx, .cells (fC s Av nv cv sf) 51) :: F))) from hI] at hH
          clear hI
          unfold wpOp
          refine Or.inl ?_
          simp only [e9]
          unfold Oper.wp
          have hH3 : Holds w0 (((d, rO m (.slice A n c)) :: (hrw ++ ((bx, .cells (fC s Av nv cv sf) 51) :: F))) ++ ([(w1.heap.size, .cells (fC s Av nv cv sf) 51)] ++ R)) (w1.alloc (.cells (fC s Av nv cv sf) 51)) := (hH.alloc (.cells (fC s Av nv cv sf) 51)).perm (by classical rw [List.perm_iff_count]; intro a; simp only [List.count_append, List.count_cons, List.count_nil] <;> omega)
          unfold fC
          go_simp
          exact OwnBy.mk _ [(w1.heap.size, .cells (fC s Av nv cv sf) 51)] _ rfl rfl ⟨w1.heap.size, rfl, rfl⟩ hH3
        | 11, _ =>
          obtain rfl := Option.some.inj ho
          have e8 := (hd ⟨8, .data⟩ (by simp) rfl).2
          have e10 := (hd ⟨10, .data⟩ (by simp) rfl).2
          obtain ⟨g10, e10, q10⟩ := e10
          clear hd ho
          have hH : Holds w0 (hs ++ ((Hf 8 ++ (Hf 10 ++ ([]))) ++ R)) w1 := hH
          simp only [q10, List.append_nil, List.append_assoc] at hH
          rw [show hs = ((d, rO m (.slice A n c)) :: (hrw ++ ((bx, .cells (fC s Av nv cv sf) 51) :: F))) from hI] at hH
          clear hI
          unfold wpOp
          refine Or.inl ?_
          simp only [e10]
          unfold Oper.wp
          have hH2 : Holds w0 ((g10, .cells (fC s Av nv cv sf) 51) :: (Hf 8 ++ (((d, rO m (.slice A n c)) :: (hrw ++ ((bx, .cells (fC s Av nv cv sf) 51) :: F))) ++ R))) w1 := hH.perm (by classical rw [List.perm_iff_count]; intro a; simp only [List.count_append, List.count_cons, List.count_nil] <;> omega)
          obtain ⟨v8, h8, w8, r1, r2, r3⟩ := app_f e8 (hH2.perm (k := Hf 8 ++ ((g10, .cells (fC s Av nv cv sf) 51) :: (((d, rO m (.slice A n c)) :: (hrw ++ ((bx, .cells (fC s Av nv cv sf) 51) :: F))) ++ R))) (by classical rw [List.perm_iff_count]; intro a; simp only [List.count_append, List.count_cons, List.count_nil] <;> omega)) (some ⟨g10, 0, none⟩) 1 1 (fun h => by cases h) (fC s Av nv cv sf).toList (reads_f hH2) (by simp [fC, Value.oneCell']) (by omega)
          refine wpA (.tmp 35) (.tmp 37) rfl rfl rfl r1 ?_
          exact OwnBy.mk _ h8 _ rfl rfl r2 ((r3.perm (k := (g10, .cells (fC s Av nv cv sf) 51) :: (((d, rO m (.slice A n c)) :: (hrw ++ ((bx, .cells (fC s Av nv cv sf) 51) :: F))) ++ (h8 ++ R))) (by classical rw [List.perm_iff_count]; intro a; simp only [List.count_append, List.count_cons, List.count_nil] <;> omega)).tail)
        | 12, _ =>
          obtain rfl := Option.some.inj ho
          clear hd ho
          have hH : Holds w0 (hs ++ ([] ++ R)) w1 := hH
          rw [show hs = ((d, rO m (.slice A n c)) :: (hrw ++ ((bx, .cells (fC s Av nv cv sf) 51) :: F))) from hI] at hH
          clear hI
          unfold wpOp
          refine Or.inl ?_
          unfold Oper.wp
          go_simp
          exact OwnBy.mk _ _ _ rfl (rfl) (⟨rfl, rfl⟩) (hH)
        | 13, _ =>
          obtain rfl := Option.some.inj ho
          have e12 : f 12 = .pointer (some ⟨d, 0, none⟩) := (hd ⟨12, .data⟩ (by simp) rfl).2.1
          clear hd ho
          have hH : Holds w0 (hs ++ ([] ++ R)) w1 := hH
          rw [show hs = ((d, rO m (.slice A n c)) :: (hrw ++ ((bx, .cells (fC s Av nv cv sf) 51) :: F))) from hI] at hH
          clear hI
          unfold wpOp
          refine Or.inl ?_
          simp only [e12]
          unfold Oper.wp
          go_simp
          exact OwnBy.mk _ _ _ rfl (rfl) (⟨rfl, rfl⟩) (hH)
        | 14, _ =>
          obtain rfl := Option.some.inj ho
          have e13 : f 13 = .pointer (some ⟨d, 0, none⟩) := (hd ⟨13, .data⟩ (by simp) rfl).2.1
          clear hd ho
          have hH : Holds w0 (hs ++ ([] ++ R)) w1 := hH
          rw [show hs = ((d, rO m (.slice A n c)) :: (hrw ++ ((bx, .cells (fC s Av nv cv sf) 51) :: F))) from hI] at hH
          clear hI
          unfold wpOp
          refine Or.inl ?_
          simp only [e13]
          unfold Oper.wp
          go_simp
          exact OwnBy.mk _ _ _ rfl (rfl) (⟨rfl, rfl⟩) (hH)
        | 15, _ =>
          obtain rfl := Option.some.inj ho
          have e14 : f 14 = .pointer (some ⟨d, 1, none⟩) := (hd ⟨14, .data⟩ (by simp) rfl).2.1
          clear hd ho
          have hH : Holds w0 (hs ++ ([] ++ R)) w1 := hH
          rw [show hs = ((d, rO m (.slice A n c)) :: (hrw ++ ((bx, .cells (fC s Av nv cv sf) 51) :: F))) from hI] at hH
          clear hI
          unfold wpOp
          refine Or.inl ?_
          simp only [e14]
          unfold Oper.wp
          have q : w1.cell? ⟨d, 1, none⟩ = some (.slice A n c) := Holds.cell hH 1
          go_simp
          exact OwnBy.mk _ _ _ rfl (rfl) (⟨rfl, rfl⟩) (hH)
        | 16, _ =>
          obtain rfl := Option.some.inj ho
          clear hd ho
          have hH : Holds w0 (hs ++ ([] ++ R)) w1 := hH
          rw [show hs = ((d, rO m (.slice A n c)) :: (hrw ++ ((bx, .cells (fC s Av nv cv sf) 51) :: F))) from hI] at hH
          clear hI
          unfold wpOp
          refine Or.inl ?_
          unfold Oper.wp
          go_simp
          exact OwnBy.mk _ _ _ rfl (rfl) (⟨rfl, rfl⟩) (hH)
        | 17, _ =>
          obtain rfl := Option.some.inj ho
          have e15 : f 15 = .slice A n c := (hd ⟨15, .data⟩ (by simp) rfl).2.1
          have e16 : f 16 = .int .i64 (n : Nat) := (hd ⟨16, .data⟩ (by simp) rfl).2.1
          clear hd ho
          have hH : Holds w0 (hs ++ ([] ++ R)) w1 := hH
          rw [show hs = ((d, rO m (.slice A n c)) :: (hrw ++ ((bx, .cells (fC s Av nv cv sf) 51) :: F))) from hI] at hH
          clear hI
          unfold wpOp
          refine Or.inl ?_
          simp only [e15, e16]
          unfold Oper.wp
          have hcut := cutLo Try.underlying44 sz51 A n c n (by omega) (by omega) w1
          rw [← HDA.out] at hcut
          go_simp
          exact OwnBy.mk _ _ _ rfl (rfl) (⟨rfl, rfl⟩) (hH)
        | 18, _ =>
          obtain rfl := Option.some.inj ho
          have e11 := (hd ⟨11, .data⟩ (by simp) rfl).2
          have e17 : f 17 = .slice DA (n - n) (c - n) := (hd ⟨17, .data⟩ (by simp) rfl).2.1
          clear hd ho
          have hH : Holds w0 (hs ++ ((Hf 11 ++ ([])) ++ R)) w1 := hH
          simp only [List.append_nil, List.append_assoc] at hH
          rw [show hs = ((d, rO m (.slice A n c)) :: (hrw ++ ((bx, .cells (fC s Av nv cv sf) 51) :: F))) from hI] at hH
          clear hI
          unfold wpOp
          refine Or.inl ?_
          simp only [e17]
          unfold Oper.wp
          obtain ⟨A0, c0, hv0, _, _, hrd⟩ := HR.out.reads (hH.perm (k := hrw ++ (((d, rO m (.slice A n c)) :: ((bx, .cells (fC s Av nv cv sf) 51) :: F)) ++ (Hf 11 ++ R))) (by classical rw [List.perm_iff_count]; intro a; simp only [List.count_append, List.count_cons, List.count_nil] <;> omega))
          injection hv0 with hv0 _ hv0c
          subst hv0
          subst hv0c
          obtain ⟨v8, h8, w8, r1, r2, r3⟩ := app_f e11 (hH.perm (k := Hf 11 ++ (((d, rO m (.slice A n c)) :: (hrw ++ ((bx, .cells (fC s Av nv cv sf) 51) :: F))) ++ R)) (by classical rw [List.perm_iff_count]; intro a; simp only [List.count_append, List.count_cons, List.count_nil] <;> omega)) (DA) (n - n) (c - n) (HDN.out) (vs.drop (n * 3)) ((by rw [HDA.out]; exact hrd.drop (by omega) (by omega))) (oc_drop HOC.out) (by omega)
          try simp only [Nat.zero_add, List.nil_append] at r2
          refine wpA (.tmp 38) (.tmp 44) rfl rfl rfl r1 ?_
          exact OwnBy.mk _ h8 _ rfl rfl r2 (r3.perm (by classical rw [List.perm_iff_count]; intro a; simp only [List.count_append, List.count_cons, List.count_nil] <;> omega))
        | _ + 19, h19 => exact absurd h19 (by omega)
      · intro Ls f Hf hs w1 hI hL hV hH
        have e0 : f 0 = .pointer (some ⟨d, 0, none⟩) := (hV 0 (by decide)).1
        have e1 := hV 1 (by decide)
        have e2 : f 2 = .pointer (some ⟨d, 0, none⟩) := (hV 2 (by decide)).1
        have e3 : f 3 = .pointer (some ⟨d, 0, none⟩) := (hV 3 (by decide)).1
        have e4 : f 4 = .pointer (some ⟨d, 1, none⟩) := (hV 4 (by decide)).1
        have e5 : f 5 = .slice A n c := (hV 5 (by decide)).1
        have e6 : f 6 = .int .i64 (n : Nat) := (hV 6 (by decide)).1
        have e7 : f 7 = .slice A n c := (hV 7 (by decide)).1
        have e8 := hV 8 (by decide)
        have e9 : f 9 = Value.agg (fC s Av nv cv sf) := (hV 9 (by decide)).1
        have e10 := hV 10 (by decide)
        obtain ⟨g10, e10, q10⟩ := e10
        have e11 := hV 11 (by decide)
        have e12 : f 12 = .pointer (some ⟨d, 0, none⟩) := (hV 12 (by decide)).1
        have e13 : f 13 = .pointer (some ⟨d, 0, none⟩) := (hV 13 (by decide)).1
        have e14 : f 14 = .pointer (some ⟨d, 1, none⟩) := (hV 14 (by decide)).1
        have e15 : f 15 = .slice A n c := (hV 15 (by decide)).1
        have e16 : f 16 = .int .i64 (n : Nat) := (hV 16 (by decide)).1
        have e17 : f 17 = .slice DA (n - n) (c - n) := (hV 17 (by decide)).1
        have e18 := hV 18 (by decide)
        clear hV
        have hH : Holds w0 (hs ++ (Hf 18 ++ [])) w1 := hH
        simp only [List.append_nil, List.append_assoc] at hH
        simp only [fill, List.take_succ_cons, List.take_zero, List.drop_succ_cons, List.drop_zero, Act.put, List.setIfInBounds_toArray, List.set_cons_zero, List.set_cons_succ, e0, e2, e3, e4, e5, e6, e7, e9, e10, e12, e13, e14, e15, e16, e17]
        rw [show hs = ((d, rO m (.slice A n c)) :: (hrw ++ ((bx, .cells (fC s Av nv cv sf) 51) :: F))) from hI] at hH
        clear hI
        obtain ⟨A8, c8, hv8, _, _⟩ := RowB.form e18
        have en : n + 1 + (n - n) = n + 1 := by omega
        rw [hv8] at e18 ⊢
        rw [en] at e18 ⊢
        have H9 : Holds w0 ((d, rO m (.slice A n c)) :: (Hf 18 ++ F ++ (hrw ++ [(bx, .cells (fC s Av nv cv sf) 51)]))) w1 := hH.perm (by classical rw [List.perm_iff_count]; intro a; simp only [List.count_append, List.count_cons, List.count_nil] <;> omega)
        have q2 : w1.cell? ⟨d, 1, none⟩ = some (.slice A n c) := H9.cell 1
        have q3 : w1.frozen? ⟨d, 1, none⟩ = false := H9.froz 1
        have HNN := Lib.hid (show Holds w0 ((d, rO m (.slice A8 (n + 1) c8)) :: (Hf 18 ++ F ++ (hrw ++ [(bx, .cells (fC s Av nv cv sf) 51)]))) _ from H9.set 1 (.slice A8 (n + 1) c8))
        have HR8 := Lib.hid e18
        clear hL hH H9 hv8
        go_wp2_with fail
        refine bodyPost_end (v := .tuple #[]) (by simp [results, Try.results38, go_sem]) rfl ?_
        exact ⟨rfl, .slice A8 (n + 1) c8, Hf 18, by rw [← HPE.out]; simpa only [List.append_assoc] using HR8.out, (HNN.out.perm (k := ((d, rO m (.slice A8 (n + 1) c8)) :: (Hf 18 ++ F)) ++ (hrw ++ [(bx, .cells (fC s Av nv cv sf) 51)])) (by classical rw [List.perm_iff_count]; intro a; simp only [List.count_append, List.count_cons, List.count_nil] <;> omega)).left⟩
end Go.Proofs.Ytocpelkgiebkjaa
