/- A log's Sync: a contract for every world. Conditions: the theorem's own. -/
import Derived.Test.YthgebchidkadhaaLg
namespace Go.Proofs.Ythgebchidkadhaa
open Go.RowKit Go.Proofs.Ythgebchidkadhaa.Sp
set_option linter.unusedVariables false
set_option linter.unusedSimpArgs false
def SyL (gd : Nat) (d d2 : DM) (pre F : Hp) (i : Nat) (Ls : Nat → Bool) (hs : Hp) : Prop := ∃ hd, IsD gd (if Ls i = true then d2 else d) hd ∧ hs = pre ++ (hd ++ F)
def SyPost (gl gd : Nat) (d2 : DM) (m : LM) (e1 : Int) (F : Hp) (w0 : World) (e : Ending) (w' : World) : Prop :=
  if e1 = 4 ∨ e1 = 0 then e = .returned (.int .i64 0) ∧ ∃ h', IsL gl gd { m with safe := m.recs.length } h' ∧ ∃ hd', IsD gd d2 hd' ∧ Holds w0 (h' ++ (hd' ++ F)) w'
  else e = .returned (.int .i64 e1) ∧ ∃ h', IsL gl gd { m with done := true } h' ∧ ∃ hd', IsD gd d2 hd' ∧ Holds w0 (h' ++ (hd' ++ F)) w'
theorem SyPost.yes {gl gd : Nat} {d2 : DM} {m : LM} {e1 : Int} {F h' hd' : Hp} {w0 w' : World} {e : Ending} (h : e1 = 4 ∨ e1 = 0) (he : e = .returned (.int .i64 0)) (hI : IsL gl gd { m with safe := m.recs.length } h') (hD : IsD gd d2 hd') (H : Holds w0 (h' ++ (hd' ++ F)) w') : SyPost gl gd d2 m e1 F w0 e w' := by
  unfold SyPost
  rw [if_pos h]
  exact ⟨he, h', hI, hd', hD, H⟩
theorem SyPost.no {gl gd : Nat} {d2 : DM} {m : LM} {e1 : Int} {F h' hd' : Hp} {w0 w' : World} {e : Ending} (h : ¬ (e1 = 4 ∨ e1 = 0)) (he : e = .returned (.int .i64 e1)) (hI : IsL gl gd { m with done := true } h') (hD : IsD gd d2 hd') (H : Holds w0 (h' ++ (hd' ++ F)) w') : SyPost gl gd d2 m e1 F w0 e w' := by
  unfold SyPost
  rw [if_neg h]
  exact ⟨he, h', hI, hd', hD, H⟩
theorem SyL.mk {gd : Nat} {d d2 : DM} {pre F hd : Hp} {i : Nat} {Ls : Nat → Bool} (h : IsD gd (if Ls i = true then d2 else d) hd) : SyL gd d d2 pre F i Ls (pre ++ (hd ++ F)) := ⟨hd, h, rfl⟩
set_option maxRecDepth 100000 in
set_option maxHeartbeats 4000000 in
theorem sync_reg (gl gd : Nat) (d : DM) (m : LM) (h hd F : Hp) (w0 w : World) (hs0 : m.name.size ≤ 9223372036854775807) (hI : IsL gl gd m h) (hD : IsD gd d hd) (hof : offM d m = false) (H : Holds w0 (h ++ (hd ++ F)) w) : Calls Try.prog 13 #[.pointer (some ⟨gl, 0, none⟩)] w fun e w' => SyPost gl gd (syncM d m.name).2 m (syncM d m.name).1 F w0 e w' := by
  have hm : ({ m with done := offM d m } : LM) = m := by
    rw [hof]
    have : m.done = false := by
      unfold offM at hof
      cases hdn : m.done
      · rfl
      · rw [hdn] at hof; simp at hof
    cases m
    simp_all
  have ho := off_calls gl gd d m h hd F w0 w hI hD H
  rw [hm, hof] at ho
  have HO := Lib.hid ho
  clear ho hm
  have HD := Lib.hid hD
  clear hI hD H hof
  go_enter Try.func13, Try.ntmps13
  go_wp2_with fail
  refine HO.out.mono ?_
  rintro e w1 ⟨rfl, h', hI, hH⟩
  obtain ⟨A, c, vs, hr, hx, R, RS, rfl⟩ := hI
  have HX0 := Lib.hid hH
  have HR := Lib.hid R; have HRS := Lib.hid RS
  clear hH R RS
  go_wp2_with fail
  refine wp_region_own 9 (fun _ => []) (by kernel_rfl) (by kernel_rfl) (by kernel_rfl) (by kernel_rfl) (Nat.le_of_ble_eq_true (by kernel_rfl)) w0 (fun Ls hs => SyL gd d (syncM d m.name).2 ((gl, logO gd m (.slice A m.recs.length c)) :: (hr ++ hx)) F 8 Ls hs) (fun i v h => match i with | 0 => v = .pointer (some ⟨gl, 0, none⟩) ∧ h = [] | 1 => v = .pointer (some ⟨gl, 0, none⟩) ∧ h = [] | 2 => v = .pointer (some ⟨gl, 0, none⟩) ∧ h = [] | 3 => v = .pointer (some ⟨gd, 0, none⟩) ∧ h = [] | 4 => v = .pointer (some ⟨gl, 0, none⟩) ∧ h = [] | 5 => v = .pointer (some ⟨gl, 0, none⟩) ∧ h = [] | 6 => v = .pointer (some ⟨gl, 1, none⟩) ∧ h = [] | 7 => v = .string m.name ∧ h = [] | 8 => v = .int .i64 (syncM d m.name).1 ∧ h = [] | _ => True) ((((gl, logO gd m (.slice A m.recs.length c)) :: (hr ++ hx)) ++ (hd ++ F))) (SyL.mk HD.out) (HX0.out.drew) ?_ ?_
  · intro i o hi ho Ls f Hf hs R w1 hI hL hd hH
    simp only [fill, List.take_succ_cons, List.take_zero, Act.put, List.setIfInBounds_toArray, List.set_cons_zero, List.set_cons_succ]
    match i, hi with
    | 0, _ =>
      obtain rfl := Option.some.inj ho
      clear hd ho
      have hH : Holds w0 (hs ++ ([] ++ R)) w1 := hH
      obtain ⟨hd1, hD1, rfl⟩ := hI
      unfold wpOp
      refine Or.inl ?_
      unfold Oper.wp
      go_simp
      exact OwnBy.mk _ _ _ rfl (SyL.mk hD1) (⟨rfl, rfl⟩) (hH)
    | 1, _ =>
      obtain rfl := Option.some.inj ho
      have e0 : f 0 = .pointer (some ⟨gl, 0, none⟩) := (hd ⟨0, .data⟩ (by simp) rfl).2.1
      clear hd ho
      have hH : Holds w0 (hs ++ ([] ++ R)) w1 := hH
      obtain ⟨hd1, hD1, rfl⟩ := hI
      unfold wpOp
      refine Or.inl ?_
      simp only [e0]
      unfold Oper.wp
      go_simp
      exact OwnBy.mk _ _ _ rfl (SyL.mk hD1) (⟨rfl, rfl⟩) (hH)
    | 2, _ =>
      obtain rfl := Option.some.inj ho
      have e1 : f 1 = .pointer (some ⟨gl, 0, none⟩) := (hd ⟨1, .data⟩ (by simp) rfl).2.1
      clear hd ho
      have hH : Holds w0 (hs ++ ([] ++ R)) w1 := hH
      obtain ⟨hd1, hD1, rfl⟩ := hI
      unfold wpOp
      refine Or.inl ?_
      simp only [e1]
      unfold Oper.wp
      go_simp
      exact OwnBy.mk _ _ _ rfl (SyL.mk hD1) (⟨rfl, rfl⟩) (hH)
    | 3, _ =>
      obtain rfl := Option.some.inj ho
      have e2 : f 2 = .pointer (some ⟨gl, 0, none⟩) := (hd ⟨2, .data⟩ (by simp) rfl).2.1
      clear hd ho
      have hH : Holds w0 (hs ++ ([] ++ R)) w1 := hH
      obtain ⟨hd1, hD1, rfl⟩ := hI
      unfold wpOp
      refine Or.inl ?_
      simp only [e2]
      unfold Oper.wp
      have q0 : w1.cell? ⟨gl, 0, none⟩ = some (.pointer (some ⟨gd, 0, none⟩)) := hH.cell 0
      go_simp
      exact OwnBy.mk _ _ _ rfl (SyL.mk hD1) (⟨rfl, rfl⟩) (hH)
    | 4, _ =>
      obtain rfl := Option.some.inj ho
      clear hd ho
      have hH : Holds w0 (hs ++ ([] ++ R)) w1 := hH
      obtain ⟨hd1, hD1, rfl⟩ := hI
      unfold wpOp
      refine Or.inl ?_
      unfold Oper.wp
      go_simp
      exact OwnBy.mk _ _ _ rfl (SyL.mk hD1) (⟨rfl, rfl⟩) (hH)
    | 5, _ =>
      obtain rfl := Option.some.inj ho
      have e4 : f 4 = .pointer (some ⟨gl, 0, none⟩) := (hd ⟨4, .data⟩ (by simp) rfl).2.1
      clear hd ho
      have hH : Holds w0 (hs ++ ([] ++ R)) w1 := hH
      obtain ⟨hd1, hD1, rfl⟩ := hI
      unfold wpOp
      refine Or.inl ?_
      simp only [e4]
      unfold Oper.wp
      go_simp
      exact OwnBy.mk _ _ _ rfl (SyL.mk hD1) (⟨rfl, rfl⟩) (hH)
    | 6, _ =>
      obtain rfl := Option.some.inj ho
      have e5 : f 5 = .pointer (some ⟨gl, 0, none⟩) := (hd ⟨5, .data⟩ (by simp) rfl).2.1
      clear hd ho
      have hH : Holds w0 (hs ++ ([] ++ R)) w1 := hH
      obtain ⟨hd1, hD1, rfl⟩ := hI
      unfold wpOp
      refine Or.inl ?_
      simp only [e5]
      unfold Oper.wp
      go_simp
      exact OwnBy.mk _ _ _ rfl (SyL.mk hD1) (⟨rfl, rfl⟩) (hH)
    | 7, _ =>
      obtain rfl := Option.some.inj ho
      have e6 : f 6 = .pointer (some ⟨gl, 1, none⟩) := (hd ⟨6, .data⟩ (by simp) rfl).2.1
      clear hd ho
      have hH : Holds w0 (hs ++ ([] ++ R)) w1 := hH
      obtain ⟨hd1, hD1, rfl⟩ := hI
      unfold wpOp
      refine Or.inl ?_
      simp only [e6]
      unfold Oper.wp
      have q0 : w1.cell? ⟨gl, 1, none⟩ = some (.string m.name) := hH.cell 1
      go_simp
      exact OwnBy.mk _ _ _ rfl (SyL.mk hD1) (⟨rfl, rfl⟩) (hH)
    | 8, _ =>
      obtain rfl := Option.some.inj ho
      have e3 : f 3 = .pointer (some ⟨gd, 0, none⟩) := (hd ⟨3, .data⟩ (by simp) rfl).2.1
      have e7 : f 7 = .string m.name := (hd ⟨7, .data⟩ (by simp) rfl).2.1
      clear hd ho
      have hH : Holds w0 (hs ++ ([] ++ R)) w1 := hH
      obtain ⟨hd1, hD1, rfl⟩ := hI
      unfold wpOp
      refine Or.inl ?_
      simp only [e3, e7]
      unfold Oper.wp
      rw [hL, if_neg (by decide)] at hD1
      have hHp : Holds w0 (hd1 ++ (((gl, logO gd m (.slice A m.recs.length c)) :: (hr ++ hx)) ++ (F ++ R))) w1 := hH.perm (by classical rw [List.perm_iff_count]; intro a; simp only [List.count_append, List.count_cons, List.count_nil]; omega)
      go_simp
      refine (sync_calls gd d hd1 _ m.name w0 w1 hs0 hD1 hHp).mono ?_
      rintro e w3 ⟨rfl, h3, hD3, hH3⟩
      exact OwnBy.mk _ [] (((gl, logO gd m (.slice A m.recs.length c)) :: (hr ++ hx)) ++ (h3 ++ F)) rfl (SyL.mk hD3) ⟨rfl, rfl⟩ (hH3.perm (by classical rw [List.perm_iff_count]; intro a; simp only [List.count_append, List.count_cons, List.count_nil]; omega))
  · intro Ls f Hf hs w1 hI hL hV hH
    have e0 : f 0 = .pointer (some ⟨gl, 0, none⟩) := (hV 0 (by decide)).1
    have e1 : f 1 = .pointer (some ⟨gl, 0, none⟩) := (hV 1 (by decide)).1
    have e2 : f 2 = .pointer (some ⟨gl, 0, none⟩) := (hV 2 (by decide)).1
    have e3 : f 3 = .pointer (some ⟨gd, 0, none⟩) := (hV 3 (by decide)).1
    have e4 : f 4 = .pointer (some ⟨gl, 0, none⟩) := (hV 4 (by decide)).1
    have e5 : f 5 = .pointer (some ⟨gl, 0, none⟩) := (hV 5 (by decide)).1
    have e6 : f 6 = .pointer (some ⟨gl, 1, none⟩) := (hV 6 (by decide)).1
    have e7 : f 7 = .string m.name := (hV 7 (by decide)).1
    have e8 : f 8 = .int .i64 (syncM d m.name).1 := (hV 8 (by decide)).1
    clear hV
    have hH : Holds w0 (hs ++ []) w1 := hH
    simp only [fill, List.take_succ_cons, List.take_zero, List.drop_succ_cons, List.drop_zero, Act.put, List.setIfInBounds_toArray, List.set_cons_zero, List.set_cons_succ, e0, e1, e2, e3, e4, e5, e6, e7, e8]
    obtain ⟨hd1, hD1, rfl⟩ := hI
    rw [hL 8 (by decide), if_pos rfl] at hD1
    have HD1 := Lib.hid hD1
    have HX := Lib.hid (show Holds w0 ((gl, logO gd m (.slice A m.recs.length c)) :: (hr ++ (hx ++ (hd1 ++ F)))) w1 from by simpa using hH)
    clear hD1 hH hL
    obtain ⟨e0, he0⟩ : ∃ e0, e0 = (syncM d m.name).1 := ⟨_, rfl⟩
    rw [← he0]
    have HE := Lib.hid he0.symm
    clear he0
    by_cases h4 : e0 = 4
    · subst h4
      have c2 : w1.cell? ⟨gl, 2, none⟩ = some (.slice A m.recs.length c) := HX.out.cell 2
      have c3 : w1.cell? ⟨gl, 3, none⟩ = some (.int .i64 m.safe) := HX.out.cell 3
      have f3 : w1.frozen? ⟨gl, 3, none⟩ = false := HX.out.froz 3
      go_wp2_with fail
      go_ret
      have hz := (show Holds w0 ((gl, logO gd { m with safe := m.recs.length } (.slice A m.recs.length c)) :: (hr ++ (hx ++ (hd1 ++ F)))) _ from HX.out.set 3 (.int .i64 m.recs.length)).perm (k := ((gl, logO gd { m with safe := m.recs.length } (.slice A m.recs.length c)) :: (hr ++ hx)) ++ (hd1 ++ F)) (by classical rw [List.perm_iff_count]; intro a; simp only [List.count_append, List.count_cons, List.count_nil]; omega)
      exact SyPost.yes (h' := (gl, logO gd { m with safe := m.recs.length } (.slice A m.recs.length c)) :: (hr ++ hx)) (Or.inl HE.out) rfl ⟨A, c, _, hr, hx, HR.out, HRS.out, rfl⟩ HD1.out hz
    have h4' : (e0 == 4) = false := by rw [beq_eq_false_iff_ne]; exact h4
    by_cases h0 : e0 = 0
    · subst h0
      have HNT := Lib.hid (note_calls gl gd m 0 ((gl, logO gd m (.slice A m.recs.length c)) :: (hr ++ hx)) (hd1 ++ F) w0 w1 ⟨A, c, vs, hr, hx, HR.out, HRS.out, rfl⟩ (by simpa using HX.out))
      clear h4
      go_wp2_with fail
      refine HNT.out.mono ?_
      rintro e w2 ⟨rfl, h2, hI2, hH2⟩
      rw [show noteM m 0 = m from if_pos rfl] at hI2
      obtain ⟨A2, c2', vs2, hr2, hx2, R2, RS2, rfl⟩ := hI2
      have HX2 := Lib.hid hH2
      have HR2 := Lib.hid R2; have HRS2 := Lib.hid RS2
      clear R2 RS2 hH2
      have c2 : w2.cell? ⟨gl, 2, none⟩ = some (.slice A2 m.recs.length c2') := HX2.out.cell 2
      have c3 : w2.cell? ⟨gl, 3, none⟩ = some (.int .i64 m.safe) := HX2.out.cell 3
      have f3 : w2.frozen? ⟨gl, 3, none⟩ = false := HX2.out.froz 3
      go_wp2_with fail
      go_ret
      have hz := (show Holds w0 ((gl, logO gd { m with safe := m.recs.length } (.slice A2 m.recs.length c2')) :: (hr2 ++ (hx2 ++ (hd1 ++ F)))) _ from (HX2.out.perm (k := (gl, logO gd m (.slice A2 m.recs.length c2')) :: (hr2 ++ (hx2 ++ (hd1 ++ F)))) (by classical rw [List.perm_iff_count]; intro a; simp only [List.count_append, List.count_cons, List.count_nil]; omega)).set 3 (.int .i64 m.recs.length)).perm (k := ((gl, logO gd { m with safe := m.recs.length } (.slice A2 m.recs.length c2')) :: (hr2 ++ hx2)) ++ (hd1 ++ F)) (by classical rw [List.perm_iff_count]; intro a; simp only [List.count_append, List.count_cons, List.count_nil]; omega)
      exact SyPost.yes (h' := (gl, logO gd { m with safe := m.recs.length } (.slice A2 m.recs.length c2')) :: (hr2 ++ hx2)) (Or.inr HE.out) rfl ⟨A2, c2', _, hr2, hx2, HR2.out, HRS2.out, rfl⟩ HD1.out hz
    have HNG := Lib.hid (show ¬ (e0 = 4 ∨ e0 = 0) by omega)
    have h0' : (e0 == 0) = false := by rw [beq_eq_false_iff_ne]; exact h0
    have HNT := Lib.hid (note_calls gl gd m e0 ((gl, logO gd m (.slice A m.recs.length c)) :: (hr ++ hx)) (hd1 ++ F) w0 w1 ⟨A, c, vs, hr, hx, HR.out, HRS.out, rfl⟩ (by simpa using HX.out))
    have HNM := Lib.hid (show noteM m e0 = { m with done := true } from if_neg h0)
    have h4n : (e0 != 4) = true := by rw [bne_iff_ne]; exact h4
    have h0n : (e0 != 0) = true := by rw [bne_iff_ne]; exact h0
    go_wp2_with fail
    refine HNT.out.mono ?_
    rintro e w2 ⟨rfl, h2, hI2, hH2⟩
    rw [HNM.out] at hI2
    have HI2 := Lib.hid hI2; have HX2 := Lib.hid hH2
    clear hI2 hH2
    go_wp2_with fail
    go_ret
    exact SyPost.no (by rw [HE.out]; exact HNG.out) (by rw [HE.out] <;> rfl) HI2.out HD1.out HX2.out
end Go.Proofs.Ythgebchidkadhaa
