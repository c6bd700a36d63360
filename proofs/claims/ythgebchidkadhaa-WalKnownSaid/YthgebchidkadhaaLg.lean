/- A log: its state, told by blocks; its small functions: contracts for every world. Conditions: each theorem's own. -/
import Derived.Test.YthgebchidkadhaaDc
import Derived.Test.YthgebchidkadhaaRg
namespace Go.Proofs.Ythgebchidkadhaa
open Go.RowKit Go.Proofs.Ythgebchidkadhaa.Sp
set_option linter.unusedVariables false
set_option linter.unusedSimpArgs false
structure LM where
  name : ByteArray
  recs : List (List UInt8)
  safe : Int
  lives : Int
  done : Bool
/-- Rows of bytes, each in a block of its own. -/
def RowsB : List (List UInt8) → List Value → Hp → Prop
  | [], vs, h => vs = [] ∧ h = []
  | r :: rs, vs, h => ∃ v vs' h1 h2, RowB 5 1 v r.length (bv r) h1 ∧ RowsB rs vs' h2 ∧ vs = v :: vs' ∧ h = h1 ++ h2
def logO (gd : Nat) (m : LM) (v : Value) : Obj := .cells #[.pointer (some ⟨gd, 0, none⟩), .string m.name, v, .int .i64 m.safe, .int .i64 m.lives, .bool m.done] 63 (0, 0)
def IsL (gl gd : Nat) (m : LM) (h : Hp) : Prop := ∃ A c vs hr hs, RowB 31 1 (.slice A m.recs.length c) m.recs.length vs hr ∧ RowsB m.recs vs hs ∧ h = (gl, logO gd m (.slice A m.recs.length c)) :: (hr ++ hs)
theorem llen_calls (gl gd : Nat) (m : LM) (h F : Hp) (w0 w : World) (hI : IsL gl gd m h) (H : Holds w0 (h ++ F) w) : Calls Try.prog 16 #[.pointer (some ⟨gl, 0, none⟩)] w fun e w' => e = .returned (.int .i64 m.recs.length) ∧ w' = w := by
  obtain ⟨A, c, vs, hr, hs, R, RS, rfl⟩ := hI
  have c2 : w.cell? ⟨gl, 2, none⟩ = some (.slice A m.recs.length c) := H.cell 2
  go_enter Try.func16, Try.ntmps16
  go_wp2_with fail
  go_ret
  exact ⟨rfl, rfl⟩
theorem lsafe_calls (gl gd : Nat) (m : LM) (h F : Hp) (w0 w : World) (hI : IsL gl gd m h) (H : Holds w0 (h ++ F) w) : Calls Try.prog 17 #[.pointer (some ⟨gl, 0, none⟩)] w fun e w' => e = .returned (.int .i64 m.safe) ∧ w' = w := by
  obtain ⟨A, c, vs, hr, hs, R, RS, rfl⟩ := hI
  have c3 : w.cell? ⟨gl, 3, none⟩ = some (.int .i64 m.safe) := H.cell 3
  go_enter Try.func17, Try.ntmps17
  go_wp2_with fail
  go_ret
  exact ⟨rfl, rfl⟩
/-- note: the log is done where the disk answered no. -/
def noteM (m : LM) (e : Int) : LM := if e = 0 then m else { m with done := true }
theorem note_calls (gl gd : Nat) (m : LM) (e0 : Int) (h F : Hp) (w0 w : World) (hI : IsL gl gd m h) (H : Holds w0 (h ++ F) w) : Calls Try.prog 39 #[.pointer (some ⟨gl, 0, none⟩), .int .i64 e0] w fun e w' => e = .returned (.int .i64 e0) ∧ ∃ h', IsL gl gd (noteM m e0) h' ∧ Holds w0 (h' ++ F) w' := by
  by_cases he : e0 = 0
  · subst he
    have HI := Lib.hid hI; have HH := Lib.hid H
    clear hI H
    go_enter Try.func39, Try.ntmps39
    go_wp2_with fail
    go_ret
    exact ⟨rfl, h, by unfold noteM; rw [if_pos rfl]; exact HI.out, HH.out⟩
  · obtain ⟨A, c, vs, hr, hs, R, RS, rfl⟩ := hI
    have hne : (e0 == 0) = false := by rw [beq_eq_false_iff_ne]; exact he
    have c5 : w.cell? ⟨gl, 5, none⟩ = some (.bool m.done) := H.cell 5
    have f5 : w.frozen? ⟨gl, 5, none⟩ = false := H.froz 5
    have HH := Lib.hid (show Holds w0 ((gl, logO gd m (.slice A m.recs.length c)) :: (hr ++ hs ++ F)) w from H)
    have HM := Lib.hid (show noteM m e0 = { m with done := true } from if_neg he)
    have HR := Lib.hid R; have HRS := Lib.hid RS
    clear H R RS he
    go_enter Try.func39, Try.ntmps39
    go_wp2_with fail
    go_ret
    refine ⟨rfl, (gl, logO gd { m with done := true } (.slice A m.recs.length c)) :: (hr ++ hs), by rw [HM.out]; exact ⟨A, c, vs, hr, hs, HR.out, HRS.out, rfl⟩, ?_⟩
    exact HH.out.set 5 (.bool true)
def offM (d : DM) (m : LM) : Bool := !d.power || d.lives != m.lives || m.done
set_option maxRecDepth 100000 in
set_option maxHeartbeats 4000000 in
theorem off_calls (gl gd : Nat) (d : DM) (m : LM) (h hd F : Hp) (w0 w : World) (hI : IsL gl gd m h) (hD : IsD gd d hd) (H : Holds w0 (h ++ (hd ++ F)) w) : Calls Try.prog 37 #[.pointer (some ⟨gl, 0, none⟩)] w fun e w' => e = .returned (.bool (offM d m)) ∧ ∃ h', IsL gl gd { m with done := offM d m } h' ∧ Holds w0 (h' ++ (hd ++ F)) w' := by
  obtain ⟨A, c, vs, hr, hx, R, RS, rfl⟩ := hI
  have HH := Lib.hid (show Holds w0 ((gl, logO gd m (.slice A m.recs.length c)) :: (hr ++ (hx ++ (hd ++ F)))) w from by simpa using H)
  have HR := Lib.hid R; have HRS := Lib.hid RS
  have HD := Lib.hid hD
  clear H R RS hD
  cases hp : d.power with
  | false =>
    have HOF := Lib.hid (show offM d m = true by unfold offM; rw [hp]; rfl)
    go_enter Try.func37, Try.ntmps37
    go_wp2_with fail
    refine wp_region_own 18 (fun _ => []) (by kernel_rfl) (by kernel_rfl) (by kernel_rfl) (by kernel_rfl) (Nat.le_of_ble_eq_true (by kernel_rfl)) w0 (fun Ls hs => hs = ((gl, logO gd m (.slice A m.recs.length c)) :: (hr ++ (hx ++ (hd ++ F))))) (fun i v h => match i with | 0 => v = .pointer (some ⟨gl, 0, none⟩) ∧ h = [] | 1 => v = .pointer (some ⟨gl, 0, none⟩) ∧ h = [] | 2 => v = .pointer (some ⟨gl, 0, none⟩) ∧ h = [] | 3 => v = .pointer (some ⟨gd, 0, none⟩) ∧ h = [] | 4 => v = .bool false ∧ h = [] | 5 => v = .bool true ∧ h = [] | 6 => v = .bool true ∧ h = [] | 7 => v = undef ∧ h = [] | 8 => v = undef ∧ h = [] | 9 => v = undef ∧ h = [] | 10 => v = undef ∧ h = [] | 11 => v = undef ∧ h = [] | 12 => v = undef ∧ h = [] | 13 => v = undef ∧ h = [] | 14 => v = undef ∧ h = [] | 15 => v = undef ∧ h = [] | 16 => v = undef ∧ h = [] | 17 => v = .bool true ∧ h = [] | _ => True) (((gl, logO gd m (.slice A m.recs.length c)) :: (hr ++ (hx ++ (hd ++ F))))) (rfl) (HH.out.drew) ?_ ?_
    · intro i o hi ho Ls f Hf hs R w1 hI hL hd hH
      simp only [fill, List.take_succ_cons, List.take_zero, Act.put, List.setIfInBounds_toArray, List.set_cons_zero, List.set_cons_succ]
      match i, hi with
      | 0, _ =>
        obtain rfl := Option.some.inj ho
        clear hd ho
        have hH : Holds w0 (hs ++ ([] ++ R)) w1 := hH
        subst hI
        unfold wpOp
        refine Or.inl ?_
        unfold Oper.wp
        go_simp
        exact OwnBy.mk _ _ _ rfl (rfl) (⟨rfl, rfl⟩) (hH)
      | 1, _ =>
        obtain rfl := Option.some.inj ho
        have e0 : f 0 = .pointer (some ⟨gl, 0, none⟩) := (hd ⟨0, .data⟩ (by simp) rfl).2.1
        clear hd ho
        have hH : Holds w0 (hs ++ ([] ++ R)) w1 := hH
        subst hI
        unfold wpOp
        refine Or.inl ?_
        simp only [e0]
        unfold Oper.wp
        go_simp
        exact OwnBy.mk _ _ _ rfl (rfl) (⟨rfl, rfl⟩) (hH)
      | 2, _ =>
        obtain rfl := Option.some.inj ho
        have e1 : f 1 = .pointer (some ⟨gl, 0, none⟩) := (hd ⟨1, .data⟩ (by simp) rfl).2.1
        clear hd ho
        have hH : Holds w0 (hs ++ ([] ++ R)) w1 := hH
        subst hI
        unfold wpOp
        refine Or.inl ?_
        simp only [e1]
        unfold Oper.wp
        go_simp
        exact OwnBy.mk _ _ _ rfl (rfl) (⟨rfl, rfl⟩) (hH)
      | 3, _ =>
        obtain rfl := Option.some.inj ho
        have e2 : f 2 = .pointer (some ⟨gl, 0, none⟩) := (hd ⟨2, .data⟩ (by simp) rfl).2.1
        clear hd ho
        have hH : Holds w0 (hs ++ ([] ++ R)) w1 := hH
        subst hI
        unfold wpOp
        refine Or.inl ?_
        simp only [e2]
        unfold Oper.wp
        have q0 : w1.cell? ⟨gl, 0, none⟩ = some (.pointer (some ⟨gd, 0, none⟩)) := hH.cell 0
        go_simp
        exact OwnBy.mk _ _ _ rfl (rfl) (⟨rfl, rfl⟩) (hH)
      | 4, _ =>
        obtain rfl := Option.some.inj ho
        have e3 : f 3 = .pointer (some ⟨gd, 0, none⟩) := (hd ⟨3, .data⟩ (by simp) rfl).2.1
        clear hd ho
        have hH : Holds w0 (hs ++ ([] ++ R)) w1 := hH
        subst hI
        unfold wpOp
        refine Or.inl ?_
        simp only [e3]
        unfold Oper.wp
        go_simp
        refine (power_calls gd d hd (((gl, logO gd m (.slice A m.recs.length c)) :: (hr ++ hx)) ++ (F ++ R)) w0 w1 HD.out (hH.perm (by classical rw [List.perm_iff_count]; intro a; simp only [List.count_append, List.count_cons, List.count_nil]; omega))).mono ?_
        rintro e w3 ⟨he, rfl⟩
        rw [hp] at he
        subst he
        exact OwnBy.mk _ _ _ rfl (rfl) (⟨rfl, rfl⟩) (hH)
      | 5, _ =>
        obtain rfl := Option.some.inj ho
        have e4 : f 4 = .bool false := (hd ⟨4, .data⟩ (by simp) rfl).2.1
        clear hd ho
        have hH : Holds w0 (hs ++ ([] ++ R)) w1 := hH
        subst hI
        unfold wpOp
        refine Or.inl ?_
        simp only [e4]
        unfold Oper.wp
        go_simp
        exact OwnBy.mk _ _ _ rfl (rfl) (⟨rfl, rfl⟩) (hH)
      | 6, _ =>
        obtain rfl := Option.some.inj ho
        have e5 : f 5 = .bool true := (hd ⟨5, .data⟩ (by simp) rfl).2.1
        clear hd ho
        have hH : Holds w0 (hs ++ ([] ++ R)) w1 := hH
        subst hI
        unfold wpOp
        refine Or.inl ?_
        simp only [e5]
        unfold Oper.wp
        go_simp
        exact OwnBy.mk _ _ _ rfl (rfl) (⟨rfl, rfl⟩) (hH)
      | 7, _ =>
        obtain rfl := Option.some.inj ho
        have e6 : f 6 = .bool true := (hd ⟨6, .guard⟩ (by simp) rfl).2.1
        clear hd ho
        have hH : Holds w0 (hs ++ ([] ++ R)) w1 := hH
        subst hI
        unfold wpOp
        simp only [e6]
        refine Eq.mpr (if_neg (fun h => absurd (show false = true from h) (by decide))) ?_
        exact OwnBy.mk undef [] _ rfl (rfl) ⟨rfl, rfl⟩ hH
      | 8, _ =>
        obtain rfl := Option.some.inj ho
        have e6 : f 6 = .bool true := (hd ⟨6, .guard⟩ (by simp) rfl).2.1
        clear hd ho
        have hH : Holds w0 (hs ++ ([] ++ R)) w1 := hH
        subst hI
        unfold wpOp
        simp only [e6]
        refine Eq.mpr (if_neg (fun h => absurd (show false = true from h) (by decide))) ?_
        exact OwnBy.mk undef [] _ rfl (rfl) ⟨rfl, rfl⟩ hH
      | 9, _ =>
        obtain rfl := Option.some.inj ho
        have e6 : f 6 = .bool true := (hd ⟨6, .guard⟩ (by simp) rfl).2.1
        clear hd ho
        have hH : Holds w0 (hs ++ ([] ++ R)) w1 := hH
        subst hI
        unfold wpOp
        simp only [e6]
        refine Eq.mpr (if_neg (fun h => absurd (show false = true from h) (by decide))) ?_
        exact OwnBy.mk undef [] _ rfl (rfl) ⟨rfl, rfl⟩ hH
      | 10, _ =>
        obtain rfl := Option.some.inj ho
        have e6 : f 6 = .bool true := (hd ⟨6, .guard⟩ (by simp) rfl).2.1
        clear hd ho
        have hH : Holds w0 (hs ++ ([] ++ R)) w1 := hH
        subst hI
        unfold wpOp
        simp only [e6]
        refine Eq.mpr (if_neg (fun h => absurd (show false = true from h) (by decide))) ?_
        exact OwnBy.mk undef [] _ rfl (rfl) ⟨rfl, rfl⟩ hH
      | 11, _ =>
        obtain rfl := Option.some.inj ho
        have e6 : f 6 = .bool true := (hd ⟨6, .guard⟩ (by simp) rfl).2.1
        clear hd ho
        have hH : Holds w0 (hs ++ ([] ++ R)) w1 := hH
        subst hI
        unfold wpOp
        simp only [e6]
        refine Eq.mpr (if_neg (fun h => absurd (show false = true from h) (by decide))) ?_
        exact OwnBy.mk undef [] _ rfl (rfl) ⟨rfl, rfl⟩ hH
      | 12, _ =>
        obtain rfl := Option.some.inj ho
        have e6 : f 6 = .bool true := (hd ⟨6, .guard⟩ (by simp) rfl).2.1
        clear hd ho
        have hH : Holds w0 (hs ++ ([] ++ R)) w1 := hH
        subst hI
        unfold wpOp
        simp only [e6]
        refine Eq.mpr (if_neg (fun h => absurd (show false = true from h) (by decide))) ?_
        exact OwnBy.mk undef [] _ rfl (rfl) ⟨rfl, rfl⟩ hH
      | 13, _ =>
        obtain rfl := Option.some.inj ho
        have e6 : f 6 = .bool true := (hd ⟨6, .guard⟩ (by simp) rfl).2.1
        clear hd ho
        have hH : Holds w0 (hs ++ ([] ++ R)) w1 := hH
        subst hI
        unfold wpOp
        simp only [e6]
        refine Eq.mpr (if_neg (fun h => absurd (show false = true from h) (by decide))) ?_
        exact OwnBy.mk undef [] _ rfl (rfl) ⟨rfl, rfl⟩ hH
      | 14, _ =>
        obtain rfl := Option.some.inj ho
        have e6 : f 6 = .bool true := (hd ⟨6, .guard⟩ (by simp) rfl).2.1
        clear hd ho
        have hH : Holds w0 (hs ++ ([] ++ R)) w1 := hH
        subst hI
        unfold wpOp
        simp only [e6]
        refine Eq.mpr (if_neg (fun h => absurd (show false = true from h) (by decide))) ?_
        exact OwnBy.mk undef [] _ rfl (rfl) ⟨rfl, rfl⟩ hH
      | 15, _ =>
        obtain rfl := Option.some.inj ho
        have e6 : f 6 = .bool true := (hd ⟨6, .guard⟩ (by simp) rfl).2.1
        clear hd ho
        have hH : Holds w0 (hs ++ ([] ++ R)) w1 := hH
        subst hI
        unfold wpOp
        simp only [e6]
        refine Eq.mpr (if_neg (fun h => absurd (show false = true from h) (by decide))) ?_
        exact OwnBy.mk undef [] _ rfl (rfl) ⟨rfl, rfl⟩ hH
      | 16, _ =>
        obtain rfl := Option.some.inj ho
        have e6 : f 6 = .bool true := (hd ⟨6, .guard⟩ (by simp) rfl).2.1
        clear hd ho
        have hH : Holds w0 (hs ++ ([] ++ R)) w1 := hH
        subst hI
        unfold wpOp
        simp only [e6]
        refine Eq.mpr (if_neg (fun h => absurd (show false = true from h) (by decide))) ?_
        exact OwnBy.mk undef [] _ rfl (rfl) ⟨rfl, rfl⟩ hH
      | 17, _ =>
        obtain rfl := Option.some.inj ho
        have e6 : f 6 = .bool true := (hd ⟨6, .data⟩ (by simp) rfl).2.1
        clear hd ho
        have hH : Holds w0 (hs ++ ([] ++ R)) w1 := hH
        subst hI
        unfold wpOp
        refine Or.inl ?_
        simp only [e6]
        unfold Oper.wp
        go_simp
        exact OwnBy.mk _ _ _ rfl (rfl) (⟨rfl, rfl⟩) (hH)
      | _ + 18, h18 => exact absurd h18 (by omega)
    · intro Ls f Hf hs w1 hI hL hV hH
      have e0 : f 0 = .pointer (some ⟨gl, 0, none⟩) := (hV 0 (by decide)).1
      have e1 : f 1 = .pointer (some ⟨gl, 0, none⟩) := (hV 1 (by decide)).1
      have e2 : f 2 = .pointer (some ⟨gl, 0, none⟩) := (hV 2 (by decide)).1
      have e3 : f 3 = .pointer (some ⟨gd, 0, none⟩) := (hV 3 (by decide)).1
      have e4 : f 4 = .bool false := (hV 4 (by decide)).1
      have e5 : f 5 = .bool true := (hV 5 (by decide)).1
      have e6 : f 6 = .bool true := (hV 6 (by decide)).1
      have e7 : f 7 = undef := (hV 7 (by decide)).1
      have e8 : f 8 = undef := (hV 8 (by decide)).1
      have e9 : f 9 = undef := (hV 9 (by decide)).1
      have e10 : f 10 = undef := (hV 10 (by decide)).1
      have e11 : f 11 = undef := (hV 11 (by decide)).1
      have e12 : f 12 = undef := (hV 12 (by decide)).1
      have e13 : f 13 = undef := (hV 13 (by decide)).1
      have e14 : f 14 = undef := (hV 14 (by decide)).1
      have e15 : f 15 = undef := (hV 15 (by decide)).1
      have e16 : f 16 = undef := (hV 16 (by decide)).1
      have e17 : f 17 = .bool true := (hV 17 (by decide)).1
      clear hV
      have hH : Holds w0 (hs ++ []) w1 := hH
      simp only [fill, List.take_succ_cons, List.take_zero, List.drop_succ_cons, List.drop_zero, Act.put, List.setIfInBounds_toArray, List.set_cons_zero, List.set_cons_succ, e0, e1, e2, e3, e4, e5, e6, e7, e8, e9, e10, e11, e12, e13, e14, e15, e16, e17]
      subst hI
      have HX := Lib.hid (show Holds w0 ((gl, logO gd m (.slice A m.recs.length c)) :: ((hr ++ hx) ++ (hd ++ F))) w1 from by simpa using hH)
      clear hH hL
      have c5 : w1.cell? ⟨gl, 5, none⟩ = some (.bool m.done) := HX.out.cell 5
      have f5 : w1.frozen? ⟨gl, 5, none⟩ = false := HX.out.froz 5
      go_wp2_with fail
      go_ret
      refine ⟨by rw [HOF.out] <;> rfl, (gl, logO gd { m with done := offM d m } (.slice A m.recs.length c)) :: (hr ++ hx), ⟨A, c, vs, hr, hx, HR.out, HRS.out, rfl⟩, ?_⟩
      rw [HOF.out]
      exact HX.out.set 5 (.bool true)
  
  | true =>
    by_cases hv : d.lives = m.lives
    · have HOF := Lib.hid (show offM d m = m.done by unfold offM; rw [hp, hv]; simp)
      have HLV := Lib.hid (show (d.lives != m.lives) = false by rw [hv]; simp)
      clear hv
      go_enter Try.func37, Try.ntmps37
      go_wp2_with fail
      refine wp_region_own 18 (fun _ => []) (by kernel_rfl) (by kernel_rfl) (by kernel_rfl) (by kernel_rfl) (Nat.le_of_ble_eq_true (by kernel_rfl)) w0 (fun Ls hs => hs = ((gl, logO gd m (.slice A m.recs.length c)) :: (hr ++ (hx ++ (hd ++ F))))) (fun i v h => match i with | 0 => v = .pointer (some ⟨gl, 0, none⟩) ∧ h = [] | 1 => v = .pointer (some ⟨gl, 0, none⟩) ∧ h = [] | 2 => v = .pointer (some ⟨gl, 0, none⟩) ∧ h = [] | 3 => v = .pointer (some ⟨gd, 0, none⟩) ∧ h = [] | 4 => v = .bool true ∧ h = [] | 5 => v = .bool false ∧ h = [] | 6 => v = .bool false ∧ h = [] | 7 => v = .pointer (some ⟨gl, 0, none⟩) ∧ h = [] | 8 => v = .pointer (some ⟨gl, 0, none⟩) ∧ h = [] | 9 => v = .pointer (some ⟨gl, 0, none⟩) ∧ h = [] | 10 => v = .pointer (some ⟨gd, 0, none⟩) ∧ h = [] | 11 => v = .int .i64 d.lives ∧ h = [] | 12 => v = .pointer (some ⟨gl, 0, none⟩) ∧ h = [] | 13 => v = .pointer (some ⟨gl, 0, none⟩) ∧ h = [] | 14 => v = .pointer (some ⟨gl, 4, none⟩) ∧ h = [] | 15 => v = .int .i64 m.lives ∧ h = [] | 16 => v = .bool (d.lives != m.lives) ∧ h = [] | 17 => v = .bool (d.lives != m.lives) ∧ h = [] | _ => True) (((gl, logO gd m (.slice A m.recs.length c)) :: (hr ++ (hx ++ (hd ++ F))))) (rfl) (HH.out.drew) ?_ ?_
      · intro i o hi ho Ls f Hf hs R w1 hI hL hd hH
        simp only [fill, List.take_succ_cons, List.take_zero, Act.put, List.setIfInBounds_toArray, List.set_cons_zero, List.set_cons_succ]
        match i, hi with
        | 0, _ =>
          obtain rfl := Option.some.inj ho
          clear hd ho
          have hH : Holds w0 (hs ++ ([] ++ R)) w1 := hH
          subst hI
          unfold wpOp
          refine Or.inl ?_
          unfold Oper.wp
          go_simp
          exact OwnBy.mk _ _ _ rfl (rfl) (⟨rfl, rfl⟩) (hH)
        | 1, _ =>
          obtain rfl := Option.some.inj ho
          have e0 : f 0 = .pointer (some ⟨gl, 0, none⟩) := (hd ⟨0, .data⟩ (by simp) rfl).2.1
          clear hd ho
          have hH : Holds w0 (hs ++ ([] ++ R)) w1 := hH
          subst hI
          unfold wpOp
          refine Or.inl ?_
          simp only [e0]
          unfold Oper.wp
          go_simp
          exact OwnBy.mk _ _ _ rfl (rfl) (⟨rfl, rfl⟩) (hH)
        | 2, _ =>
          obtain rfl := Option.some.inj ho
          have e1 : f 1 = .pointer (some ⟨gl, 0, none⟩) := (hd ⟨1, .data⟩ (by simp) rfl).2.1
          clear hd ho
          have hH : Holds w0 (hs ++ ([] ++ R)) w1 := hH
          subst hI
          unfold wpOp
          refine Or.inl ?_
          simp only [e1]
          unfold Oper.wp
          go_simp
          exact OwnBy.mk _ _ _ rfl (rfl) (⟨rfl, rfl⟩) (hH)
        | 3, _ =>
          obtain rfl := Option.some.inj ho
          have e2 : f 2 = .pointer (some ⟨gl, 0, none⟩) := (hd ⟨2, .data⟩ (by simp) rfl).2.1
          clear hd ho
          have hH : Holds w0 (hs ++ ([] ++ R)) w1 := hH
          subst hI
          unfold wpOp
          refine Or.inl ?_
          simp only [e2]
          unfold Oper.wp
          have q0 : w1.cell? ⟨gl, 0, none⟩ = some (.pointer (some ⟨gd, 0, none⟩)) := hH.cell 0
          go_simp
          exact OwnBy.mk _ _ _ rfl (rfl) (⟨rfl, rfl⟩) (hH)
        | 4, _ =>
          obtain rfl := Option.some.inj ho
          have e3 : f 3 = .pointer (some ⟨gd, 0, none⟩) := (hd ⟨3, .data⟩ (by simp) rfl).2.1
          clear hd ho
          have hH : Holds w0 (hs ++ ([] ++ R)) w1 := hH
          subst hI
          unfold wpOp
          refine Or.inl ?_
          simp only [e3]
          unfold Oper.wp
          go_simp
          refine (power_calls gd d hd (((gl, logO gd m (.slice A m.recs.length c)) :: (hr ++ hx)) ++ (F ++ R)) w0 w1 HD.out (hH.perm (by classical rw [List.perm_iff_count]; intro a; simp only [List.count_append, List.count_cons, List.count_nil]; omega))).mono ?_
          rintro e w3 ⟨he, rfl⟩
          rw [hp] at he
          subst he
          exact OwnBy.mk _ _ _ rfl (rfl) (⟨rfl, rfl⟩) (hH)
        | 5, _ =>
          obtain rfl := Option.some.inj ho
          have e4 : f 4 = .bool true := (hd ⟨4, .data⟩ (by simp) rfl).2.1
          clear hd ho
          have hH : Holds w0 (hs ++ ([] ++ R)) w1 := hH
          subst hI
          unfold wpOp
          refine Or.inl ?_
          simp only [e4]
          unfold Oper.wp
          go_simp
          exact OwnBy.mk _ _ _ rfl (rfl) (⟨rfl, rfl⟩) (hH)
        | 6, _ =>
          obtain rfl := Option.some.inj ho
          have e5 : f 5 = .bool false := (hd ⟨5, .data⟩ (by simp) rfl).2.1
          clear hd ho
          have hH : Holds w0 (hs ++ ([] ++ R)) w1 := hH
          subst hI
          unfold wpOp
          refine Or.inl ?_
          simp only [e5]
          unfold Oper.wp
          go_simp
          exact OwnBy.mk _ _ _ rfl (rfl) (⟨rfl, rfl⟩) (hH)
        | 7, _ =>
          obtain rfl := Option.some.inj ho
          have e6 : f 6 = .bool false := (hd ⟨6, .guard⟩ (by simp) rfl).2.1
          clear hd ho
          have hH : Holds w0 (hs ++ ([] ++ R)) w1 := hH
          subst hI
          unfold wpOp
          simp only [e6]
          refine Or.inl ?_
          unfold Oper.wp
          go_simp
          exact OwnBy.mk _ _ _ rfl (rfl) (⟨rfl, rfl⟩) (hH)
        | 8, _ =>
          obtain rfl := Option.some.inj ho
          have e7 : f 7 = .pointer (some ⟨gl, 0, none⟩) := (hd ⟨7, .data⟩ (by simp) rfl).2.1
          have e6 : f 6 = .bool false := (hd ⟨6, .guard⟩ (by simp) rfl).2.1
          clear hd ho
          have hH : Holds w0 (hs ++ ([] ++ R)) w1 := hH
          subst hI
          unfold wpOp
          simp only [e7, e6]
          refine Or.inl ?_
          unfold Oper.wp
          go_simp
          exact OwnBy.mk _ _ _ rfl (rfl) (⟨rfl, rfl⟩) (hH)
        | 9, _ =>
          obtain rfl := Option.some.inj ho
          have e8 : f 8 = .pointer (some ⟨gl, 0, none⟩) := (hd ⟨8, .data⟩ (by simp) rfl).2.1
          have e6 : f 6 = .bool false := (hd ⟨6, .guard⟩ (by simp) rfl).2.1
          clear hd ho
          have hH : Holds w0 (hs ++ ([] ++ R)) w1 := hH
          subst hI
          unfold wpOp
          simp only [e8, e6]
          refine Or.inl ?_
          unfold Oper.wp
          go_simp
          exact OwnBy.mk _ _ _ rfl (rfl) (⟨rfl, rfl⟩) (hH)
        | 10, _ =>
          obtain rfl := Option.some.inj ho
          have e9 : f 9 = .pointer (some ⟨gl, 0, none⟩) := (hd ⟨9, .data⟩ (by simp) rfl).2.1
          have e6 : f 6 = .bool false := (hd ⟨6, .guard⟩ (by simp) rfl).2.1
          clear hd ho
          have hH : Holds w0 (hs ++ ([] ++ R)) w1 := hH
          subst hI
          unfold wpOp
          simp only [e9, e6]
          refine Or.inl ?_
          unfold Oper.wp
          have q0 : w1.cell? ⟨gl, 0, none⟩ = some (.pointer (some ⟨gd, 0, none⟩)) := hH.cell 0
          go_simp
          exact OwnBy.mk _ _ _ rfl (rfl) (⟨rfl, rfl⟩) (hH)
        | 11, _ =>
          obtain rfl := Option.some.inj ho
          have e10 : f 10 = .pointer (some ⟨gd, 0, none⟩) := (hd ⟨10, .data⟩ (by simp) rfl).2.1
          have e6 : f 6 = .bool false := (hd ⟨6, .guard⟩ (by simp) rfl).2.1
          clear hd ho
          have hH : Holds w0 (hs ++ ([] ++ R)) w1 := hH
          subst hI
          unfold wpOp
          simp only [e10, e6]
          refine Or.inl ?_
          unfold Oper.wp
          go_simp
          refine (lives_calls gd d hd (((gl, logO gd m (.slice A m.recs.length c)) :: (hr ++ hx)) ++ (F ++ R)) w0 w1 HD.out (hH.perm (by classical rw [List.perm_iff_count]; intro a; simp only [List.count_append, List.count_cons, List.count_nil]; omega))).mono ?_
          rintro e w3 ⟨rfl, rfl⟩
          exact OwnBy.mk _ _ _ rfl (rfl) (⟨rfl, rfl⟩) (hH)
        | 12, _ =>
          obtain rfl := Option.some.inj ho
          have e6 : f 6 = .bool false := (hd ⟨6, .guard⟩ (by simp) rfl).2.1
          clear hd ho
          have hH : Holds w0 (hs ++ ([] ++ R)) w1 := hH
          subst hI
          unfold wpOp
          simp only [e6]
          refine Or.inl ?_
          unfold Oper.wp
          go_simp
          exact OwnBy.mk _ _ _ rfl (rfl) (⟨rfl, rfl⟩) (hH)
        | 13, _ =>
          obtain rfl := Option.some.inj ho
          have e12 : f 12 = .pointer (some ⟨gl, 0, none⟩) := (hd ⟨12, .data⟩ (by simp) rfl).2.1
          have e6 : f 6 = .bool false := (hd ⟨6, .guard⟩ (by simp) rfl).2.1
          clear hd ho
          have hH : Holds w0 (hs ++ ([] ++ R)) w1 := hH
          subst hI
          unfold wpOp
          simp only [e12, e6]
          refine Or.inl ?_
          unfold Oper.wp
          go_simp
          exact OwnBy.mk _ _ _ rfl (rfl) (⟨rfl, rfl⟩) (hH)
        | 14, _ =>
          obtain rfl := Option.some.inj ho
          have e13 : f 13 = .pointer (some ⟨gl, 0, none⟩) := (hd ⟨13, .data⟩ (by simp) rfl).2.1
          have e6 : f 6 = .bool false := (hd ⟨6, .guard⟩ (by simp) rfl).2.1
          clear hd ho
          have hH : Holds w0 (hs ++ ([] ++ R)) w1 := hH
          subst hI
          unfold wpOp
          simp only [e13, e6]
          refine Or.inl ?_
          unfold Oper.wp
          go_simp
          exact OwnBy.mk _ _ _ rfl (rfl) (⟨rfl, rfl⟩) (hH)
        | 15, _ =>
          obtain rfl := Option.some.inj ho
          have e14 : f 14 = .pointer (some ⟨gl, 4, none⟩) := (hd ⟨14, .data⟩ (by simp) rfl).2.1
          have e6 : f 6 = .bool false := (hd ⟨6, .guard⟩ (by simp) rfl).2.1
          clear hd ho
          have hH : Holds w0 (hs ++ ([] ++ R)) w1 := hH
          subst hI
          unfold wpOp
          simp only [e14, e6]
          refine Or.inl ?_
          unfold Oper.wp
          have q0 : w1.cell? ⟨gl, 4, none⟩ = some (.int .i64 m.lives) := hH.cell 4
          go_simp
          exact OwnBy.mk _ _ _ rfl (rfl) (⟨rfl, rfl⟩) (hH)
        | 16, _ =>
          obtain rfl := Option.some.inj ho
          have e11 : f 11 = .int .i64 d.lives := (hd ⟨11, .data⟩ (by simp) rfl).2.1
          have e15 : f 15 = .int .i64 m.lives := (hd ⟨15, .data⟩ (by simp) rfl).2.1
          have e6 : f 6 = .bool false := (hd ⟨6, .guard⟩ (by simp) rfl).2.1
          clear hd ho
          have hH : Holds w0 (hs ++ ([] ++ R)) w1 := hH
          subst hI
          unfold wpOp
          simp only [e11, e15, e6]
          refine Or.inl ?_
          unfold Oper.wp
          go_simp
          exact OwnBy.mk _ _ _ rfl (rfl) (⟨rfl, rfl⟩) (hH)
        | 17, _ =>
          obtain rfl := Option.some.inj ho
          have e6 : f 6 = .bool false := (hd ⟨6, .data⟩ (by simp) rfl).2.1
          have e16 : f 16 = .bool (d.lives != m.lives) := (hd ⟨16, .data⟩ (by simp) rfl).2.1
          clear hd ho
          have hH : Holds w0 (hs ++ ([] ++ R)) w1 := hH
          subst hI
          unfold wpOp
          refine Or.inl ?_
          simp only [e6, e16]
          unfold Oper.wp
          go_simp
          exact OwnBy.mk _ _ _ rfl (rfl) (⟨rfl, rfl⟩) (hH)
        | _ + 18, h18 => exact absurd h18 (by omega)
      · intro Ls f Hf hs w1 hI hL hV hH
        have e0 : f 0 = .pointer (some ⟨gl, 0, none⟩) := (hV 0 (by decide)).1
        have e1 : f 1 = .pointer (some ⟨gl, 0, none⟩) := (hV 1 (by decide)).1
        have e2 : f 2 = .pointer (some ⟨gl, 0, none⟩) := (hV 2 (by decide)).1
        have e3 : f 3 = .pointer (some ⟨gd, 0, none⟩) := (hV 3 (by decide)).1
        have e4 : f 4 = .bool true := (hV 4 (by decide)).1
        have e5 : f 5 = .bool false := (hV 5 (by decide)).1
        have e6 : f 6 = .bool false := (hV 6 (by decide)).1
        have e7 : f 7 = .pointer (some ⟨gl, 0, none⟩) := (hV 7 (by decide)).1
        have e8 : f 8 = .pointer (some ⟨gl, 0, none⟩) := (hV 8 (by decide)).1
        have e9 : f 9 = .pointer (some ⟨gl, 0, none⟩) := (hV 9 (by decide)).1
        have e10 : f 10 = .pointer (some ⟨gd, 0, none⟩) := (hV 10 (by decide)).1
        have e11 : f 11 = .int .i64 d.lives := (hV 11 (by decide)).1
        have e12 : f 12 = .pointer (some ⟨gl, 0, none⟩) := (hV 12 (by decide)).1
        have e13 : f 13 = .pointer (some ⟨gl, 0, none⟩) := (hV 13 (by decide)).1
        have e14 : f 14 = .pointer (some ⟨gl, 4, none⟩) := (hV 14 (by decide)).1
        have e15 : f 15 = .int .i64 m.lives := (hV 15 (by decide)).1
        have e16 : f 16 = .bool (d.lives != m.lives) := (hV 16 (by decide)).1
        have e17 : f 17 = .bool (d.lives != m.lives) := (hV 17 (by decide)).1
        clear hV
        have hH : Holds w0 (hs ++ []) w1 := hH
        simp only [fill, List.take_succ_cons, List.take_zero, List.drop_succ_cons, List.drop_zero, Act.put, List.setIfInBounds_toArray, List.set_cons_zero, List.set_cons_succ, e0, e1, e2, e3, e4, e5, e6, e7, e8, e9, e10, e11, e12, e13, e14, e15, e16, e17]
        subst hI
        have HX := Lib.hid (show Holds w0 ((gl, logO gd m (.slice A m.recs.length c)) :: ((hr ++ hx) ++ (hd ++ F))) w1 from by simpa using hH)
        clear hH hL
        rw [HLV.out]
        have c5 : w1.cell? ⟨gl, 5, none⟩ = some (.bool m.done) := HX.out.cell 5
        go_wp2_with fail
        go_ret
        refine ⟨by rw [HOF.out] <;> rfl, (gl, logO gd { m with done := offM d m } (.slice A m.recs.length c)) :: (hr ++ hx), ⟨A, c, vs, hr, hx, HR.out, HRS.out, rfl⟩, ?_⟩
        rw [HOF.out]
        exact HX.out
  
    · have HOF := Lib.hid (show offM d m = true by unfold offM; rw [hp]; simp [hv])
      have HLV := Lib.hid (show (d.lives != m.lives) = true by simpa using hv)
      clear hv
      go_enter Try.func37, Try.ntmps37
      go_wp2_with fail
      refine wp_region_own 18 (fun _ => []) (by kernel_rfl) (by kernel_rfl) (by kernel_rfl) (by kernel_rfl) (Nat.le_of_ble_eq_true (by kernel_rfl)) w0 (fun Ls hs => hs = ((gl, logO gd m (.slice A m.recs.length c)) :: (hr ++ (hx ++ (hd ++ F))))) (fun i v h => match i with | 0 => v = .pointer (some ⟨gl, 0, none⟩) ∧ h = [] | 1 => v = .pointer (some ⟨gl, 0, none⟩) ∧ h = [] | 2 => v = .pointer (some ⟨gl, 0, none⟩) ∧ h = [] | 3 => v = .pointer (some ⟨gd, 0, none⟩) ∧ h = [] | 4 => v = .bool true ∧ h = [] | 5 => v = .bool false ∧ h = [] | 6 => v = .bool false ∧ h = [] | 7 => v = .pointer (some ⟨gl, 0, none⟩) ∧ h = [] | 8 => v = .pointer (some ⟨gl, 0, none⟩) ∧ h = [] | 9 => v = .pointer (some ⟨gl, 0, none⟩) ∧ h = [] | 10 => v = .pointer (some ⟨gd, 0, none⟩) ∧ h = [] | 11 => v = .int .i64 d.lives ∧ h = [] | 12 => v = .pointer (some ⟨gl, 0, none⟩) ∧ h = [] | 13 => v = .pointer (some ⟨gl, 0, none⟩) ∧ h = [] | 14 => v = .pointer (some ⟨gl, 4, none⟩) ∧ h = [] | 15 => v = .int .i64 m.lives ∧ h = [] | 16 => v = .bool (d.lives != m.lives) ∧ h = [] | 17 => v = .bool (d.lives != m.lives) ∧ h = [] | _ => True) (((gl, logO gd m (.slice A m.recs.length c)) :: (hr ++ (hx ++ (hd ++ F))))) (rfl) (HH.out.drew) ?_ ?_
      · intro i o hi ho Ls f Hf hs R w1 hI hL hd hH
        simp only [fill, List.take_succ_cons, List.take_zero, Act.put, List.setIfInBounds_toArray, List.set_cons_zero, List.set_cons_succ]
        match i, hi with
        | 0, _ =>
          obtain rfl := Option.some.inj ho
          clear hd ho
          have hH : Holds w0 (hs ++ ([] ++ R)) w1 := hH
          subst hI
          unfold wpOp
          refine Or.inl ?_
          unfold Oper.wp
          go_simp
          exact OwnBy.mk _ _ _ rfl (rfl) (⟨rfl, rfl⟩) (hH)
        | 1, _ =>
          obtain rfl := Option.some.inj ho
          have e0 : f 0 = .pointer (some ⟨gl, 0, none⟩) := (hd ⟨0, .data⟩ (by simp) rfl).2.1
          clear hd ho
          have hH : Holds w0 (hs ++ ([] ++ R)) w1 := hH
          subst hI
          unfold wpOp
          refine Or.inl ?_
          simp only [e0]
          unfold Oper.wp
          go_simp
          exact OwnBy.mk _ _ _ rfl (rfl) (⟨rfl, rfl⟩) (hH)
        | 2, _ =>
          obtain rfl := Option.some.inj ho
          have e1 : f 1 = .pointer (some ⟨gl, 0, none⟩) := (hd ⟨1, .data⟩ (by simp) rfl).2.1
          clear hd ho
          have hH : Holds w0 (hs ++ ([] ++ R)) w1 := hH
          subst hI
          unfold wpOp
          refine Or.inl ?_
          simp only [e1]
          unfold Oper.wp
          go_simp
          exact OwnBy.mk _ _ _ rfl (rfl) (⟨rfl, rfl⟩) (hH)
        | 3, _ =>
          obtain rfl := Option.some.inj ho
          have e2 : f 2 = .pointer (some ⟨gl, 0, none⟩) := (hd ⟨2, .data⟩ (by simp) rfl).2.1
          clear hd ho
          have hH : Holds w0 (hs ++ ([] ++ R)) w1 := hH
          subst hI
          unfold wpOp
          refine Or.inl ?_
          simp only [e2]
          unfold Oper.wp
          have q0 : w1.cell? ⟨gl, 0, none⟩ = some (.pointer (some ⟨gd, 0, none⟩)) := hH.cell 0
          go_simp
          exact OwnBy.mk _ _ _ rfl (rfl) (⟨rfl, rfl⟩) (hH)
        | 4, _ =>
          obtain rfl := Option.some.inj ho
          have e3 : f 3 = .pointer (some ⟨gd, 0, none⟩) := (hd ⟨3, .data⟩ (by simp) rfl).2.1
          clear hd ho
          have hH : Holds w0 (hs ++ ([] ++ R)) w1 := hH
          subst hI
          unfold wpOp
          refine Or.inl ?_
          simp only [e3]
          unfold Oper.wp
          go_simp
          refine (power_calls gd d hd (((gl, logO gd m (.slice A m.recs.length c)) :: (hr ++ hx)) ++ (F ++ R)) w0 w1 HD.out (hH.perm (by classical rw [List.perm_iff_count]; intro a; simp only [List.count_append, List.count_cons, List.count_nil]; omega))).mono ?_
          rintro e w3 ⟨he, rfl⟩
          rw [hp] at he
          subst he
          exact OwnBy.mk _ _ _ rfl (rfl) (⟨rfl, rfl⟩) (hH)
        | 5, _ =>
          obtain rfl := Option.some.inj ho
          have e4 : f 4 = .bool true := (hd ⟨4, .data⟩ (by simp) rfl).2.1
          clear hd ho
          have hH : Holds w0 (hs ++ ([] ++ R)) w1 := hH
          subst hI
          unfold wpOp
          refine Or.inl ?_
          simp only [e4]
          unfold Oper.wp
          go_simp
          exact OwnBy.mk _ _ _ rfl (rfl) (⟨rfl, rfl⟩) (hH)
        | 6, _ =>
          obtain rfl := Option.some.inj ho
          have e5 : f 5 = .bool false := (hd ⟨5, .data⟩ (by simp) rfl).2.1
          clear hd ho
          have hH : Holds w0 (hs ++ ([] ++ R)) w1 := hH
          subst hI
          unfold wpOp
          refine Or.inl ?_
          simp only [e5]
          unfold Oper.wp
          go_simp
          exact OwnBy.mk _ _ _ rfl (rfl) (⟨rfl, rfl⟩) (hH)
        | 7, _ =>
          obtain rfl := Option.some.inj ho
          have e6 : f 6 = .bool false := (hd ⟨6, .guard⟩ (by simp) rfl).2.1
          clear hd ho
          have hH : Holds w0 (hs ++ ([] ++ R)) w1 := hH
          subst hI
          unfold wpOp
          simp only [e6]
          refine Or.inl ?_
          unfold Oper.wp
          go_simp
          exact OwnBy.mk _ _ _ rfl (rfl) (⟨rfl, rfl⟩) (hH)
        | 8, _ =>
          obtain rfl := Option.some.inj ho
          have e7 : f 7 = .pointer (some ⟨gl, 0, none⟩) := (hd ⟨7, .data⟩ (by simp) rfl).2.1
          have e6 : f 6 = .bool false := (hd ⟨6, .guard⟩ (by simp) rfl).2.1
          clear hd ho
          have hH : Holds w0 (hs ++ ([] ++ R)) w1 := hH
          subst hI
          unfold wpOp
          simp only [e7, e6]
          refine Or.inl ?_
          unfold Oper.wp
          go_simp
          exact OwnBy.mk _ _ _ rfl (rfl) (⟨rfl, rfl⟩) (hH)
        | 9, _ =>
          obtain rfl := Option.some.inj ho
          have e8 : f 8 = .pointer (some ⟨gl, 0, none⟩) := (hd ⟨8, .data⟩ (by simp) rfl).2.1
          have e6 : f 6 = .bool false := (hd ⟨6, .guard⟩ (by simp) rfl).2.1
          clear hd ho
          have hH : Holds w0 (hs ++ ([] ++ R)) w1 := hH
          subst hI
          unfold wpOp
          simp only [e8, e6]
          refine Or.inl ?_
          unfold Oper.wp
          go_simp
          exact OwnBy.mk _ _ _ rfl (rfl) (⟨rfl, rfl⟩) (hH)
        | 10, _ =>
          obtain rfl := Option.some.inj ho
          have e9 : f 9 = .pointer (some ⟨gl, 0, none⟩) := (hd ⟨9, .data⟩ (by simp) rfl).2.1
          have e6 : f 6 = .bool false := (hd ⟨6, .guard⟩ (by simp) rfl).2.1
          clear hd ho
          have hH : Holds w0 (hs ++ ([] ++ R)) w1 := hH
          subst hI
          unfold wpOp
          simp only [e9, e6]
          refine Or.inl ?_
          unfold Oper.wp
          have q0 : w1.cell? ⟨gl, 0, none⟩ = some (.pointer (some ⟨gd, 0, none⟩)) := hH.cell 0
          go_simp
          exact OwnBy.mk _ _ _ rfl (rfl) (⟨rfl, rfl⟩) (hH)
        | 11, _ =>
          obtain rfl := Option.some.inj ho
          have e10 : f 10 = .pointer (some ⟨gd, 0, none⟩) := (hd ⟨10, .data⟩ (by simp) rfl).2.1
          have e6 : f 6 = .bool false := (hd ⟨6, .guard⟩ (by simp) rfl).2.1
          clear hd ho
          have hH : Holds w0 (hs ++ ([] ++ R)) w1 := hH
          subst hI
          unfold wpOp
          simp only [e10, e6]
          refine Or.inl ?_
          unfold Oper.wp
          go_simp
          refine (lives_calls gd d hd (((gl, logO gd m (.slice A m.recs.length c)) :: (hr ++ hx)) ++ (F ++ R)) w0 w1 HD.out (hH.perm (by classical rw [List.perm_iff_count]; intro a; simp only [List.count_append, List.count_cons, List.count_nil]; omega))).mono ?_
          rintro e w3 ⟨rfl, rfl⟩
          exact OwnBy.mk _ _ _ rfl (rfl) (⟨rfl, rfl⟩) (hH)
        | 12, _ =>
          obtain rfl := Option.some.inj ho
          have e6 : f 6 = .bool false := (hd ⟨6, .guard⟩ (by simp) rfl).2.1
          clear hd ho
          have hH : Holds w0 (hs ++ ([] ++ R)) w1 := hH
          subst hI
          unfold wpOp
          simp only [e6]
          refine Or.inl ?_
          unfold Oper.wp
          go_simp
          exact OwnBy.mk _ _ _ rfl (rfl) (⟨rfl, rfl⟩) (hH)
        | 13, _ =>
          obtain rfl := Option.some.inj ho
          have e12 : f 12 = .pointer (some ⟨gl, 0, none⟩) := (hd ⟨12, .data⟩ (by simp) rfl).2.1
          have e6 : f 6 = .bool false := (hd ⟨6, .guard⟩ (by simp) rfl).2.1
          clear hd ho
          have hH : Holds w0 (hs ++ ([] ++ R)) w1 := hH
          subst hI
          unfold wpOp
          simp only [e12, e6]
          refine Or.inl ?_
          unfold Oper.wp
          go_simp
          exact OwnBy.mk _ _ _ rfl (rfl) (⟨rfl, rfl⟩) (hH)
        | 14, _ =>
          obtain rfl := Option.some.inj ho
          have e13 : f 13 = .pointer (some ⟨gl, 0, none⟩) := (hd ⟨13, .data⟩ (by simp) rfl).2.1
          have e6 : f 6 = .bool false := (hd ⟨6, .guard⟩ (by simp) rfl).2.1
          clear hd ho
          have hH : Holds w0 (hs ++ ([] ++ R)) w1 := hH
          subst hI
          unfold wpOp
          simp only [e13, e6]
          refine Or.inl ?_
          unfold Oper.wp
          go_simp
          exact OwnBy.mk _ _ _ rfl (rfl) (⟨rfl, rfl⟩) (hH)
        | 15, _ =>
          obtain rfl := Option.some.inj ho
          have e14 : f 14 = .pointer (some ⟨gl, 4, none⟩) := (hd ⟨14, .data⟩ (by simp) rfl).2.1
          have e6 : f 6 = .bool false := (hd ⟨6, .guard⟩ (by simp) rfl).2.1
          clear hd ho
          have hH : Holds w0 (hs ++ ([] ++ R)) w1 := hH
          subst hI
          unfold wpOp
          simp only [e14, e6]
          refine Or.inl ?_
          unfold Oper.wp
          have q0 : w1.cell? ⟨gl, 4, none⟩ = some (.int .i64 m.lives) := hH.cell 4
          go_simp
          exact OwnBy.mk _ _ _ rfl (rfl) (⟨rfl, rfl⟩) (hH)
        | 16, _ =>
          obtain rfl := Option.some.inj ho
          have e11 : f 11 = .int .i64 d.lives := (hd ⟨11, .data⟩ (by simp) rfl).2.1
          have e15 : f 15 = .int .i64 m.lives := (hd ⟨15, .data⟩ (by simp) rfl).2.1
          have e6 : f 6 = .bool false := (hd ⟨6, .guard⟩ (by simp) rfl).2.1
          clear hd ho
          have hH : Holds w0 (hs ++ ([] ++ R)) w1 := hH
          subst hI
          unfold wpOp
          simp only [e11, e15, e6]
          refine Or.inl ?_
          unfold Oper.wp
          go_simp
          exact OwnBy.mk _ _ _ rfl (rfl) (⟨rfl, rfl⟩) (hH)
        | 17, _ =>
          obtain rfl := Option.some.inj ho
          have e6 : f 6 = .bool false := (hd ⟨6, .data⟩ (by simp) rfl).2.1
          have e16 : f 16 = .bool (d.lives != m.lives) := (hd ⟨16, .data⟩ (by simp) rfl).2.1
          clear hd ho
          have hH : Holds w0 (hs ++ ([] ++ R)) w1 := hH
          subst hI
          unfold wpOp
          refine Or.inl ?_
          simp only [e6, e16]
          unfold Oper.wp
          go_simp
          exact OwnBy.mk _ _ _ rfl (rfl) (⟨rfl, rfl⟩) (hH)
        | _ + 18, h18 => exact absurd h18 (by omega)
      · intro Ls f Hf hs w1 hI hL hV hH
        have e0 : f 0 = .pointer (some ⟨gl, 0, none⟩) := (hV 0 (by decide)).1
        have e1 : f 1 = .pointer (some ⟨gl, 0, none⟩) := (hV 1 (by decide)).1
        have e2 : f 2 = .pointer (some ⟨gl, 0, none⟩) := (hV 2 (by decide)).1
        have e3 : f 3 = .pointer (some ⟨gd, 0, none⟩) := (hV 3 (by decide)).1
        have e4 : f 4 = .bool true := (hV 4 (by decide)).1
        have e5 : f 5 = .bool false := (hV 5 (by decide)).1
        have e6 : f 6 = .bool false := (hV 6 (by decide)).1
        have e7 : f 7 = .pointer (some ⟨gl, 0, none⟩) := (hV 7 (by decide)).1
        have e8 : f 8 = .pointer (some ⟨gl, 0, none⟩) := (hV 8 (by decide)).1
        have e9 : f 9 = .pointer (some ⟨gl, 0, none⟩) := (hV 9 (by decide)).1
        have e10 : f 10 = .pointer (some ⟨gd, 0, none⟩) := (hV 10 (by decide)).1
        have e11 : f 11 = .int .i64 d.lives := (hV 11 (by decide)).1
        have e12 : f 12 = .pointer (some ⟨gl, 0, none⟩) := (hV 12 (by decide)).1
        have e13 : f 13 = .pointer (some ⟨gl, 0, none⟩) := (hV 13 (by decide)).1
        have e14 : f 14 = .pointer (some ⟨gl, 4, none⟩) := (hV 14 (by decide)).1
        have e15 : f 15 = .int .i64 m.lives := (hV 15 (by decide)).1
        have e16 : f 16 = .bool (d.lives != m.lives) := (hV 16 (by decide)).1
        have e17 : f 17 = .bool (d.lives != m.lives) := (hV 17 (by decide)).1
        clear hV
        have hH : Holds w0 (hs ++ []) w1 := hH
        simp only [fill, List.take_succ_cons, List.take_zero, List.drop_succ_cons, List.drop_zero, Act.put, List.setIfInBounds_toArray, List.set_cons_zero, List.set_cons_succ, e0, e1, e2, e3, e4, e5, e6, e7, e8, e9, e10, e11, e12, e13, e14, e15, e16, e17]
        subst hI
        have HX := Lib.hid (show Holds w0 ((gl, logO gd m (.slice A m.recs.length c)) :: ((hr ++ hx) ++ (hd ++ F))) w1 from by simpa using hH)
        clear hH hL
        rw [HLV.out]
        have c5 : w1.cell? ⟨gl, 5, none⟩ = some (.bool m.done) := HX.out.cell 5
        have f5 : w1.frozen? ⟨gl, 5, none⟩ = false := HX.out.froz 5
        go_wp2_with fail
        go_ret
        refine ⟨by rw [HOF.out] <;> rfl, (gl, logO gd { m with done := offM d m } (.slice A m.recs.length c)) :: (hr ++ hx), ⟨A, c, vs, hr, hx, HR.out, HRS.out, rfl⟩, ?_⟩
        rw [HOF.out]
        exact HX.out.set 5 (.bool true)
  
end Go.Proofs.Ythgebchidkadhaa
