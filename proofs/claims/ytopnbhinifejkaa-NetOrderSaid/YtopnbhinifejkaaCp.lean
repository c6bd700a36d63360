/- A net's Copy: a contract for every world. Conditions: each theorem's own. -/
import Derived.Test.YtopnbhinifejkaaTk
namespace Go.Proofs.Ytopnbhinifejkaa
open Go.RowKit Go.Proofs.Ytopnbhinifejkaa.Sp
set_option linter.unusedVariables false
set_option linter.unusedSimpArgs false
def copyM (m : NM) (k : Int) : Bool × NM := match atM m k with
  | some p => if (m.l.length : Int) < m.room then (true, { m with l := m.l ++ [p] }) else (false, m)
  | none => (false, m)
theorem at_has {m : NM} {k : Int} {r : Option Pk} (h : atM m k = r) : decide (0 ≤ k ∧ k < (m.l.length : Int)) = r.isSome := by
  subst h
  unfold atM
  by_cases h0 : 0 ≤ k
  · rw [if_pos h0]
    by_cases h1 : k < m.l.length
    · rw [List.getElem?_eq_getElem (by omega)]
      exact decide_eq_true ⟨h0, h1⟩
    · rw [List.getElem?_eq_none (by omega)]
      exact decide_eq_false (fun h => h1 h.2)
  · rw [if_neg h0]
    exact decide_eq_false (fun h => h0 h.1)
set_option maxRecDepth 100000 in
set_option maxHeartbeats 4000000 in
theorem copy_A (g : Nat) (m : NM) (h F : Hp) (k : Int) (w0 w : World) (hI : IsN g m h) (H : Holds w0 (h ++ F) w) (hat : atM m k = none) :
    Calls Try.prog 9 #[.pointer (some ⟨g, 0, none⟩), .int .i64 k] w fun e w' => e = .returned (.bool (copyM m k).1) ∧ ∃ h', IsN g (copyM m k).2 h' ∧ Holds w0 (h' ++ F) w' := by
  obtain ⟨mb, o, v2, L, hr, hp, hM, hR, hP, hml, rfl, hok⟩ := hI
  obtain ⟨AL, cL, rfl, _, _⟩ := RowB.form hR
  obtain ⟨W, hW⟩ : ∃ W, W = w := ⟨_, rfl⟩
  have hH1 : Holds w0 ((g, netO m.nodes m.room (.slice AL L.length cL) mb) :: (mb, o) :: (hr ++ hp) ++ F) W := by rw [hW]; exact H
  have HG := Lib.hid (fun w' (hb : Below W.heap.size W w') => show w'.heap[g]? = some (netO m.nodes m.room (.slice AL L.length cL) mb) from (hH1.grow hb).get)
  have HC1 := Lib.hid (fun w' (hb : Below W.heap.size W w') => show w'.cell? ⟨g, 1, none⟩ = some (.int .i64 m.room) from (hH1.grow hb).cell 1)
  have HC2 := Lib.hid (fun w' (hb : Below W.heap.size W w') => show w'.cell? ⟨g, 2, none⟩ = some (.slice AL L.length cL) from (hH1.grow hb).cell 2)
  have HM := Lib.hid hM; have HR := Lib.hid hR; have HP := Lib.hid hP; have HML := Lib.hid hml; have HOK := Lib.hid hok
  have HH := Lib.hid hH1
  have HWb := Lib.hid hW
  have hlen : m.l.length = L.length := by rw [hml]; simp
  have q : copyM m k = (false, m) := by unfold copyM; rw [hat]
  rw [q]
  have HHAS := Lib.hid (show decide (0 ≤ k ∧ k < (L.length : Int)) = false by have := at_has hat; rw [hlen] at this; exact this)
  clear hM hR hP hml hok hH1 H hW q hat
  go_enter Try.func9, Try.ntmps9
  go_wp2_with fail
  rw [← HWb.out]
  refine region_quiet_lit (C := fun w' => Below W.heap.size W w') (by kernel_rfl) (by kernel_rfl) (Below.refl _ _).drew ?_
  go_big_quiet_step (exact fun _ => rfl)
  go_big_quiet_step (exact fun _ => rfl)
  refine BigFrame.wpQuiet_want rfl (fun K hK => ?_)
  refine quiet_call 27 #[.pointer (some ⟨g, 0, none⟩), .int .i64 k] (.bool false) (fun w2 => by simp [go_sem]) (fun w2 hw => (has_calls g m.nodes m.room k AL L.length cL mb w2 (HG.out w2 hw)).mono fun e w3 hh => ⟨by rw [hh.1, HHAS.out], by rw [hh.2]; exact hw⟩) (hK _ ?_)
  clear hK K
  simp only [Act.put, List.setIfInBounds_toArray, List.set_cons_zero, List.set_cons_succ]
  go_big_quiet_step (exact fun _ => rfl)
  go_big_quiet_step (exact fun _ => rfl)
  go_big_quiet_skip
  go_big_quiet_skip
  go_big_quiet_skip
  go_big_quiet_skip
  go_big_quiet_skip
  go_big_quiet_skip
  go_big_quiet_skip
  go_big_quiet_skip
  go_big_quiet_skip
  go_big_quiet_skip
  go_big_quiet_step (exact fun _ => rfl)
  refine wpQuiet_nil ?_
  intro w4 hw4
  have HH4 := Lib.hid (HH.out.grow hw4)
  clear hw4
  go_wp2_with fail
  go_ret
  exact ⟨rfl, _, ⟨mb, o, _, L, hr, hp, HM.out, HR.out, HP.out, HML.out, rfl, HOK.out⟩, HH4.out⟩
set_option maxRecDepth 100000 in
set_option maxHeartbeats 4000000 in
theorem copy_B (g : Nat) (m : NM) (h F : Hp) (k : Int) (w0 w : World) (hI : IsN g m h) (H : Holds w0 (h ++ F) w) (p : Pk) (hat : atM m k = some p) (hfu : ¬ (m.l.length : Int) < m.room) :
    Calls Try.prog 9 #[.pointer (some ⟨g, 0, none⟩), .int .i64 k] w fun e w' => e = .returned (.bool (copyM m k).1) ∧ ∃ h', IsN g (copyM m k).2 h' ∧ Holds w0 (h' ++ F) w' := by
  obtain ⟨mb, o, v2, L, hr, hp, hM, hR, hP, hml, rfl, hok⟩ := hI
  obtain ⟨AL, cL, rfl, _, _⟩ := RowB.form hR
  obtain ⟨W, hW⟩ : ∃ W, W = w := ⟨_, rfl⟩
  have hH1 : Holds w0 ((g, netO m.nodes m.room (.slice AL L.length cL) mb) :: (mb, o) :: (hr ++ hp) ++ F) W := by rw [hW]; exact H
  have HG := Lib.hid (fun w' (hb : Below W.heap.size W w') => show w'.heap[g]? = some (netO m.nodes m.room (.slice AL L.length cL) mb) from (hH1.grow hb).get)
  have HC1 := Lib.hid (fun w' (hb : Below W.heap.size W w') => show w'.cell? ⟨g, 1, none⟩ = some (.int .i64 m.room) from (hH1.grow hb).cell 1)
  have HC2 := Lib.hid (fun w' (hb : Below W.heap.size W w') => show w'.cell? ⟨g, 2, none⟩ = some (.slice AL L.length cL) from (hH1.grow hb).cell 2)
  have HM := Lib.hid hM; have HR := Lib.hid hR; have HP := Lib.hid hP; have HML := Lib.hid hml; have HOK := Lib.hid hok
  have HH := Lib.hid hH1
  have HWb := Lib.hid hW
  have hlen : m.l.length = L.length := by rw [hml]; simp
  have q : copyM m k = (false, m) := by unfold copyM; rw [hat]; exact if_neg hfu
  rw [q]
  have HHAS := Lib.hid (show decide (0 ≤ k ∧ k < (L.length : Int)) = true by have := at_has hat; rw [hlen] at this; exact this)
  rw [hlen] at hfu
  have hfull : decide (m.room ≤ (L.length : Int)) = true := decide_eq_true (by omega)
  clear hM hR hP hml hok hH1 H hW q hat
  go_enter Try.func9, Try.ntmps9
  go_wp2_with fail
  rw [← HWb.out]
  refine region_quiet_lit (C := fun w' => Below W.heap.size W w') (by kernel_rfl) (by kernel_rfl) (Below.refl _ _).drew ?_
  go_big_quiet_step (exact fun _ => rfl)
  go_big_quiet_step (exact fun _ => rfl)
  refine BigFrame.wpQuiet_want rfl (fun K hK => ?_)
  refine quiet_call 27 #[.pointer (some ⟨g, 0, none⟩), .int .i64 k] (.bool true) (fun w2 => by simp [go_sem]) (fun w2 hw => (has_calls g m.nodes m.room k AL L.length cL mb w2 (HG.out w2 hw)).mono fun e w3 hh => ⟨by rw [hh.1, HHAS.out], by rw [hh.2]; exact hw⟩) (hK _ ?_)
  clear hK K
  simp only [Act.put, List.setIfInBounds_toArray, List.set_cons_zero, List.set_cons_succ]
  go_big_quiet_step (exact fun _ => rfl)
  go_big_quiet_step (exact fun _ => rfl)
  go_big_quiet_step (exact fun _ => rfl)
  go_big_quiet_step (exact fun _ => rfl)
  go_big_quiet_step (exact fun _ => rfl)
  refine BigFrame.wpQuiet_want rfl (fun K hK => ?_)
  refine quiet_val (.slice AL L.length cL) (fun w2 hw => by have q := HC2.out w2 hw; simp [go_sem, q]) (hK _ ?_)
  clear hK K
  simp only [Act.put, List.setIfInBounds_toArray, List.set_cons_zero, List.set_cons_succ]
  go_big_quiet_step (exact fun _ => rfl)
  go_big_quiet_step (exact fun _ => rfl)
  go_big_quiet_step (exact fun _ => rfl)
  go_big_quiet_step (exact fun _ => rfl)
  refine BigFrame.wpQuiet_want rfl (fun K hK => ?_)
  refine quiet_val (.int .i64 m.room) (fun w2 hw => by have q := HC1.out w2 hw; simp [go_sem, q]) (hK _ ?_)
  clear hK K
  simp only [Act.put, List.setIfInBounds_toArray, List.set_cons_zero, List.set_cons_succ]
  go_big_quiet_step (exact fun _ => rfl)
  go_big_quiet_step (exact fun _ => rfl)
  refine wpQuiet_nil ?_
  intro w4 hw4
  have HH4 := Lib.hid (HH.out.grow hw4)
  clear hw4
  go_wp2_with fail
  go_ret
  exact ⟨rfl, _, ⟨mb, o, _, L, hr, hp, HM.out, HR.out, HP.out, HML.out, rfl, HOK.out⟩, HH4.out⟩
set_option maxRecDepth 100000 in
set_option maxHeartbeats 4000000 in
theorem copy_C (g : Nat) (m : NM) (h F : Hp) (k : Int) (w0 w : World) (hI : IsN g m h) (H : Holds w0 (h ++ F) w) (p : Pk) (hat : atM m k = some p) (hfu : (m.l.length : Int) < m.room) :
    Calls Try.prog 9 #[.pointer (some ⟨g, 0, none⟩), .int .i64 k] w fun e w' => e = .returned (.bool (copyM m k).1) ∧ ∃ h', IsN g (copyM m k).2 h' ∧ Holds w0 (h' ++ F) w' := by
  obtain ⟨mb, o, v2, L, hr, hp, hM, hR, hP, hml, rfl, hok⟩ := hI
  obtain ⟨AL, cL, rfl, _, _⟩ := RowB.form hR
  obtain ⟨W, hW⟩ : ∃ W, W = w := ⟨_, rfl⟩
  have hH1 : Holds w0 ((g, netO m.nodes m.room (.slice AL L.length cL) mb) :: (mb, o) :: (hr ++ hp) ++ F) W := by rw [hW]; exact H
  have HG := Lib.hid (fun w' (hb : Below W.heap.size W w') => show w'.heap[g]? = some (netO m.nodes m.room (.slice AL L.length cL) mb) from (hH1.grow hb).get)
  have HC1 := Lib.hid (fun w' (hb : Below W.heap.size W w') => show w'.cell? ⟨g, 1, none⟩ = some (.int .i64 m.room) from (hH1.grow hb).cell 1)
  have HC2 := Lib.hid (fun w' (hb : Below W.heap.size W w') => show w'.cell? ⟨g, 2, none⟩ = some (.slice AL L.length cL) from (hH1.grow hb).cell 2)
  have HM := Lib.hid hM; have HR := Lib.hid hR; have HP := Lib.hid hP; have HML := Lib.hid hml; have HOK := Lib.hid hok
  have HH := Lib.hid hH1
  have HWb := Lib.hid hW
  have hlen : m.l.length = L.length := by rw [hml]; simp
  have q : copyM m k = (true, { m with l := m.l ++ [p] }) := by unfold copyM; rw [hat]; exact if_pos hfu
  rw [q]
  have hhas := at_has hat
  rw [hlen] at hhas hfu
  have HHAS := Lib.hid (show decide (0 ≤ k ∧ k < (L.length : Int)) = true from hhas)
  have hfull : decide (m.room ≤ (L.length : Int)) = false := decide_eq_false (by omega)
  have hk2 := of_decide_eq_true hhas
  obtain ⟨k, rfl⟩ : ∃ k' : Nat, k = k' := ⟨k.toNat, by omega⟩
  have hkL : k < L.length := by omega
  have hk0 : (0 : Int) ≤ k := hk2.1
  have hkI : (k : Int) < (L.length : Int) := hk2.2
  obtain ⟨gL, c', x, AX, cX, hx, hp', hv2, hlc, hxk, hA, hcX, RX, hpp, hcs⟩ := pk_at (w0 := w0) (w := w) (F := F) hR hP k hkL
  obtain ⟨rfl, _, rfl⟩ := Value.slice.inj hv2
  obtain ⟨xv, xp⟩ := x
  simp only at hA
  subst hA
  have hpx : xp = p := by
    unfold atM at hat
    rw [if_pos hk0, hml, Int.toNat_natCast, List.getElem?_map, hxk] at hat
    exact Option.some.inj hat
  subst hpx
  rename Pk => p
  have hpm : p ∈ m.l := by rw [hml]; exact List.mem_map.mpr ⟨_, List.mem_of_getElem? hxk, rfl⟩
  have hl := hok.small p hpm
  have HWF := Lib.hid (hok.wf p hpm)
  have HRX := Lib.hid RX; have HPP := Lib.hid hpp; have HCS0 := Lib.hid hcs
  clear hM hR hP hml hok hH1 H hW q hat hhas hk2 hv2 hxk RX hpp hcs hpm hk0
  go_enter Try.func9, Try.ntmps9
  go_wp2_with fail
  rw [← HWb.out]
  refine region_quiet_lit (C := fun w' => Below W.heap.size W w') (by kernel_rfl) (by kernel_rfl) (Below.refl _ _).drew ?_
  go_big_quiet_step (exact fun _ => rfl)
  go_big_quiet_step (exact fun _ => rfl)
  refine BigFrame.wpQuiet_want rfl (fun K hK => ?_)
  refine quiet_call 27 #[.pointer (some ⟨g, 0, none⟩), .int .i64 k] (.bool true) (fun w2 => by simp [go_sem]) (fun w2 hw => (has_calls g m.nodes m.room k (some ⟨gL, 0, none⟩) L.length cL mb w2 (HG.out w2 hw)).mono fun e w3 hh => ⟨by rw [hh.1, HHAS.out], by rw [hh.2]; exact hw⟩) (hK _ ?_)
  clear hK K
  simp only [Act.put, List.setIfInBounds_toArray, List.set_cons_zero, List.set_cons_succ]
  go_big_quiet_step (exact fun _ => rfl)
  go_big_quiet_step (exact fun _ => rfl)
  go_big_quiet_step (exact fun _ => rfl)
  go_big_quiet_step (exact fun _ => rfl)
  go_big_quiet_step (exact fun _ => rfl)
  refine BigFrame.wpQuiet_want rfl (fun K hK => ?_)
  refine quiet_val (.slice (some ⟨gL, 0, none⟩) L.length cL) (fun w2 hw => by have q := HC2.out w2 hw; simp [go_sem, q]) (hK _ ?_)
  clear hK K
  simp only [Act.put, List.setIfInBounds_toArray, List.set_cons_zero, List.set_cons_succ]
  go_big_quiet_step (exact fun _ => rfl)
  go_big_quiet_step (exact fun _ => rfl)
  go_big_quiet_step (exact fun _ => rfl)
  go_big_quiet_step (exact fun _ => rfl)
  refine BigFrame.wpQuiet_want rfl (fun K hK => ?_)
  refine quiet_val (.int .i64 m.room) (fun w2 hw => by have q := HC1.out w2 hw; simp [go_sem, q]) (hK _ ?_)
  clear hK K
  simp only [Act.put, List.setIfInBounds_toArray, List.set_cons_zero, List.set_cons_succ]
  go_big_quiet_step (exact fun _ => rfl)
  go_big_quiet_step (exact fun _ => rfl)
  refine wpQuiet_nil ?_
  intro w4 hw4
  obtain ⟨W2, hW2⟩ : ∃ W2, W2 = w4.drew := ⟨_, rfl⟩
  have h0 := (HH.out.grow hw4).drew
  rw [← hW2] at h0
  have h1 : Holds w0 (hr ++ (((g, netO m.nodes m.room (.slice (some ⟨gL, 0, none⟩) L.length cL) mb) :: (mb, o) :: hp) ++ F)) W2 := h0.perm (by classical rw [List.perm_iff_count]; intro a; simp only [List.count_append, List.count_cons, List.count_nil]; omega)
  have HHW := Lib.hid h1
  have h2 : Holds w0 (hx ++ (hp' ++ (hr ++ ((g, netO m.nodes m.room (.slice (some ⟨gL, 0, none⟩) L.length cL) mb) :: (mb, o) :: F)))) W2 := by
    refine h1.perm ?_
    refine ((((HPP.out.append_right F).cons _).cons _).append_left hr).trans ?_
    classical rw [List.perm_iff_count]; intro a; simp only [List.count_append, List.count_cons, List.count_nil]; omega
  obtain ⟨A', c'', hv', _, _, hrd⟩ := HRX.out.reads h2
  obtain ⟨rfl, _, rfl⟩ := Value.slice.inj hv'
  have HRDb := Lib.hid (fun w' (hb : Below W2.heap.size W2 w') => hrd.below hb)
  have HCS := Lib.hid (fun w' (hb : Below W2.heap.size W2 w') => HCS0.out w0 _ w' (h1.grow hb))
  have HC2b := Lib.hid (show W2.cell? ⟨g, 2, none⟩ = some (.slice (some ⟨gL, 0, none⟩) L.length cL) from h0.cell 2)
  have hLn : L.length ≤ 1000000 := by have := HOK.out.room; omega
  have hfu' : (m.l.length : Int) < m.room := by rw [hlen]; exact hfu
  have HW2 := Lib.hid hW2
  clear hw4 h0 h1 hW2 h2 hrd hv'
  go_wp2_with fail
  refine wp_region_vals3 15 (by kernel_rfl) (by kernel_rfl) (by kernel_rfl) (fun Ls w' => SdI 14 4 13 12 11 W2 ⟨g, 2, none⟩ (.slice (some ⟨gL, 0, none⟩) L.length cL) Ls w') (SdS 14 W2) (fun i w v => match i with | 0 => v = .pointer (some ⟨g, 0, none⟩) | 1 => v = .pointer (some ⟨g, 0, none⟩) | 2 => v = .pointer (some ⟨g, 0, none⟩) | 3 => v = .pointer (some ⟨g, 2, none⟩) | 4 => v = .slice (some ⟨gL, 0, none⟩) L.length cL | 5 => v = .pointer (some ⟨g, 0, none⟩) | 6 => v = .pointer (some ⟨g, 0, none⟩) | 7 => v = .pointer (some ⟨g, 2, none⟩) | 8 => v = .slice (some ⟨gL, 0, none⟩) L.length cL | 9 => v = .int .i64 k | 10 => v = .pointer (some ⟨gL, k * 3, none⟩) | 11 => v = (Value.agg (pkC (.slice AX p.b.length cX) p)) | 12 => New6 W2 p w v | 13 => New7 W2 p w v | 14 => New8 w0 ((g, netO m.nodes m.room (.slice (some ⟨gL, 0, none⟩) L.length cL) mb) :: (mb, o) :: hp) F L.length (pksV L) p w v | _ => True) (by rw [← HW2.out]; exact ⟨fun h => (by cases h), fun h => (by cases h), fun h => (by cases h), fun _ => Below.refl _ _, HC2b.out⟩) ?_ ?_ ?_
  · intro i k v w1 w2 hne hS h
    match i, h with
    | 0, h => exact h
    | 1, h => exact h
    | 2, h => exact h
    | 3, h => exact h
    | 4, h => exact h
    | 5, h => exact h
    | 6, h => exact h
    | 7, h => exact h
    | 8, h => exact h
    | 9, h => exact h
    | 10, h => exact h
    | 11, h => exact h
    | 12, h => exact New6.stab hS h
    | 13, h => exact New7.stab hS h
    | 14, h => exact New8.stab hne hS h
    | _ + 15, h => exact trivial
  · intro i o hi ho Ls f w1 hI hL hd
    match i, hi with
    | 0, _ =>
      obtain rfl := Option.some.inj ho
      have q2 : w1.cell? ⟨g, 2, none⟩ = some (.slice (some ⟨gL, 0, none⟩) L.length cL) := hI.2.2.2.2
      clear hd ho
      unfold wpOp
      refine Or.inl ?_
      simp only [fill, List.take_succ_cons, List.take_zero, Act.put, List.setIfInBounds_toArray, List.set_cons_zero, List.set_cons_succ]
      unfold Oper.wp
      go_simp
      exact LeftBy.mk _ rfl (hI) (SdS.below (Below.refl _ _)) (rfl)
    | 1, _ =>
      obtain rfl := Option.some.inj ho
      have q2 : w1.cell? ⟨g, 2, none⟩ = some (.slice (some ⟨gL, 0, none⟩) L.length cL) := hI.2.2.2.2
      clear hd ho
      unfold wpOp
      refine Or.inl ?_
      simp only [fill, List.take_succ_cons, List.take_zero, Act.put, List.setIfInBounds_toArray, List.set_cons_zero, List.set_cons_succ]
      unfold Oper.wp
      go_simp
      exact LeftBy.mk _ rfl (hI) (SdS.below (Below.refl _ _)) (rfl)
    | 2, _ =>
      obtain rfl := Option.some.inj ho
      have e1 : f 1 = .pointer (some ⟨g, 0, none⟩) := (hd ⟨1, .data⟩ (by simp) rfl).2
      have q2 : w1.cell? ⟨g, 2, none⟩ = some (.slice (some ⟨gL, 0, none⟩) L.length cL) := hI.2.2.2.2
      clear hd ho
      unfold wpOp
      refine Or.inl ?_
      simp only [fill, List.take_succ_cons, List.take_zero, Act.put, List.setIfInBounds_toArray, List.set_cons_zero, List.set_cons_succ, e1]
      unfold Oper.wp
      go_simp
      exact LeftBy.mk _ rfl (hI) (SdS.below (Below.refl _ _)) (rfl)
    | 3, _ =>
      obtain rfl := Option.some.inj ho
      have e2 : f 2 = .pointer (some ⟨g, 0, none⟩) := (hd ⟨2, .data⟩ (by simp) rfl).2
      have q2 : w1.cell? ⟨g, 2, none⟩ = some (.slice (some ⟨gL, 0, none⟩) L.length cL) := hI.2.2.2.2
      clear hd ho
      unfold wpOp
      refine Or.inl ?_
      simp only [fill, List.take_succ_cons, List.take_zero, Act.put, List.setIfInBounds_toArray, List.set_cons_zero, List.set_cons_succ, e2]
      unfold Oper.wp
      go_simp
      exact LeftBy.mk _ rfl (hI) (SdS.below (Below.refl _ _)) (rfl)
    | 4, _ =>
      obtain rfl := Option.some.inj ho
      have e3 : f 3 = .pointer (some ⟨g, 2, none⟩) := (hd ⟨3, .data⟩ (by simp) rfl).2
      have q2 : w1.cell? ⟨g, 2, none⟩ = some (.slice (some ⟨gL, 0, none⟩) L.length cL) := hI.2.2.2.2
      clear hd ho
      unfold wpOp
      refine Or.inl ?_
      simp only [fill, List.take_succ_cons, List.take_zero, Act.put, List.setIfInBounds_toArray, List.set_cons_zero, List.set_cons_succ, e3]
      unfold Oper.wp
      go_simp
      exact LeftBy.mk _ rfl (⟨fun h => ⟨rfl, (hI.1 h).2⟩, hI.2.1, hI.2.2.1, hI.2.2.2.1, hI.2.2.2.2⟩) (SdS.below (Below.refl _ _)) (rfl)
    | 5, _ =>
      obtain rfl := Option.some.inj ho
      have q2 : w1.cell? ⟨g, 2, none⟩ = some (.slice (some ⟨gL, 0, none⟩) L.length cL) := hI.2.2.2.2
      clear hd ho
      unfold wpOp
      refine Or.inl ?_
      simp only [fill, List.take_succ_cons, List.take_zero, Act.put, List.setIfInBounds_toArray, List.set_cons_zero, List.set_cons_succ]
      unfold Oper.wp
      go_simp
      exact LeftBy.mk _ rfl (hI) (SdS.below (Below.refl _ _)) (rfl)
    | 6, _ =>
      obtain rfl := Option.some.inj ho
      have e5 : f 5 = .pointer (some ⟨g, 0, none⟩) := (hd ⟨5, .data⟩ (by simp) rfl).2
      have q2 : w1.cell? ⟨g, 2, none⟩ = some (.slice (some ⟨gL, 0, none⟩) L.length cL) := hI.2.2.2.2
      clear hd ho
      unfold wpOp
      refine Or.inl ?_
      simp only [fill, List.take_succ_cons, List.take_zero, Act.put, List.setIfInBounds_toArray, List.set_cons_zero, List.set_cons_succ, e5]
      unfold Oper.wp
      go_simp
      exact LeftBy.mk _ rfl (hI) (SdS.below (Below.refl _ _)) (rfl)
    | 7, _ =>
      obtain rfl := Option.some.inj ho
      have e6 : f 6 = .pointer (some ⟨g, 0, none⟩) := (hd ⟨6, .data⟩ (by simp) rfl).2
      have q2 : w1.cell? ⟨g, 2, none⟩ = some (.slice (some ⟨gL, 0, none⟩) L.length cL) := hI.2.2.2.2
      clear hd ho
      unfold wpOp
      refine Or.inl ?_
      simp only [fill, List.take_succ_cons, List.take_zero, Act.put, List.setIfInBounds_toArray, List.set_cons_zero, List.set_cons_succ, e6]
      unfold Oper.wp
      go_simp
      exact LeftBy.mk _ rfl (hI) (SdS.below (Below.refl _ _)) (rfl)
    | 8, _ =>
      obtain rfl := Option.some.inj ho
      have e7 : f 7 = .pointer (some ⟨g, 2, none⟩) := (hd ⟨7, .data⟩ (by simp) rfl).2
      have q2 : w1.cell? ⟨g, 2, none⟩ = some (.slice (some ⟨gL, 0, none⟩) L.length cL) := hI.2.2.2.2
      clear hd ho
      unfold wpOp
      refine Or.inl ?_
      simp only [fill, List.take_succ_cons, List.take_zero, Act.put, List.setIfInBounds_toArray, List.set_cons_zero, List.set_cons_succ, e7]
      unfold Oper.wp
      go_simp
      exact LeftBy.mk _ rfl (hI) (SdS.below (Below.refl _ _)) (rfl)
    | 9, _ =>
      obtain rfl := Option.some.inj ho
      have q2 : w1.cell? ⟨g, 2, none⟩ = some (.slice (some ⟨gL, 0, none⟩) L.length cL) := hI.2.2.2.2
      clear hd ho
      unfold wpOp
      refine Or.inl ?_
      simp only [fill, List.take_succ_cons, List.take_zero, Act.put, List.setIfInBounds_toArray, List.set_cons_zero, List.set_cons_succ]
      unfold Oper.wp
      go_simp
      exact LeftBy.mk _ rfl (hI) (SdS.below (Below.refl _ _)) (rfl)
    | 10, _ =>
      obtain rfl := Option.some.inj ho
      have e8 : f 8 = .slice (some ⟨gL, 0, none⟩) L.length cL := (hd ⟨8, .data⟩ (by simp) rfl).2
      have e9 : f 9 = .int .i64 k := (hd ⟨9, .data⟩ (by simp) rfl).2
      have q2 : w1.cell? ⟨g, 2, none⟩ = some (.slice (some ⟨gL, 0, none⟩) L.length cL) := hI.2.2.2.2
      clear hd ho
      unfold wpOp
      refine Or.inl ?_
      simp only [fill, List.take_succ_cons, List.take_zero, Act.put, List.setIfInBounds_toArray, List.set_cons_zero, List.set_cons_succ, e8, e9]
      unfold Oper.wp
      go_simp
      exact LeftBy.mk _ rfl (hI) (SdS.below (Below.refl _ _)) (rfl)
    | 11, _ =>
      obtain rfl := Option.some.inj ho
      have e10 : f 10 = .pointer (some ⟨gL, k * 3, none⟩) := (hd ⟨10, .data⟩ (by simp) rfl).2
      have q2 : w1.cell? ⟨g, 2, none⟩ = some (.slice (some ⟨gL, 0, none⟩) L.length cL) := hI.2.2.2.2
      clear hd ho
      unfold wpOp
      refine Or.inl ?_
      simp only [fill, List.take_succ_cons, List.take_zero, Act.put, List.setIfInBounds_toArray, List.set_cons_zero, List.set_cons_succ, e10]
      unfold Oper.wp
      have hN := hI.no 11 (by simp) hL
      obtain ⟨q5, q6, q7⟩ := HCS.out w1 hN.2
      go_simp
      exact LeftBy.mk _ rfl (⟨hI.1, hI.2.1, fun _ => rfl, hI.2.2.2.1, hI.2.2.2.2⟩) (SdS.below (Below.refl _ _)) (rfl)
    | 12, _ =>
      obtain rfl := Option.some.inj ho
      have e11 : f 11 = (Value.agg (pkC (.slice AX p.b.length cX) p)) := (hd ⟨11, .data⟩ (by simp) rfl).2
      have hLd : Ls 11 = true := (hd ⟨11, .data⟩ (by simp) rfl).1
      have q2 : w1.cell? ⟨g, 2, none⟩ = some (.slice (some ⟨gL, 0, none⟩) L.length cL) := hI.2.2.2.2
      clear hd ho
      unfold wpOp
      refine Or.inl ?_
      simp only [fill, List.take_succ_cons, List.take_zero, Act.put, List.setIfInBounds_toArray, List.set_cons_zero, List.set_cons_succ, e11]
      unfold Oper.wp
      have hN := hI.no 12 (by simp) hL
      go_simp
      refine (copied_calls (.slice AX p.b.length cX) p AX cX w1 w1 [] rfl hcX (HRDb.out w1 hN.2) (by omega) (Holds.nil w1)).mono ?_
      rintro e w3 ⟨v6, rfl, h6, R6, hH6⟩
      have HB := hH6.below
      exact LeftBy.mk _ rfl ⟨fun h => absurd (show Ls 14 = true from h) (by rw [hN.1]; decide), fun _ => rfl, fun _ => hLd, fun h => hN.2.trans (HB.mono hN.2.size), cell_grow hI.2.2.2.2 HB⟩ (SdS.below HB) ⟨v6, h6, rfl, R6, fun x hx => ⟨hH6.mem (List.mem_append_left _ hx), Nat.le_trans hN.2.size (hH6.at_ x (List.mem_append_left _ hx)).2⟩⟩
    | 13, _ =>
      obtain rfl := Option.some.inj ho
      have e12 := (hd ⟨12, .data⟩ (by simp) rfl).2
      have hLc : Ls 12 = true := (hd ⟨12, .data⟩ (by simp) rfl).1
      obtain ⟨v6, h6, e12, R6, x6⟩ := e12
      have q2 : w1.cell? ⟨g, 2, none⟩ = some (.slice (some ⟨gL, 0, none⟩) L.length cL) := hI.2.2.2.2
      clear hd ho
      unfold wpOp
      refine Or.inl ?_
      simp only [fill, List.take_succ_cons, List.take_zero, Act.put, List.setIfInBounds_toArray, List.set_cons_zero, List.set_cons_succ, e12]
      unfold Oper.wp
      have hN := hI.no 13 (by simp) hL
      have HB : Below w1.heap.size w1 (w1.alloc (.cells (pkC v6 p) 31)) := (Below.refl _ _).alloc (Nat.le_refl _) _
      rw [show pkC v6 p = #[.int .i64 p.fr, .int .i64 p.dt, v6] from rfl]
      go_simp
      exact LeftBy.mk _ rfl ⟨fun h => absurd (show Ls 14 = true from h) (by rw [hN.1]; decide), fun _ => hLc, hI.2.2.1, fun h => hN.2.trans (HB.mono hN.2.size), cell_grow hI.2.2.2.2 HB⟩ (SdS.below HB) ⟨w1.heap.size, v6, h6, rfl, heap_alloc_new w1 _, hN.2.size, R6, fun x hx => ⟨(HB.block _ (lt_of_block (x6 x hx).1)).trans (x6 x hx).1, (x6 x hx).2⟩⟩
    | 14, _ =>
      obtain rfl := Option.some.inj ho
      have e4 : f 4 = .slice (some ⟨gL, 0, none⟩) L.length cL := (hd ⟨4, .data⟩ (by simp) rfl).2
      have hLa : Ls 4 = true := (hd ⟨4, .data⟩ (by simp) rfl).1
      have e13 := (hd ⟨13, .data⟩ (by simp) rfl).2
      have hLb : Ls 13 = true := (hd ⟨13, .data⟩ (by simp) rfl).1
      obtain ⟨b7, v7, h7, e13, c7, l7, R7, x7⟩ := e13
      have q2 : w1.cell? ⟨g, 2, none⟩ = some (.slice (some ⟨gL, 0, none⟩) L.length cL) := hI.2.2.2.2
      clear hd ho
      unfold wpOp
      refine Or.inl ?_
      simp only [fill, List.take_succ_cons, List.take_zero, Act.put, List.setIfInBounds_toArray, List.set_cons_zero, List.set_cons_succ, e4, e13]
      unfold Oper.wp
      have hN := hI.no 14 (by simp) hL
      obtain ⟨A7, c7', rfl, _, _⟩ := RowB.form R7
      obtain ⟨v8, h8, w8, hrun, r1, r2, r3, r4⟩ := pk_append2 (W := W2) HR.out HHW.out (HHW.out.grow hN.2) hN.2.size 56 b7 (.slice A7 p.b.length c7') p rfl c7 hLn R7 x7 hN.2
      have H9 : Holds w0 (h8 ++ (((g, netO m.nodes m.room (.slice (some ⟨gL, 0, none⟩) L.length cL) mb) :: (mb, o) :: hp) ++ (h7 ++ F))) w8 := r2.perm (by classical rw [List.perm_iff_count]; intro a; simp only [List.count_append, List.count_cons, List.count_nil]; omega)
      obtain ⟨A8, c8, rfl, _, _⟩ := RowB.form r1
      refine wpA (.tmp 25) (.tmp 34) rfl rfl rfl hrun ?_
      have H10 : Holds w0 ((g, netO m.nodes m.room (.slice (some ⟨gL, 0, none⟩) L.length cL) mb) :: (h8 ++ ((mb, o) :: hp ++ (h7 ++ F)))) w8 := H9.perm (by classical rw [List.perm_iff_count]; intro a; simp only [List.count_append, List.count_cons, List.count_nil]; omega)
      exact LeftBy.mk _ rfl ⟨fun _ => ⟨hLa, hLb⟩, hI.2.1, hI.2.2.1, fun h => (by cases h), H10.cell 2⟩ ⟨r3, fun h => absurd rfl h, r4⟩ ⟨_, h7, h8, r1, R7, H9⟩
  · intro Ls f w1 hI hL hV
    have e0 : f 0 = .pointer (some ⟨g, 0, none⟩) := hV 0 (by decide) (by simp)
    have e1 : f 1 = .pointer (some ⟨g, 0, none⟩) := hV 1 (by decide) (by simp)
    have e2 : f 2 = .pointer (some ⟨g, 0, none⟩) := hV 2 (by decide) (by simp)
    have e3 : f 3 = .pointer (some ⟨g, 2, none⟩) := hV 3 (by decide) (by simp)
    have e4 : f 4 = .slice (some ⟨gL, 0, none⟩) L.length cL := hV 4 (by decide) (by simp)
    have e5 : f 5 = .pointer (some ⟨g, 0, none⟩) := hV 5 (by decide) (by simp)
    have e6 : f 6 = .pointer (some ⟨g, 0, none⟩) := hV 6 (by decide) (by simp)
    have e7 : f 7 = .pointer (some ⟨g, 2, none⟩) := hV 7 (by decide) (by simp)
    have e8 : f 8 = .slice (some ⟨gL, 0, none⟩) L.length cL := hV 8 (by decide) (by simp)
    have e9 : f 9 = .int .i64 k := hV 9 (by decide) (by simp)
    have e10 : f 10 = .pointer (some ⟨gL, k * 3, none⟩) := hV 10 (by decide) (by simp)
    have e11 : f 11 = (Value.agg (pkC (.slice AX p.b.length cX) p)) := hV 11 (by decide) (by simp)
    have e12 := hV 12 (by decide) (by simp)
    obtain ⟨v6, h6, e12, R6, x6⟩ := e12
    have e13 := hV 13 (by decide) (by simp)
    obtain ⟨b7, v7, h7, e13, c7, l7, R7, x7⟩ := e13
    have e14 := hV 14 (by decide) (by simp)
    obtain ⟨v8, h8, k8, R8, S8, H8⟩ := e14
    clear hV hL
    simp only [fill, List.take_succ_cons, List.take_zero, List.drop_succ_cons, List.drop_zero, Act.put, List.setIfInBounds_toArray, List.set_cons_zero, List.set_cons_succ, e0, e1, e2, e3, e4, e5, e6, e7, e8, e9, e10, e11, e12, e13]
    obtain ⟨A8, c8, hv8, _, _⟩ := RowB.form R8
    rw [hv8] at R8 ⊢
    have H9 : Holds w0 ((g, netO m.nodes m.room (.slice (some ⟨gL, 0, none⟩) L.length cL) mb) :: ((mb, o) :: (k8 ++ (hp ++ (h8 ++ F))))) w1 := H8.perm (by classical rw [List.perm_iff_count]; intro a; simp only [List.count_append, List.count_cons, List.count_nil]; omega)
    have q2 : w1.cell? ⟨g, 2, none⟩ = some (.slice (some ⟨gL, 0, none⟩) L.length cL) := H9.cell 2
    have q3 : w1.frozen? ⟨g, 2, none⟩ = false := H9.froz 2
    have HNN := Lib.hid (show Holds w0 ((g, netO m.nodes m.room (.slice A8 (L.length + 1) c8) mb) :: ((mb, o) :: (k8 ++ (hp ++ (h8 ++ F))))) _ from H9.set 2 (.slice A8 (L.length + 1) c8))
    have HR8 := Lib.hid R8; have HS8 := Lib.hid S8
    clear hI H8 R8 S8 H9 hv8
    go_wp2_with fail
    go_ret
    refine ⟨rfl, _, ⟨mb, o, .slice A8 (L.length + 1) c8, L ++ [(v8, p)], k8, hp ++ (h8 ++ []), HM.out, ?_, HP.out.app ⟨h8, [], HS8.out, rfl, rfl⟩, by rw [HML.out]; simp, rfl, ?_⟩, HNN.out.perm ?_⟩
    · rw [pksV_app, List.length_append]; simpa [pksV] using HR8.out
    · exact ok_add HOK.out hfu' p hl HWF.out
    · simp only [List.append_nil]
      exact (by classical rw [List.perm_iff_count]; intro a; simp only [List.count_append, List.count_cons, List.count_nil]; omega)
theorem copy_calls (g : Nat) (m : NM) (h F : Hp) (k : Int) (w0 w : World) (hI : IsN g m h) (H : Holds w0 (h ++ F) w) :
    Calls Try.prog 9 #[.pointer (some ⟨g, 0, none⟩), .int .i64 k] w fun e w' => e = .returned (.bool (copyM m k).1) ∧ ∃ h', IsN g (copyM m k).2 h' ∧ Holds w0 (h' ++ F) w' := by
  cases hat : atM m k with
  | none => exact copy_A g m h F k w0 w hI H hat
  | some p =>
    by_cases hfu : (m.l.length : Int) < m.room
    · exact copy_C g m h F k w0 w hI H p hat hfu
    · exact copy_B g m h F k w0 w hI H p hat hfu
end Go.Proofs.Ytopnbhinifejkaa
