/- Versions in a row of their own: the place of a stamp (BinarySearchFunc): contracts for every world. Conditions: each theorem's own. -/
import Derived.Test.YtgkigcobaimccaaCm
import Derived.Test.YtgkigcobaimccaaQt
import Derived.Test.YtgkigcobaimccaaRi
import Derived.Laws.ResultCell
namespace Go.Proofs.Ytgkigcobaimccaa
open Go.RowKit Go.Proofs.Ytgkigcobaimccaa.Sp
set_option linter.unusedVariables false
set_option linter.unusedSimpArgs false
def vC (v : Ver) : Array Value := #[.int .i64 v.t, .int .u8 v.n, .string v.val, .bool v.gone]
def sC (t n : Int) : Array Value := #[.int .i64 t, .int .u8 n]
def verV (L : List Ver) : List Value := L.flatMap fun x => (vC x).toList
theorem verV_len : ∀ L : List Ver, (verV L).length = L.length * 4
  | [] => rfl
  | x :: L => by
    have := verV_len L
    simp only [verV, List.flatMap_cons, List.length_append, List.length_cons] at this ⊢
    rw [this]
    simp [vC]
    omega
theorem verV_app (L M : List Ver) : verV (L ++ M) = verV L ++ verV M := by simp [verV]
theorem verV_get : ∀ (L : List Ver) (k : Nat) (x : Ver), L[k]? = some x → ∀ j, j < 4 → (verV L)[k * 4 + j]? = (vC x)[j]?
  | [], k, x, h, _, _ => by simp at h
  | y :: L, 0, x, h, j, hj => by
    obtain rfl : y = x := by simpa using h
    simp only [verV, List.flatMap_cons, Nat.zero_mul, Nat.zero_add]
    rw [List.getElem?_append_left (by simpa [vC] using hj)]
    simp
  | y :: L, k + 1, x, h, j, hj => by
    have ih := verV_get L k x (by simpa using h) j hj
    simp only [verV, List.flatMap_cons] at ih ⊢
    rw [List.getElem?_append_right (by simp [vC]; omega)]
    rw [show (k + 1) * 4 + j - (vC y).toList.length = k * 4 + j by simp [vC]; omega]
    exact ih
theorem ver_one (L : List Ver) : ∀ u ∈ verV L, u.oneCell' = true := by
  intro u hu
  obtain ⟨x, hx, hu⟩ := List.mem_flatMap.mp hu
  simp only [vC, List.mem_cons, List.not_mem_nil, or_false] at hu
  rcases hu with rfl | rfl | rfl | rfl <;> rfl
theorem verV_take : ∀ (k : Nat) (L : List Ver), (verV L).take (k * 4) = verV (L.take k)
  | 0, L => by simp [verV]
  | k + 1, [] => by simp [verV]
  | k + 1, x :: L => by
    have ih := verV_take k L
    simp only [verV, List.flatMap_cons, List.take_succ_cons] at ih ⊢
    rw [← ih, show (k + 1) * 4 = (vC x).toList.length + k * 4 by simp [vC]; omega, List.take_length_add_append]
theorem verV_drop : ∀ (k : Nat) (L : List Ver), (verV L).drop (k * 4) = verV (L.drop k)
  | 0, L => by simp [verV]
  | k + 1, [] => by simp [verV]
  | k + 1, x :: L => by
    have ih := verV_drop k L
    simp only [verV, List.flatMap_cons, List.drop_succ_cons] at ih ⊢
    rw [← ih, show (k + 1) * 4 = (vC x).toList.length + k * 4 by simp [vC]; omega, List.drop_length_add_append]
theorem RowB.form {e : TypeId} {sz n : Nat} {v : Value} {xs : List Value} {h : Hp} (R : RowB e sz v n xs h) : ∃ A c, v = .slice A n c ∧ n ≤ c ∧ (A = none → c = 0) := by
  obtain ⟨h1, ⟨rfl, rfl, rfl⟩ | ⟨g, cap, cur, rfl, rfl, h2, h3, h4, h5⟩⟩ := R
  · exact ⟨none, 0, rfl, Nat.le_refl _, fun _ => rfl⟩
  · exact ⟨some ⟨g, 0, none⟩, cap, rfl, h2, fun h => by cases h⟩
theorem RowB.at_ {e : TypeId} {sz n : Nat} {v : Value} {xs : List Value} {h : Hp} (R : RowB e sz v n xs h) (hn : 0 < n) : ∃ gL c, v = .slice (some ⟨gL, 0, none⟩) n c ∧ n ≤ c ∧ ∀ w0 F w, Holds w0 (h ++ F) w → ∀ j u, xs[j]? = some u → w.cell? ⟨gL, j, none⟩ = some u := by
  have R' := R
  obtain ⟨h1, ⟨rfl, rfl, rfl⟩ | ⟨g, cap, cur, rfl, rfl, h2, h3, h4, h5⟩⟩ := R
  · omega
  · refine ⟨g, cap, rfl, h2, fun w0 F w H j u hj => ?_⟩
    obtain ⟨A, c, hv, _, _, hr⟩ := R'.reads H
    injection hv with hv
    subst hv
    have := hr.2.2 _ rfl j u hj
    have e : (⟨g, 0, none⟩ : Addr).add j = ⟨g, j, none⟩ := by simp [Addr.add]; omega
    rwa [e] at this
theorem ver_at {L : List Ver} {v : Value} {hr : Hp} (R : RowB 30 4 v L.length (verV L) hr) (k : Nat) (x : Ver) (hx : L[k]? = some x) : ∃ gL c, v = .slice (some ⟨gL, 0, none⟩) L.length c ∧ L.length ≤ c ∧
    ∀ w0 F w, Holds w0 (hr ++ F) w → w.cell? ⟨gL, k * 4, none⟩ = some (.int .i64 x.t) ∧ w.cell? ⟨gL, k * 4 + 1, none⟩ = some (.int .u8 x.n) ∧ w.cell? ⟨gL, k * 4 + 2, none⟩ = some (.string x.val) ∧ w.cell? ⟨gL, k * 4 + 3, none⟩ = some (.bool x.gone) := by
  obtain ⟨gL, c, hv, hc, hcs⟩ := RowB.at_ R (by have := (List.getElem?_eq_some_iff.mp hx).1; omega)
  refine ⟨gL, c, hv, hc, fun w0 F w H => ?_⟩
  have g := verV_get L k x hx
  have h0 := g 0 (by omega); have h1 := g 1 (by omega); have h2 := g 2 (by omega); have h3 := g 3 (by omega)
  exact ⟨hcs w0 F w H _ _ h0, hcs w0 F w H _ _ h1, hcs w0 F w H _ _ h2, hcs w0 F w H _ _ h3⟩
theorem clo_calls (x : Ver) (t n : Int) (w : World) : Calls Try.prog 34 #[.agg (vC x), .agg (sC t n)] w fun e w' => e = .returned (.int .i64 (cs x.t x.n t n)) ∧ Below w.heap.size w w' := by
  have HC := Lib.hid (fun w => cmp_calls x.t x.n t n w)
  have B2 : Below w.heap.size w ((w.alloc (.cells (vC x) 30)).alloc (.cells (sC t n) 24)) := ((Below.refl _ w).alloc (Nat.le_refl _) _).alloc (by simp) _
  have HB := Lib.hid B2
  have H0 := (Holds.nil w).alloc2 (.cells (vC x) 30) (.cells (sC t n) 24)
  have c0 : ((w.alloc (.cells (vC x) 30)).alloc (.cells (sC t n) 24)).cell? ⟨w.heap.size, 0, none⟩ = some (.int .i64 x.t) := H0.tail.cell 0
  have c1 : ((w.alloc (.cells (vC x) 30)).alloc (.cells (sC t n) 24)).cell? ⟨w.heap.size, 1, none⟩ = some (.int .u8 x.n) := H0.tail.cell 1
  have c2 : ((w.alloc (.cells (vC x) 30)).alloc (.cells (sC t n) 24)).cell? ⟨w.heap.size + 1, 0, none⟩ = some (.int .i64 t) := H0.cell 0
  have c3 : ((w.alloc (.cells (vC x) 30)).alloc (.cells (sC t n) 24)).cell? ⟨w.heap.size + 1, 1, none⟩ = some (.int .u8 n) := H0.cell 1
  clear B2 H0
  go_enter Try.func34, Try.ntmps34
  go_wp2_with fail
  refine (HC.out _).mono ?_
  rintro e w3 ⟨rfl, hb⟩
  have HB3 := Lib.hid (HB.out.trans (hb.mono HB.out.size))
  clear hb
  go_wp2_with fail
  go_ret
  exact ⟨rfl, HB3.out⟩
set_option maxRecDepth 100000 in
set_option maxHeartbeats 4000000 in
theorem bs_calls (v : Value) (L : List Ver) (t n : Int) (hr F : Hp) (w0 w : World) (hL : L.length ≤ 1000) (hri : Rise L) (R : RowB 30 4 v L.length (verV L) hr) (H : Holds w0 (hr ++ F) w) :
    Calls Try.prog 33 #[v, .agg (sC t n), .func (.func 34) #[] #[]] w fun e w' => e = .returned (.tuple #[.int .i64 (lo L t n).length, .bool (found L t n)]) ∧ Below w.heap.size w w' := by
  obtain ⟨A, c, rfl, hnc, _⟩ := RowB.form R
  have H0 := H.alloc (.cells (sC t n) 24)
  obtain ⟨P, hP⟩ : ∃ P, P = (lo L t n).length := ⟨_, rfl⟩
  have hPl : P ≤ L.length := by rw [hP]; exact lo_len L t n
  have HPI := Lib.hid (fun (k : Nat) (x : Ver) (hk : L[k]? = some x) => show cs x.t x.n t n < 0 ↔ k < P by have := lo_iff (t := t) (n := n) hri hk; rw [← hP] at this; rw [← this]; simp [bel])
  have HFA := Lib.hid (show found L t n = match L[P]? with | some v => decide (cs v.t v.n t n = 0) | none => false by rw [hP]; exact found_at L t n)
  rw [← hP]
  have HH := Lib.hid H0; have HR := Lib.hid R
  have HB0 := Lib.hid (show Below w.heap.size w (w.alloc (.cells (sC t n) 24)) from (Below.refl _ w).alloc (Nat.le_refl _) _)
  clear H H0 R hP hri
  go_enter Try.func33, Try.ntmps33
  go_wp2_with fail
  go_loopw [9, 10] (fun i j wr => ∃ a b : Nat, i = .int .i64 a ∧ j = .int .i64 b ∧ a ≤ P ∧ P ≤ b ∧ b ≤ L.length ∧ Below (w.alloc (.cells (sC t n) 24)).heap.size (w.alloc (.cells (sC t n) 24)) wr) (fun i j _ => (intOf j).toNat - (intOf i).toNat)
  case atStart => exact ⟨0, L.length, rfl, rfl, Nat.zero_le _, hPl, Nat.le_refl _, Below.refl _ _⟩
  case round =>
    obtain ⟨a, b, rfl, rfl, haP, hPb, hbL, hB⟩ := hrel
    have hH := HH.out.grow hB
    have HHR := Lib.hid hH
    have HS := Lib.hid (fun w' (hb : Below wr.heap.size wr w') => show w'.cell? ⟨w.heap.size, 0, none⟩ = some (.int .i64 t) ∧ w'.cell? ⟨w.heap.size, 1, none⟩ = some (.int .u8 n) from ⟨(hH.grow hb).cell 0, (hH.grow hb).cell 1⟩)
    have HBB := Lib.hid hB
    clear hH hB
    by_cases hab : a < b
    · obtain ⟨m, hm⟩ : ∃ m, m = (a + b) / 2 := ⟨_, rfl⟩
      have hm1 : a ≤ m := by omega
      have hm2 : m < b := by omega
      have hmL : m < L.length := by omega
      obtain ⟨y, hy⟩ : ∃ y, L[m]? = some y := ⟨_, List.getElem?_eq_getElem hmL⟩
      obtain ⟨gL, c', hv, hcc, hcs⟩ := ver_at HR.out m y hy
      obtain ⟨rfl, _, rfl⟩ := Value.slice.inj hv
      have HX := Lib.hid (fun w' (hb : Below wr.heap.size wr w') => hcs w0 _ w' ((HHR.out.grow hb).perm List.perm_middle.symm))
      obtain ⟨z, hz⟩ : ∃ z, cs y.t y.n t n = z := ⟨_, rfl⟩
      have hzi := HPI.out m y hy
      rw [hz] at hzi
      have HZ := Lib.hid hz
      have hmi : ((a : Int) + (b : Int)) / 2 = (m : Int) := by omega
      have hmL' : (m : Int) < (L.length : Int) := by omega
      clear hz hy hv hcs hm
      by_cases hz0 : z < 0
      · have hmP : m < P := hzi.mp hz0
        go_wp2_with fail
        refine region_quiet_lit (C := fun w' => Below wr.heap.size wr w') (by kernel_rfl) (by kernel_rfl) (Below.refl _ _).drew ?_
        go_big_quiet_step (exact fun _ => rfl)
        go_big_quiet_step (exact fun _ => rfl)
        go_big_quiet_step (exact fun _ => rfl)
        go_big_quiet_step (exact fun _ => rfl)
        refine BigFrame.wpQuiet_want rfl (fun K hK => ?_)
        refine quiet_val (.agg (vC y)) (fun w2 hw => by obtain ⟨q0, q1, q2, q3⟩ := HX.out w2 hw; simp [go_sem, q0, q1, q2, q3, vC]) (hK _ ?_)
        clear hK K
        simp only [Act.put, List.setIfInBounds_toArray, List.set_cons_zero, List.set_cons_succ]
        refine BigFrame.wpQuiet_want rfl (fun K hK => ?_)
        refine quiet_val (.agg (sC t n)) (fun w2 hw => by obtain ⟨q0, q1⟩ := HS.out w2 hw; simp [go_sem, q0, q1, sC]) (hK _ ?_)
        clear hK K
        simp only [Act.put, List.setIfInBounds_toArray, List.set_cons_zero, List.set_cons_succ]
        refine BigFrame.wpQuiet_want rfl (fun K hK => ?_)
        refine quiet_call 34 #[.agg (vC y), .agg (sC t n)] (.int .i64 z) (fun w2 => by simp [go_sem]) (fun w2 hw => by have := clo_calls y t n w2; rw [HZ.out] at this; exact this.mono fun e w3 hh => ⟨hh.1, hw.trans (hh.2.mono hw.size)⟩) (hK _ ?_)
        clear hK K
        simp only [Act.put, List.setIfInBounds_toArray, List.set_cons_zero, List.set_cons_succ]
        go_big_quiet_step (exact fun _ => rfl)
        refine wpQuiet_nil ?_
        intro w4 hw4
        have HB4 := Lib.hid (HBB.out.trans (hw4.mono HBB.out.size))
        clear hw4
        go_wp2_with fail
        go_roundw
        case rel => exact ⟨m + 1, b, by go_num, rfl, by omega, hPb, hbL, HB4.out⟩
        case measure => simp [intOf]; omega
      · have hmP : ¬ m < P := fun h => hz0 (hzi.mpr h)
        go_wp2_with fail
        refine region_quiet_lit (C := fun w' => Below wr.heap.size wr w') (by kernel_rfl) (by kernel_rfl) (Below.refl _ _).drew ?_
        go_big_quiet_step (exact fun _ => rfl)
        go_big_quiet_step (exact fun _ => rfl)
        go_big_quiet_step (exact fun _ => rfl)
        go_big_quiet_step (exact fun _ => rfl)
        refine BigFrame.wpQuiet_want rfl (fun K hK => ?_)
        refine quiet_val (.agg (vC y)) (fun w2 hw => by obtain ⟨q0, q1, q2, q3⟩ := HX.out w2 hw; simp [go_sem, q0, q1, q2, q3, vC]) (hK _ ?_)
        clear hK K
        simp only [Act.put, List.setIfInBounds_toArray, List.set_cons_zero, List.set_cons_succ]
        refine BigFrame.wpQuiet_want rfl (fun K hK => ?_)
        refine quiet_val (.agg (sC t n)) (fun w2 hw => by obtain ⟨q0, q1⟩ := HS.out w2 hw; simp [go_sem, q0, q1, sC]) (hK _ ?_)
        clear hK K
        simp only [Act.put, List.setIfInBounds_toArray, List.set_cons_zero, List.set_cons_succ]
        refine BigFrame.wpQuiet_want rfl (fun K hK => ?_)
        refine quiet_call 34 #[.agg (vC y), .agg (sC t n)] (.int .i64 z) (fun w2 => by simp [go_sem]) (fun w2 hw => by have := clo_calls y t n w2; rw [HZ.out] at this; exact this.mono fun e w3 hh => ⟨hh.1, hw.trans (hh.2.mono hw.size)⟩) (hK _ ?_)
        clear hK K
        simp only [Act.put, List.setIfInBounds_toArray, List.set_cons_zero, List.set_cons_succ]
        go_big_quiet_step (exact fun _ => rfl)
        refine wpQuiet_nil ?_
        intro w4 hw4
        have HB4 := Lib.hid (HBB.out.trans (hw4.mono HBB.out.size))
        clear hw4
        go_wp2_with fail
        go_roundw
        case rel => exact ⟨a, m, rfl, by go_num, haP, by omega, by omega, HB4.out⟩
        case measure => simp [intOf]; omega
    · obtain rfl : a = P := by omega
      obtain rfl : b = a := by omega
      by_cases hPL : b < L.length
      · obtain ⟨y, hy⟩ : ∃ y, L[b]? = some y := ⟨_, List.getElem?_eq_getElem hPL⟩
        obtain ⟨gL, c', hv, hcc, hcs⟩ := ver_at HR.out b y hy
        obtain ⟨rfl, _, rfl⟩ := Value.slice.inj hv
        have HX := Lib.hid (fun w' (hb : Below wr.heap.size wr w') => hcs w0 _ w' ((HHR.out.grow hb).perm List.perm_middle.symm))
        obtain ⟨z, hz⟩ : ∃ z, cs y.t y.n t n = z := ⟨_, rfl⟩
        have hfa := HFA.out
        rw [hy] at hfa
        simp only at hfa
        rw [hz] at hfa
        have HF := Lib.hid hfa
        have HZ := Lib.hid hz
        have hbL' : (b : Int) < (L.length : Int) := by omega
        clear hz hy hv hcs hfa
        go_wp2_with fail
        refine region_quiet_lit (C := fun w' => Below wr.heap.size wr w') (by kernel_rfl) (by kernel_rfl) (Below.refl _ _).drew ?_
        go_big_quiet_step (exact fun _ => rfl)
        go_big_quiet_step (exact fun _ => rfl)
        go_big_quiet_step (exact fun _ => rfl)
        go_big_quiet_step (exact fun _ => rfl)
        go_big_quiet_step (exact fun _ => rfl)
        go_big_quiet_step (exact fun _ => rfl)
        go_big_quiet_step (exact fun _ => rfl)
        go_big_quiet_step (exact fun _ => rfl)
        go_big_quiet_step (exact fun _ => rfl)
        refine BigFrame.wpQuiet_want rfl (fun K hK => ?_)
        refine quiet_val (.agg (vC y)) (fun w2 hw => by obtain ⟨q0, q1, q2, q3⟩ := HX.out w2 hw; simp [go_sem, q0, q1, q2, q3, vC]) (hK _ ?_)
        clear hK K
        simp only [Act.put, List.setIfInBounds_toArray, List.set_cons_zero, List.set_cons_succ]
        refine BigFrame.wpQuiet_want rfl (fun K hK => ?_)
        refine quiet_val (.agg (sC t n)) (fun w2 hw => by obtain ⟨q0, q1⟩ := HS.out w2 hw; simp [go_sem, q0, q1, sC]) (hK _ ?_)
        clear hK K
        simp only [Act.put, List.setIfInBounds_toArray, List.set_cons_zero, List.set_cons_succ]
        refine BigFrame.wpQuiet_want rfl (fun K hK => ?_)
        refine quiet_call 34 #[.agg (vC y), .agg (sC t n)] (.int .i64 z) (fun w2 => by simp [go_sem]) (fun w2 hw => by have := clo_calls y t n w2; rw [HZ.out] at this; exact this.mono fun e w3 hh => ⟨hh.1, hw.trans (hh.2.mono hw.size)⟩) (hK _ ?_)
        clear hK K
        simp only [Act.put, List.setIfInBounds_toArray, List.set_cons_zero, List.set_cons_succ]
        go_big_quiet_step (exact fun _ => rfl)
        go_big_quiet_step (exact fun _ => rfl)
        go_big_quiet_step (exact fun _ => rfl)
        go_big_quiet_step (exact fun _ => rfl)
        refine wpQuiet_nil ?_
        intro w4 hw4
        have HB4 := Lib.hid (HBB.out.trans (hw4.mono HBB.out.size))
        clear hw4
        go_wp2_with fail
        refine bodyPost_ret (v := .tuple #[.int .i64 b, .bool (z == 0)]) (by simp [results, Try.results33, go_sem]) rfl ⟨?_, HB0.out.trans (HB4.out.mono HB0.out.size)⟩
        rw [HF.out, show (z == 0) = decide (z = 0) by by_cases h : z = 0 <;> simp [h]]
      · have hfa := HFA.out
        rw [List.getElem?_eq_none (by omega)] at hfa
        simp only at hfa
        have HF := Lib.hid hfa
        obtain rfl : b = L.length := by omega
        clear hfa
        go_wp2_with fail
        refine region_quiet_lit (C := fun w' => Below wr.heap.size wr w') (by kernel_rfl) (by kernel_rfl) (Below.refl _ _).drew ?_
        go_big_quiet_step (exact fun _ => rfl)
        go_big_quiet_step (exact fun _ => rfl)
        go_big_quiet_step (exact fun _ => rfl)
        go_big_quiet_step (exact fun _ => rfl)
        go_big_quiet_step (exact fun _ => rfl)
        go_big_quiet_skip
        go_big_quiet_skip
        go_big_quiet_skip
        go_big_quiet_skip
        go_big_quiet_skip
        go_big_quiet_skip
        go_big_quiet_skip
        go_big_quiet_skip
        go_big_quiet_step (exact fun _ => rfl)
        go_big_quiet_step (exact fun _ => rfl)
        go_big_quiet_step (exact fun _ => rfl)
        refine wpQuiet_nil ?_
        intro w4 hw4
        have HB4 := Lib.hid (HBB.out.trans (hw4.mono HBB.out.size))
        clear hw4
        go_wp2_with fail
        refine bodyPost_ret (v := .tuple #[.int .i64 L.length, .bool false]) (by simp [results, Try.results33, go_sem]) rfl ⟨?_, HB0.out.trans (HB4.out.mono HB0.out.size)⟩
        rw [HF.out]
def chO (v : Value) : Obj := .cells #[v] 64 (0, 0)
/-- A chain in its blocks. -/
def IsC (g : Nat) (l : List Ver) (h : Hp) : Prop := ∃ v hr, RowB 30 4 v l.length (verV l) hr ∧ h = (g, chO v) :: hr ∧ Rise l ∧ l.length ≤ 50
set_option maxRecDepth 100000 in
set_option maxHeartbeats 4000000 in
theorem place_calls (g : Nat) (l : List Ver) (t n : Int) (h F : Hp) (w0 w : World) (hI : IsC g l h) (H : Holds w0 (h ++ F) w) :
    Calls Try.prog 27 #[.pointer (some ⟨g, 0, none⟩), .agg (sC t n)] w fun e w' => e = .returned (.tuple #[.int .i64 (lo l t n).length, .bool (found l t n)]) ∧ Below w.heap.size w w' := by
  obtain ⟨v, hr, hR, rfl, hri, hl⟩ := hI
  have H0 := H.alloc (.cells (sC t n) 24)
  obtain ⟨W, hW⟩ : ∃ W, W = w.alloc (.cells (sC t n) 24) := ⟨_, rfl⟩
  rw [← hW] at H0
  have HB0 := Lib.hid (show Below w.heap.size w W by rw [hW]; exact (Below.refl _ w).alloc (Nat.le_refl _) _)
  have HS := Lib.hid (fun w' (hb : Below W.heap.size W w') => show w'.cell? ⟨w.heap.size, 0, none⟩ = some (.int .i64 t) ∧ w'.cell? ⟨w.heap.size, 1, none⟩ = some (.int .u8 n) from ⟨(H0.grow hb).cell 0, (H0.grow hb).cell 1⟩)
  have HC := Lib.hid (fun w' (hb : Below W.heap.size W w') => show w'.cell? ⟨g, 0, none⟩ = some v from (H0.grow hb).tail.cell 0)
  have HK := Lib.hid (fun w' (hb : Below W.heap.size W w') => bs_calls v l t n hr ((w.heap.size, .cells (sC t n) 24) :: (g, chO v) :: F) w0 w' (by omega) hri hR ((H0.grow hb).perm (by classical rw [List.perm_iff_count]; intro a; simp only [List.count_append, List.count_cons, List.count_nil]; omega)))
  have HWb := Lib.hid hW
  obtain ⟨A, c, rfl, _, _⟩ := RowB.form hR
  clear hR hri H H0 hW
  go_enter Try.func27, Try.ntmps27
  go_wp2_with fail
  rw [← HWb.out]
  refine region_quiet_lit (C := fun w' => Below W.heap.size W w') (by kernel_rfl) (by kernel_rfl) (Below.refl _ _).drew ?_
  go_big_quiet_step (exact fun _ => rfl)
  go_big_quiet_step (exact fun _ => rfl)
  go_big_quiet_step (exact fun _ => rfl)
  refine BigFrame.wpQuiet_want rfl (fun K hK => ?_)
  refine quiet_val (.slice A l.length c) (fun w2 hw => by have q := HC.out w2 hw; simp [go_sem, q]) (hK _ ?_)
  clear hK K
  simp only [Act.put, List.setIfInBounds_toArray, List.set_cons_zero, List.set_cons_succ]
  refine BigFrame.wpQuiet_want rfl (fun K hK => ?_)
  refine quiet_val (.agg (sC t n)) (fun w2 hw => by obtain ⟨q0, q1⟩ := HS.out w2 hw; simp [go_sem, q0, q1, sC]) (hK _ ?_)
  clear hK K
  simp only [Act.put, List.setIfInBounds_toArray, List.set_cons_zero, List.set_cons_succ]
  refine BigFrame.wpQuiet_want rfl (fun K hK => ?_)
  refine quiet_call 33 #[.slice A l.length c, .agg (sC t n), .func (.func 34) #[] #[]] (.tuple #[.int .i64 (lo l t n).length, .bool (found l t n)]) (fun w2 => by simp [go_sem]) (fun w2 hw => (HK.out w2 hw).mono fun e w3 hh => ⟨hh.1, hw.trans (hh.2.mono hw.size)⟩) (hK _ ?_)
  clear hK K
  simp only [Act.put, List.setIfInBounds_toArray, List.set_cons_zero, List.set_cons_succ]
  go_big_quiet_step (exact fun _ => rfl)
  go_big_quiet_step (exact fun _ => rfl)
  go_big_quiet_step (exact fun _ => rfl)
  go_big_quiet_step (exact fun _ => rfl)
  refine wpQuiet_nil ?_
  intro w4 hw4
  have HB4 := Lib.hid (HB0.out.trans (hw4.mono HB0.out.size))
  clear hw4
  go_wp2_with fail
  exact bodyPost_ret (v := .tuple #[.int .i64 (lo l t n).length, .bool (found l t n)]) (by simp [results, Try.results27, go_sem]) rfl ⟨rfl, HB4.out⟩
end Go.Proofs.Ytgkigcobaimccaa
