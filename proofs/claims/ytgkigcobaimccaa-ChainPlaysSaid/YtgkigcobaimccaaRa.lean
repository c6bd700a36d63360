/- The document's own versions: at a time, the newest: contracts for every world. Conditions: each theorem's own. -/
import Derived.Test.YtgkigcobaimccaaRc
namespace Go.Proofs.Ytgkigcobaimccaa
open Go.RowKit Go.Proofs.Ytgkigcobaimccaa.Sp
set_option linter.unusedVariables false
set_option linter.unusedSimpArgs false
theorem Sp.Holds.alloc3 {w0 w : World} {h : Hp} (H : Holds w0 h w) (o o' o'' : Obj) : Holds w0 ((w.heap.size + 1 + 1, o'') :: (w.heap.size + 1, o') :: (w.heap.size, o) :: h) (((w.alloc o).alloc o').alloc o'') := by
  have := (H.alloc2 o o').alloc o''
  have e : ((w.alloc o).alloc o').heap.size = w.heap.size + 1 + 1 := by simp
  rwa [e] at this
theorem res23 (tmps : Array Value) (W : World) (v : Ver) (b : Bool) (g : Nat) (h4 : tmps.getD 6 undef = .pointer (some ⟨g, 0, none⟩)) (h5 : tmps.getD 7 undef = .bool b) (H : W.heap[g]? = some (.cells (oC v) 49 (0, 0))) :
    (results Try.f23 tmps).run Try.prog W = .ok (.tuple #[.agg (oC v), .bool b]) W := by
  have hr := run_loadVar_row (P := Try.prog) W g 49 49 (oC v) (0, 0) _ H Try.underlying49 rfl (info49 v)
  rw [results_cell_tmp Try.results23, h4, h5]
  simp [asAddr, hr, Result.andThen]
theorem res25 (tmps : Array Value) (W : World) (t n : Int) (b : Bool) (g : Nat) (h4 : tmps.getD 4 undef = .pointer (some ⟨g, 0, none⟩)) (h5 : tmps.getD 5 undef = .bool b) (H : W.heap[g]? = some (.cells (sC t n) 24 (0, 0))) :
    (results Try.f25 tmps).run Try.prog W = .ok (.tuple #[.agg (sC t n), .bool b]) W := by
  have hr := run_loadVar_row (P := Try.prog) W g 24 24 (sC t n) (0, 0) _ H Try.underlying24 rfl (info24 t n)
  rw [results_cell_tmp Try.results25, h4, h5]
  simp [asAddr, hr, Result.andThen]
theorem stS {ops : Array Oper} {rest : List Oper} {dst : Option Tmp} {ty : TypeId} {pos : String} {af : Array Edge} {a : Act} {w : World} {Q : Exit → Act → World → Prop} (x y : Operand) (g : Nat) (t n t' n' : Int)
    (hx : a.eval x = .pointer (some ⟨g, 0, none⟩)) (hy : a.eval y = .agg (sC t n)) (hg : w.heap[g]? = some (.cells (sC t' n') 24 (0, 0)))
    (hh : wpList Try.prog ops Q rest (a.put dst undef) (w.setRow g (sC t n))) : wpList Try.prog ops Q ({ dst := dst, op := .store 24 x y, type := ty, pos := pos, after := af, guard := none } :: rest) a w :=
  wpList_store_row rfl 24 x y rfl g (sC t n) hx hy 24 (sC t' n') hg (info24 t n) rfl (by simp [sC, Value.oneCell']) hh
theorem isR_read {r : Nat} {L : List Ver} {h F : Hp} {w0 w : World} (hI : IsR r L h) (H : Holds w0 (h ++ F) w) : ∃ A b c, (0 < L.length → A = some ⟨b, 0, none⟩) ∧ Rise L ∧ L.length ≤ 50 ∧ ∀ w', Below w.heap.size w w' → w'.cell? ⟨r, 0, none⟩ = some (.slice A L.length c) ∧ Ro b L w' := by
  obtain ⟨v, hr, hR, rfl, hri, hl⟩ := hI
  obtain ⟨A, b, c, rfl, e1, hro⟩ := ro_row hR
  exact ⟨A, b, c, e1, hri, hl, fun w' hb => ⟨(H.grow hb).cell 0, hro _ _ _ ((H.grow hb).perm (k := hr ++ ((r, .cells #[.slice A L.length c] 43) :: F)) (by classical rw [List.perm_iff_count]; intro a; simp only [List.count_append, List.count_cons, List.count_nil]; omega))⟩⟩
set_option maxRecDepth 100000 in
set_option maxHeartbeats 4000000 in
theorem rat_calls (r : Nat) (L : List Ver) (t n : Int) (h F : Hp) (w0 w : World) (hI : IsR r L h) (H : Holds w0 (h ++ F) w) :
    Calls Try.prog 23 #[.pointer (some ⟨r, 0, none⟩), .agg kz, .agg (sC t n)] w fun e w' => e = .returned (.tuple #[.agg (oC ((verAt L t n).getD v0)), .bool (verAt L t n).isSome]) ∧ Below w.heap.size w w' := by
  obtain ⟨A, b, c, e1, hri, hl, hrd⟩ := isR_read hI H
  obtain ⟨W, hW⟩ : ∃ W, W = ((w.alloc (.cells kz 47)).alloc (.cells (sC t n) 24)).alloc (.cells #[.int .u8 0, .int .u8 0, .int .u8 0, .int .u8 0, .int .u8 0, .int .u8 0, .int .u8 0, .int .u8 0, .int .u8 0, .int .u8 0, .int .u8 0, .int .u8 0, .int .u8 0, .int .u8 0, .int .u8 0, .int .u8 0, .int .i64 0, .int .u8 0, .string ⟨#[]⟩, .bool false] 49) := ⟨_, rfl⟩
  have H0 : Holds w ((w.heap.size + 1 + 1, .cells (oC v0) 49) :: (w.heap.size + 1, .cells (sC t n) 24) :: (w.heap.size, .cells kz 47) :: []) W := by rw [hW]; exact (Holds.nil w).alloc3 _ _ _
  have HRD := Lib.hid hrd
  have HH := Lib.hid H0
  have HWb := Lib.hid hW
  have HRI := Lib.hid hri
  have hul := until_le L t n
  obtain ⟨U, hU⟩ : ∃ U, U = untilN L t n := ⟨_, rfl⟩
  have HVA := Lib.hid (show verAt L t n = if U = 0 then none else L[U - 1]? by rw [hU]; rfl)
  have HUI := Lib.hid (fun (k : Nat) (x : Ver) (hk : L[k]? = some x) => show cs x.t x.n t n ≤ 0 ↔ k < U by rw [hU]; exact until_iff hri hk)
  rw [← hU] at hul
  have c0 : W.cell? ⟨r, 0, none⟩ = some (.slice A L.length c) := (hrd W H0.below).1
  have r1 := (hrd W H0.below).2
  have hk0 : W.rangeAt w.heap.size 0 kz.toList := range_own H0.tail.tail
  have HK0 := Lib.hid hk0
  have HCH := Lib.hid (rchain_calls r b c A L W c0 e1 r1 (by omega))
  clear H H0 hrd hW hri hI hU c0 r1 hk0
  go_enter Try.func23, Try.ntmps23
  go_wp2_with (with_reducible refine ldKm (.tmp 4) w.heap.size 0 rfl (by rw [← HWb.out]; exact HK0.out) ?_)
  rw [← HWb.out]
  refine HCH.out.mono ?_
  rintro e w1 ⟨rfl, hb⟩
  have HB1 := Lib.hid hb
  clear hb HCH
  go_wp2_with fail
  go_loopw [10] (fun i wr => ∃ m : Nat, U ≤ m ∧ m ≤ L.length ∧ i = .int .i64 ((m : Int) - 1) ∧ Below W.heap.size W wr) (fun i _ => ((intOf i) + 1).toNat)
  case atStart => exact ⟨L.length, hul, Nat.le_refl _, rfl, HB1.out⟩
  case round =>
    obtain ⟨m, hUm, hmL, rfl, hB⟩ := hrel
    have HBr := Lib.hid hB
    have HHr := Lib.hid (HH.out.grow hB)
    have HRr := Lib.hid (HRD.out wr (HHr.out.below))
    clear hB
    cases m with
    | zero =>
      obtain rfl : U = 0 := by omega
      have hva := HVA.out
      rw [if_pos rfl] at hva
      have HV := Lib.hid hva
      have g1 : wr.heap[w.heap.size + 1 + 1]? = some (.cells (oC v0) 49 (0, 0)) := HHr.out.get
      have G2 := Lib.hid (show (wr.setRow (w.heap.size + 1 + 1) (oC v0)).heap[w.heap.size + 1 + 1]? = some (.cells (oC v0) 49 (0, 0)) from setRow_heap _ _ _ _ _ _ g1)
      have HBX := Lib.hid (HHr.out.below.grown (row_grown wr (w.heap.size + 1 + 1) (oC v0)) HHr.out.below.size (by rintro k hk; injection hk with hk; omega))
      clear hva
      go_wp2_with (with_reducible refine stO (.tmp 6) (.tmp 42) (w.heap.size + 1 + 1) v0 v0 rfl rfl g1 ?_)
      exact bodyPost_ret (v := .tuple #[.agg (oC v0), .bool false]) (res23 _ _ _ _ (w.heap.size + 1 + 1) rfl rfl G2.out) rfl ⟨by rw [HV.out]; rfl, HBX.out⟩
    | succ k =>
      rw [show ((k + 1 : Nat) : Int) - 1 = (k : Int) by omega]
      obtain rfl := e1 (by omega)
      obtain ⟨x, hx⟩ : ∃ x, L[k]? = some x := ⟨_, List.getElem?_eq_getElem (by omega)⟩
      have hui := HUI.out k x hx
      have HXX := Lib.hid hx
      have HC := Lib.hid (fun w' (hb : Below wr.heap.size wr w') => (HRD.out w' (HHr.out.grow hb).below).1)
      have HO := Lib.hid (fun w' (hb : Below wr.heap.size wr w') => show w'.rangeAt b (k * 20) (oC x).toList from (HRD.out w' (HHr.out.grow hb).below).2.at_ hx)
      have HS := Lib.hid (fun w' (hb : Below wr.heap.size wr w') => show w'.cell? ⟨w.heap.size + 1, 0, none⟩ = some (.int .i64 t) ∧ w'.cell? ⟨w.heap.size + 1, 1, none⟩ = some (.int .u8 n) from ⟨(HHr.out.grow hb).tail.cell 0, (HHr.out.grow hb).tail.cell 1⟩)
      have hki : (k : Int) < (L.length : Int) := by omega
      have hki0 : ¬ (k : Int) < 0 := by omega
      clear hx
      by_cases hle : cs x.t x.n t n ≤ 0
      · have hUk : U = k + 1 := by have := hui.mp hle; omega
        have hva := HVA.out
        rw [hUk, if_neg (by omega), Nat.add_sub_cancel, HXX.out] at hva
        have HV := Lib.hid hva
        clear hva hui hUk
        go_wp2_with fail
        refine region_quiet_lit (C := fun w' => Below wr.heap.size wr w') (by kernel_rfl) (by kernel_rfl) (Below.refl _ _).drew ?_
        go_big_quiet_step (exact fun _ => rfl)
        go_big_quiet_step (exact fun _ => rfl)
        go_big_quiet_step (exact fun _ => rfl)
        refine BigFrame.wpQuiet_want rfl (fun K hK => ?_)
        refine quiet_val (.slice (some ⟨b, 0, none⟩) L.length c) (fun w2 hw => by have q := HC.out w2 hw; simp [go_sem, q]) (hK _ ?_)
        clear hK K
        simp only [Act.put, List.setIfInBounds_toArray, List.set_cons_zero, List.set_cons_succ]
        go_big_quiet_step (exact fun _ => rfl)
        go_big_quiet_step (exact fun _ => rfl)
        go_big_quiet_step (exact fun _ => rfl)
        refine BigFrame.wpQuiet_want rfl (fun K hK => ?_)
        refine quiet_val (.agg (sC x.t x.n)) (fun w2 hw => by obtain ⟨q0, q1, _, _⟩ := stamp_of (HO.out w2 hw); simp [go_sem, q0, q1, sC]) (hK _ ?_)
        clear hK K
        simp only [Act.put, List.setIfInBounds_toArray, List.set_cons_zero, List.set_cons_succ]
        refine BigFrame.wpQuiet_want rfl (fun K hK => ?_)
        refine quiet_val (.agg (sC t n)) (fun w2 hw => by obtain ⟨q0, q1⟩ := HS.out w2 hw; simp [go_sem, q0, q1, sC]) (hK _ ?_)
        clear hK K
        simp only [Act.put, List.setIfInBounds_toArray, List.set_cons_zero, List.set_cons_succ]
        refine BigFrame.wpQuiet_want rfl (fun K hK => ?_)
        refine quiet_call 9 #[.agg (sC x.t x.n), .agg (sC t n)] (.int .i64 (cs x.t x.n t n)) (fun w2 => by simp [go_sem]) (fun w2 hw => (rcmp_calls x.t x.n t n w2).mono fun e w3 hh => ⟨hh.1, hw.trans (hh.2.mono hw.size)⟩) (hK _ ?_)
        clear hK K
        simp only [Act.put, List.setIfInBounds_toArray, List.set_cons_zero, List.set_cons_succ]
        go_big_quiet_step (exact fun _ => rfl)
        refine wpQuiet_nil ?_
        intro w4 hw4
        have h4 := HHr.out.grow hw4
        have HH4 := Lib.hid h4
        have c4 := HC.out w4 hw4
        have o4 := HO.out w4 hw4
        have HO4 := Lib.hid o4
        have g1 : (w4).heap[w.heap.size + 1 + 1]? = some (.cells (oC v0) 49 (0, 0)) := h4.get
        have G2 := Lib.hid (show (w4.setRow (w.heap.size + 1 + 1) (oC x)).heap[w.heap.size + 1 + 1]? = some (.cells (oC x) 49 (0, 0)) from setRow_heap _ _ _ _ _ _ g1)
        have HBX := Lib.hid (h4.below.grown (row_grown w4 (w.heap.size + 1 + 1) (oC x)) h4.below.size (by rintro k hk; injection hk with hk; omega))
        clear hw4 h4 o4
        go_wp2_with (first | (with_reducible refine ldOm (.tmp 40) b (k * 20) x rfl HO4.out ?_) | (with_reducible refine stO (.tmp 6) (.tmp 41) (w.heap.size + 1 + 1) x v0 rfl rfl g1 ?_))
        exact bodyPost_ret (v := .tuple #[.agg (oC x), .bool true]) (res23 _ _ _ _ (w.heap.size + 1 + 1) rfl rfl G2.out) rfl ⟨by rw [HV.out]; rfl, HBX.out⟩
      · have hUk : U ≤ k := by
          rcases Nat.lt_or_ge k U with h | h
          · exact absurd (hui.mpr h) hle
          · exact h
        clear hui
        go_wp2_with fail
        refine region_quiet_lit (C := fun w' => Below wr.heap.size wr w') (by kernel_rfl) (by kernel_rfl) (Below.refl _ _).drew ?_
        go_big_quiet_step (exact fun _ => rfl)
        go_big_quiet_step (exact fun _ => rfl)
        go_big_quiet_step (exact fun _ => rfl)
        refine BigFrame.wpQuiet_want rfl (fun K hK => ?_)
        refine quiet_val (.slice (some ⟨b, 0, none⟩) L.length c) (fun w2 hw => by have q := HC.out w2 hw; simp [go_sem, q]) (hK _ ?_)
        clear hK K
        simp only [Act.put, List.setIfInBounds_toArray, List.set_cons_zero, List.set_cons_succ]
        go_big_quiet_step (exact fun _ => rfl)
        go_big_quiet_step (exact fun _ => rfl)
        go_big_quiet_step (exact fun _ => rfl)
        refine BigFrame.wpQuiet_want rfl (fun K hK => ?_)
        refine quiet_val (.agg (sC x.t x.n)) (fun w2 hw => by obtain ⟨q0, q1, _, _⟩ := stamp_of (HO.out w2 hw); simp [go_sem, q0, q1, sC]) (hK _ ?_)
        clear hK K
        simp only [Act.put, List.setIfInBounds_toArray, List.set_cons_zero, List.set_cons_succ]
        refine BigFrame.wpQuiet_want rfl (fun K hK => ?_)
        refine quiet_val (.agg (sC t n)) (fun w2 hw => by obtain ⟨q0, q1⟩ := HS.out w2 hw; simp [go_sem, q0, q1, sC]) (hK _ ?_)
        clear hK K
        simp only [Act.put, List.setIfInBounds_toArray, List.set_cons_zero, List.set_cons_succ]
        refine BigFrame.wpQuiet_want rfl (fun K hK => ?_)
        refine quiet_call 9 #[.agg (sC x.t x.n), .agg (sC t n)] (.int .i64 (cs x.t x.n t n)) (fun w2 => by simp [go_sem]) (fun w2 hw => (rcmp_calls x.t x.n t n w2).mono fun e w3 hh => ⟨hh.1, hw.trans (hh.2.mono hw.size)⟩) (hK _ ?_)
        clear hK K
        simp only [Act.put, List.setIfInBounds_toArray, List.set_cons_zero, List.set_cons_succ]
        go_big_quiet_step (exact fun _ => rfl)
        refine wpQuiet_nil ?_
        intro w4 hw4
        have HB4 := Lib.hid (HBr.out.trans (hw4.mono HBr.out.size))
        clear hw4
        go_wp2_with fail
        go_roundw
        case rel => exact ⟨k, hUk, by omega, by go_num, HB4.out⟩
        case measure => simp [intOf] <;> omega
set_option maxRecDepth 100000 in
set_option maxHeartbeats 4000000 in
theorem rnewest_calls (r : Nat) (L : List Ver) (h F : Hp) (w0 w : World) (hI : IsR r L h) (H : Holds w0 (h ++ F) w) :
    Calls Try.prog 25 #[.pointer (some ⟨r, 0, none⟩), .agg kz] w fun e w' => e = .returned (.tuple #[.agg (sC ((newest L).getD v0).t ((newest L).getD v0).n), .bool (newest L).isSome]) ∧ Below w.heap.size w w' := by
  obtain ⟨A, b, c, e1, hri, hl, hrd⟩ := isR_read hI H
  obtain ⟨W, hW⟩ : ∃ W, W = (w.alloc (.cells kz 47)).alloc (.cells #[.int .i64 0, .int .u8 0] 24) := ⟨_, rfl⟩
  have H0 : Holds w ((w.heap.size + 1, .cells (sC 0 0) 24) :: (w.heap.size, .cells kz 47) :: []) W := by rw [hW]; exact (Holds.nil w).alloc2 _ _
  have HRD := Lib.hid hrd
  have HH := Lib.hid H0
  have HWb := Lib.hid hW
  have c0 : W.cell? ⟨r, 0, none⟩ = some (.slice A L.length c) := (hrd W H0.below).1
  have r1 := (hrd W H0.below).2
  have HK0 := Lib.hid (show W.rangeAt w.heap.size 0 kz.toList from range_own H0.tail)
  have HCH := Lib.hid (rchain_calls r b c A L W c0 e1 r1 (by omega))
  clear H H0 hrd hW hri hI c0 r1
  go_enter Try.func25, Try.ntmps25
  go_wp2_with (with_reducible refine ldKm (.tmp 3) w.heap.size 0 rfl (by rw [← HWb.out]; exact HK0.out) ?_)
  rw [← HWb.out]
  refine HCH.out.mono ?_
  rintro e w1 ⟨rfl, hb⟩
  have h1 := HH.out.grow hb
  have g1 : w1.heap[w.heap.size + 1]? = some (.cells (sC 0 0) 24 (0, 0)) := h1.get
  have HH1 := Lib.hid h1
  by_cases hL : L = []
  · subst hL
    have G2 := Lib.hid (show (w1.setRow (w.heap.size + 1) (sC 0 0)).heap[w.heap.size + 1]? = some (.cells (sC 0 0) 24 (0, 0)) from setRow_heap _ _ _ _ _ _ g1)
    have HBX := Lib.hid (h1.below.grown (row_grown w1 (w.heap.size + 1) (sC 0 0)) h1.below.size (by rintro k hk; injection hk with hk; omega))
    clear hb h1 HCH
    simp only [List.length_nil]
    go_wp2_with (with_reducible refine stS (.tmp 4) (.tmp 17) (w.heap.size + 1) 0 0 0 0 rfl rfl g1 ?_)
    exact bodyPost_ret (v := .tuple #[.agg (sC 0 0), .bool false]) (res25 _ _ _ _ _ (w.heap.size + 1) rfl rfl G2.out) rfl ⟨rfl, HBX.out⟩
  · have hpos : 0 < L.length := by
      cases L with
      | nil => exact absurd rfl hL
      | cons _ _ => simp
    obtain rfl := e1 hpos
    obtain ⟨m, hm⟩ : ∃ m, m = L.length - 1 := ⟨_, rfl⟩
    obtain ⟨y, hy⟩ : ∃ y, L[m]? = some y := ⟨_, List.getElem?_eq_getElem (by omega)⟩
    have HV := Lib.hid (show newest L = some y by unfold newest; rw [← hm]; exact hy)
    have hmm : (L.length : Int) - 1 = (m : Int) := by omega
    have hml : m < L.length := by omega
    have hml' : (m : Int) < (L.length : Int) := by omega
    have hl0' : ¬ (L.length : Int) = 0 := by omega
    have hl0'' : ¬ (0 : Int) = (L.length : Int) := by omega
    have HWR := Lib.hid (show IntKind.i64.wrap (m : Int) = (m : Int) by rw [IntKind.wrap_i64]; omega)
    have h00 : ((0 : Int) == (L.length : Int)) = false := by rw [beq_eq_false_iff_ne]; omega
    have c1 : w1.cell? ⟨r, 0, none⟩ = some (.slice (some ⟨b, 0, none⟩) L.length c) := (HRD.out w1 h1.below).1
    have ho2 := stamp_of ((HRD.out w1 h1.below).2.at_ hy)
    obtain ⟨p0, p1, _, _⟩ := ho2
    have G2 := Lib.hid (show (w1.setRow (w.heap.size + 1) (sC y.t y.n)).heap[w.heap.size + 1]? = some (.cells (sC y.t y.n) 24 (0, 0)) from setRow_heap _ _ _ _ _ _ g1)
    have HBX := Lib.hid (h1.below.grown (row_grown w1 (w.heap.size + 1) (sC y.t y.n)) h1.below.size (by rintro k hk; injection hk with hk; omega))
    clear hb h1 HCH hy hm
    go_wp2_with (with_reducible refine stS (.tmp 4) (.tmp 26) (w.heap.size + 1) y.t y.n 0 0 rfl rfl g1 ?_)
    exact bodyPost_ret (v := .tuple #[.agg (sC y.t y.n), .bool true]) (res25 _ _ _ _ _ (w.heap.size + 1) rfl rfl G2.out) rfl ⟨by rw [HV.out]; rfl, HBX.out⟩
end Go.Proofs.Ytgkigcobaimccaa
