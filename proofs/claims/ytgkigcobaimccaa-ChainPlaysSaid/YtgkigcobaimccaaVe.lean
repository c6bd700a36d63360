/- Versions as the document's own, two stores alike: contracts for every world. Conditions: each theorem's own. -/
import Derived.Test.YtgkigcobaimccaaTm
import Derived.Deep.MidRow
namespace Go.Proofs.Ytgkigcobaimccaa
open Go.RowKit Go.Proofs.Ytgkigcobaimccaa.Sp
set_option linter.unusedVariables false
set_option linter.unusedSimpArgs false
def oV (L : List Ver) : List Value := L.flatMap fun x => (oC x).toList
theorem oV_app (L M : List Ver) : oV (L ++ M) = oV L ++ oV M := by simp [oV]
theorem oC_len (x : Ver) : (oC x).toList.length = 20 := rfl
theorem oV_get : ∀ (L : List Ver) (k : Nat) (x : Ver), L[k]? = some x → ∀ j, j < 20 → (oV L)[k * 20 + j]? = (oC x)[j]?
  | [], k, x, h, _, _ => by simp at h
  | y :: L, 0, x, h, j, hj => by
    obtain rfl : y = x := by simpa using h
    simp only [oV, List.flatMap_cons, Nat.zero_mul, Nat.zero_add]
    rw [List.getElem?_append_left (by rw [oC_len]; exact hj)]
    simp
  | y :: L, k + 1, x, h, j, hj => by
    have ih := oV_get L k x (by simpa using h) j hj
    simp only [oV, List.flatMap_cons] at ih ⊢
    rw [List.getElem?_append_right (by rw [oC_len]; omega)]
    rw [show (k + 1) * 20 + j - (oC y).toList.length = k * 20 + j by rw [oC_len]; omega]
    exact ih
theorem info49i : ∃ i z, Try.prog.info? 49 = some i ∧ i.zero = some z ∧ i.size = 20 ∧ i.bytes = 56 ∧ z.cells.size = 20 := by
  have h : (Try.prog.info? 49).any (fun i => (match i.zero with | some z => z.cells.size == 20 | _ => false) && i.size == 20 && i.bytes == 56) = true := by kernel_rfl
  cases hu : Try.prog.info? 49 with
  | none => rw [hu] at h; cases h
  | some i =>
    rw [hu] at h
    simp only [Option.any_some, Bool.and_eq_true, beq_iff_eq] at h
    obtain ⟨⟨h1, h2⟩, h3⟩ := h
    cases hz : i.zero with
    | none => rw [hz] at h1; cases h1
    | some z =>
      rw [hz] at h1
      exact ⟨i, z, rfl, hz, h2, h3, by simpa using h1⟩
def Rd (gL : Nat) (L : List Ver) (w : World) : Prop := ∀ j u, (verV L)[j]? = some u → w.cell? ⟨gL, j, none⟩ = some u
theorem Rd.grow {gL : Nat} {L : List Ver} {w w' : World} (h : Rd gL L w) (hb : Below w.heap.size w w') : Rd gL L w' := fun j u hj => cell_grow (h j u hj) hb
def VeI (W : World) (gL : Nat) (L : List Ver) (Ls : Nat → Bool) (w' : World) : Prop :=
  (Ls 18 = true → Ls 0 = true ∧ Ls 17 = true) ∧ (Ls 18 = false → Below W.heap.size W w') ∧ (Ls 17 = false → w'.heap.size = W.heap.size) ∧ Rd gL L w'
def VeS (x : Ver) (W : World) (k : Nat) (w1 w2 : World) : Prop := (w1.heap[W.heap.size]? = some (.cells (oC x) 49 (0, 0)) → w2.heap[W.heap.size]? = some (.cells (oC x) 49 (0, 0))) ∧ (k ≠ 18 → Below w1.heap.size w1 w2)
theorem VeS.below {x : Ver} {k : Nat} {W w1 w2 : World} (h : Below w1.heap.size w1 w2) : VeS x W k w1 w2 := ⟨fun e => (h.block _ (lt_of_block e)).trans e, fun _ => h⟩
def Ve18 (w0 : World) (F : Hp) (n : Nat) (xs : List Value) (w : World) (v : Value) : Prop := ∃ h', RowB 49 20 v n xs h' ∧ Holds w0 (h' ++ F) w
def RelV (w0 : World) (F : Hp) (L : List Ver) (v i : Value) (wr : World) : Prop := ∃ (k : Nat) (hv : Hp), k ≤ L.length ∧ i = .int .i64 k ∧ RowB 49 20 v k (oV (L.take k)) hv ∧ Holds w0 (hv ++ F) wr
theorem reads_o {w0 w : World} {F : Hp} {b : Nat} {x : Ver} (H : Holds w0 ((b, .cells (oC x) 49 (0, 0)) :: F) w) : Reads w (some ⟨b, 0, none⟩) 1 20 (oC x).toList := by
  refine ⟨rfl, (fun h => by cases h), fun ad had j u hj => ?_⟩
  injection had with had
  subst had
  have e : (⟨b, 0, none⟩ : Addr).add j = ⟨b, j, none⟩ := by simp [Addr.add]; omega
  rw [e, H.cell j, ← Array.getElem?_toList]
  exact hj
/-- append, in a drawn statement. -/
theorem wpA {P : Program} {o : Oper} {a : Act} {w w' : World} {K : Act → World → Prop} {Q : Exit → Act → World → Prop} (s x : Operand) {t u : TypeId} {v v1 v' : Value}
    (ho : o.op = .call { callee := .builtin .append, args := #[s, x], argTypes := #[t, u] }) (hs : a.eval s = v) (hx : a.eval x = v1) (hrun : (Builtin.append_ #[t, u] o.type #[v, v1]).run P w = .ok v' w') (hK : K (a.put o.dst v') w') : o.wp P a w K Q := by
  unfold Oper.wp execOp
  simp only [ho, resolve, invoke, builtin, Sem.run_bind, Sem.run_pure, Result.andThen_ok, List.map_toArray, List.map_cons, List.map_nil, hs, hx, hrun]
  exact hK
set_option maxRecDepth 100000 in
set_option maxHeartbeats 8000000 in
theorem vers_calls (A : Option Addr) (gL c : Nat) (L : List Ver) (w0 w : World) (F : Hp) (hA : 0 < L.length → A = some ⟨gL, 0, none⟩) (hL6 : L.length ≤ 1000) (hrd : ∀ w', Holds w0 F w' → Rd gL L w') (H : Holds w0 F w) :
    Calls Try.prog 15 #[.slice A L.length c] w fun e w' => ∃ v, e = .returned v ∧ ∃ hv, RowB 49 20 v L.length (oV L) hv ∧ Holds w0 (hv ++ F) w' := by
  have HRD := Lib.hid hrd
  have HH := Lib.hid H
  clear hrd H
  go_enter Try.func15, Try.ntmps15
  go_wp2_with fail
  go_loopw [3, 4] (fun v i wr => RelV w0 F L v i wr) (fun _ i _ => L.length - (intOf i).toNat)
  case atStart => exact ⟨0, [], by omega, rfl, RowB.nil _ _, HH.out⟩
  case round =>
    obtain ⟨k, hv, hk, rfl, hRv, hH⟩ := hrel
    obtain ⟨AV, cV, rfl, _, _⟩ := RowB.form hRv
    have HRV := Lib.hid hRv; have HH1 := Lib.hid hH
    clear hRv hH
    by_cases hlt : k < L.length
    · obtain ⟨x, hx⟩ : ∃ x, L[k]? = some x := ⟨_, List.getElem?_eq_getElem hlt⟩
      have hxk := Lib.hid hx
      have HG := Lib.hid (fun j (hj : j < 4) => show (verV L)[k * 4 + j]? = some ((vC x)[j]) by rw [verV_get L k x hx j hj]; exact Array.getElem?_eq_getElem hj)
      obtain rfl := hA (by omega)
      clear hx
      go_wp2_with fail
      obtain ⟨W, hW⟩ : ∃ W, W = wr.drew := ⟨_, rfl⟩
      have HHW := Lib.hid (show Holds w0 (hv ++ F) W by rw [hW]; exact HH1.out.drew)
      have HW := Lib.hid hW
      clear hW
      refine wp_region_vals3 19 (by kernel_rfl) (by kernel_rfl) (by kernel_rfl) (fun Ls w' => VeI W gL L Ls w') (VeS x W) (fun i w v => match i with | 0 => v = .slice AV k cV | 1 => v = .slice (some ⟨gL, 0, none⟩) L.length c | 2 => v = .int .i64 k | 3 => v = .pointer (some ⟨gL, k * 4, none⟩) | 4 => v = .pointer (some ⟨gL, k * 4, none⟩) | 5 => v = (Value.agg (sC x.t x.n)) | 6 => v = .slice (some ⟨gL, 0, none⟩) L.length c | 7 => v = .int .i64 k | 8 => v = .pointer (some ⟨gL, k * 4, none⟩) | 9 => v = .pointer (some ⟨gL, k * 4 + 2, none⟩) | 10 => v = .string x.val | 11 => v = .slice (some ⟨gL, 0, none⟩) L.length c | 12 => v = .int .i64 k | 13 => v = .pointer (some ⟨gL, k * 4, none⟩) | 14 => v = .pointer (some ⟨gL, k * 4 + 3, none⟩) | 15 => v = .bool x.gone | 16 => v = (Value.agg (oC x)) | 17 => v = .slice (some ⟨W.heap.size, 0, none⟩) 1 1 ∧ w.heap[W.heap.size]? = some (.cells (oC x) 49 (0, 0)) | 18 => Ve18 w0 F (k + 1) (oV (L.take k) ++ (oC x).toList) w v | _ => True) (by rw [← HW.out]; exact ⟨fun h => (by cases h), fun _ => Below.refl _ _, fun _ => rfl, HRD.out W HHW.out.right⟩) ?_ ?_ ?_
      · intro i k v w1 w2 hne hS h
        match i, h with
        | 0, h => exact h
        | 1, h => exact h
        | 2, h => exact h
        | 3, h => exact h
        | 4, h => exact h
        | 5, h => exact h
        | 6, h => exact h
        | 7, h => exact h
        | 8, h => exact h
        | 9, h => exact h
        | 10, h => exact h
        | 11, h => exact h
        | 12, h => exact h
        | 13, h => exact h
        | 14, h => exact h
        | 15, h => exact h
        | 16, h => exact h
        | 17, h => exact ⟨h.1, hS.1 h.2⟩
        | 18, h => exact (by obtain ⟨k8, R8, H8⟩ := h; exact ⟨k8, R8, H8.grow (hS.2 (fun e => hne e.symm))⟩)
        | _ + 19, h => exact trivial
      · intro i o hi ho Ls f w1 hI hL hd
        match i, hi with
        | 0, _ =>
          obtain rfl := Option.some.inj ho
          clear hd ho
          unfold wpOp
          refine Or.inl ?_
          simp only [fill, List.take_succ_cons, List.take_zero, Act.put, List.setIfInBounds_toArray, List.set_cons_zero, List.set_cons_succ]
          unfold Oper.wp
          go_simp
          exact LeftBy.mk _ rfl (⟨fun h => ⟨rfl, (hI.1 h).2⟩, hI.2.1, hI.2.2.1, hI.2.2.2⟩) (VeS.below (Below.refl _ _)) (rfl)
        | 1, _ =>
          obtain rfl := Option.some.inj ho
          clear hd ho
          unfold wpOp
          refine Or.inl ?_
          simp only [fill, List.take_succ_cons, List.take_zero, Act.put, List.setIfInBounds_toArray, List.set_cons_zero, List.set_cons_succ]
          unfold Oper.wp
          go_simp
          exact LeftBy.mk _ rfl (hI) (VeS.below (Below.refl _ _)) (rfl)
        | 2, _ =>
          obtain rfl := Option.some.inj ho
          clear hd ho
          unfold wpOp
          refine Or.inl ?_
          simp only [fill, List.take_succ_cons, List.take_zero, Act.put, List.setIfInBounds_toArray, List.set_cons_zero, List.set_cons_succ]
          unfold Oper.wp
          go_simp
          exact LeftBy.mk _ rfl (hI) (VeS.below (Below.refl _ _)) (rfl)
        | 3, _ =>
          obtain rfl := Option.some.inj ho
          have e1 : f 1 = .slice (some ⟨gL, 0, none⟩) L.length c := (hd ⟨1, .data⟩ (by simp) rfl).2
          have e2 : f 2 = .int .i64 k := (hd ⟨2, .data⟩ (by simp) rfl).2
          clear hd ho
          unfold wpOp
          refine Or.inl ?_
          simp only [fill, List.take_succ_cons, List.take_zero, Act.put, List.setIfInBounds_toArray, List.set_cons_zero, List.set_cons_succ, e1, e2]
          unfold Oper.wp
          go_simp
          exact LeftBy.mk _ rfl (hI) (VeS.below (Below.refl _ _)) (rfl)
        | 4, _ =>
          obtain rfl := Option.some.inj ho
          have e3 : f 3 = .pointer (some ⟨gL, k * 4, none⟩) := (hd ⟨3, .data⟩ (by simp) rfl).2
          clear hd ho
          unfold wpOp
          refine Or.inl ?_
          simp only [fill, List.take_succ_cons, List.take_zero, Act.put, List.setIfInBounds_toArray, List.set_cons_zero, List.set_cons_succ, e3]
          unfold Oper.wp
          go_simp
          exact LeftBy.mk _ rfl (hI) (VeS.below (Below.refl _ _)) (rfl)
        | 5, _ =>
          obtain rfl := Option.some.inj ho
          have e4 : f 4 = .pointer (some ⟨gL, k * 4, none⟩) := (hd ⟨4, .data⟩ (by simp) rfl).2
          clear hd ho
          unfold wpOp
          refine Or.inl ?_
          simp only [fill, List.take_succ_cons, List.take_zero, Act.put, List.setIfInBounds_toArray, List.set_cons_zero, List.set_cons_succ, e4]
          unfold Oper.wp
          have p0 := hI.2.2.2 _ _ (HG.out 0 (by omega))
          have p1 := hI.2.2.2 _ _ (HG.out 1 (by omega))
          have p2 := hI.2.2.2 _ _ (HG.out 2 (by omega))
          have p3 := hI.2.2.2 _ _ (HG.out 3 (by omega))
          simp only [Nat.add_zero] at p0
          go_simp
          exact LeftBy.mk _ rfl (hI) (VeS.below (Below.refl _ _)) (rfl)
        | 6, _ =>
          obtain rfl := Option.some.inj ho
          clear hd ho
          unfold wpOp
          refine Or.inl ?_
          simp only [fill, List.take_succ_cons, List.take_zero, Act.put, List.setIfInBounds_toArray, List.set_cons_zero, List.set_cons_succ]
          unfold Oper.wp
          go_simp
          exact LeftBy.mk _ rfl (hI) (VeS.below (Below.refl _ _)) (rfl)
        | 7, _ =>
          obtain rfl := Option.some.inj ho
          clear hd ho
          unfold wpOp
          refine Or.inl ?_
          simp only [fill, List.take_succ_cons, List.take_zero, Act.put, List.setIfInBounds_toArray, List.set_cons_zero, List.set_cons_succ]
          unfold Oper.wp
          go_simp
          exact LeftBy.mk _ rfl (hI) (VeS.below (Below.refl _ _)) (rfl)
        | 8, _ =>
          obtain rfl := Option.some.inj ho
          have e6 : f 6 = .slice (some ⟨gL, 0, none⟩) L.length c := (hd ⟨6, .data⟩ (by simp) rfl).2
          have e7 : f 7 = .int .i64 k := (hd ⟨7, .data⟩ (by simp) rfl).2
          clear hd ho
          unfold wpOp
          refine Or.inl ?_
          simp only [fill, List.take_succ_cons, List.take_zero, Act.put, List.setIfInBounds_toArray, List.set_cons_zero, List.set_cons_succ, e6, e7]
          unfold Oper.wp
          go_simp
          exact LeftBy.mk _ rfl (hI) (VeS.below (Below.refl _ _)) (rfl)
        | 9, _ =>
          obtain rfl := Option.some.inj ho
          have e8 : f 8 = .pointer (some ⟨gL, k * 4, none⟩) := (hd ⟨8, .data⟩ (by simp) rfl).2
          clear hd ho
          unfold wpOp
          refine Or.inl ?_
          simp only [fill, List.take_succ_cons, List.take_zero, Act.put, List.setIfInBounds_toArray, List.set_cons_zero, List.set_cons_succ, e8]
          unfold Oper.wp
          go_simp
          exact LeftBy.mk _ rfl (hI) (VeS.below (Below.refl _ _)) (rfl)
        | 10, _ =>
          obtain rfl := Option.some.inj ho
          have e9 : f 9 = .pointer (some ⟨gL, k * 4 + 2, none⟩) := (hd ⟨9, .data⟩ (by simp) rfl).2
          clear hd ho
          unfold wpOp
          refine Or.inl ?_
          simp only [fill, List.take_succ_cons, List.take_zero, Act.put, List.setIfInBounds_toArray, List.set_cons_zero, List.set_cons_succ, e9]
          unfold Oper.wp
          have p0 := hI.2.2.2 _ _ (HG.out 0 (by omega))
          have p1 := hI.2.2.2 _ _ (HG.out 1 (by omega))
          have p2 := hI.2.2.2 _ _ (HG.out 2 (by omega))
          have p3 := hI.2.2.2 _ _ (HG.out 3 (by omega))
          simp only [Nat.add_zero] at p0
          go_simp
          exact LeftBy.mk _ rfl (hI) (VeS.below (Below.refl _ _)) (rfl)
        | 11, _ =>
          obtain rfl := Option.some.inj ho
          clear hd ho
          unfold wpOp
          refine Or.inl ?_
          simp only [fill, List.take_succ_cons, List.take_zero, Act.put, List.setIfInBounds_toArray, List.set_cons_zero, List.set_cons_succ]
          unfold Oper.wp
          go_simp
          exact LeftBy.mk _ rfl (hI) (VeS.below (Below.refl _ _)) (rfl)
        | 12, _ =>
          obtain rfl := Option.some.inj ho
          clear hd ho
          unfold wpOp
          refine Or.inl ?_
          simp only [fill, List.take_succ_cons, List.take_zero, Act.put, List.setIfInBounds_toArray, List.set_cons_zero, List.set_cons_succ]
          unfold Oper.wp
          go_simp
          exact LeftBy.mk _ rfl (hI) (VeS.below (Below.refl _ _)) (rfl)
        | 13, _ =>
          obtain rfl := Option.some.inj ho
          have e11 : f 11 = .slice (some ⟨gL, 0, none⟩) L.length c := (hd ⟨11, .data⟩ (by simp) rfl).2
          have e12 : f 12 = .int .i64 k := (hd ⟨12, .data⟩ (by simp) rfl).2
          clear hd ho
          unfold wpOp
          refine Or.inl ?_
          simp only [fill, List.take_succ_cons, List.take_zero, Act.put, List.setIfInBounds_toArray, List.set_cons_zero, List.set_cons_succ, e11, e12]
          unfold Oper.wp
          go_simp
          exact LeftBy.mk _ rfl (hI) (VeS.below (Below.refl _ _)) (rfl)
        | 14, _ =>
          obtain rfl := Option.some.inj ho
          have e13 : f 13 = .pointer (some ⟨gL, k * 4, none⟩) := (hd ⟨13, .data⟩ (by simp) rfl).2
          clear hd ho
          unfold wpOp
          refine Or.inl ?_
          simp only [fill, List.take_succ_cons, List.take_zero, Act.put, List.setIfInBounds_toArray, List.set_cons_zero, List.set_cons_succ, e13]
          unfold Oper.wp
          go_simp
          exact LeftBy.mk _ rfl (hI) (VeS.below (Below.refl _ _)) (rfl)
        | 15, _ =>
          obtain rfl := Option.some.inj ho
          have e14 : f 14 = .pointer (some ⟨gL, k * 4 + 3, none⟩) := (hd ⟨14, .data⟩ (by simp) rfl).2
          clear hd ho
          unfold wpOp
          refine Or.inl ?_
          simp only [fill, List.take_succ_cons, List.take_zero, Act.put, List.setIfInBounds_toArray, List.set_cons_zero, List.set_cons_succ, e14]
          unfold Oper.wp
          have p0 := hI.2.2.2 _ _ (HG.out 0 (by omega))
          have p1 := hI.2.2.2 _ _ (HG.out 1 (by omega))
          have p2 := hI.2.2.2 _ _ (HG.out 2 (by omega))
          have p3 := hI.2.2.2 _ _ (HG.out 3 (by omega))
          simp only [Nat.add_zero] at p0
          go_simp
          exact LeftBy.mk _ rfl (hI) (VeS.below (Below.refl _ _)) (rfl)
        | 16, _ =>
          obtain rfl := Option.some.inj ho
          have e5 : f 5 = (Value.agg (sC x.t x.n)) := (hd ⟨5, .data⟩ (by simp) rfl).2
          have e10 : f 10 = .string x.val := (hd ⟨10, .data⟩ (by simp) rfl).2
          have e15 : f 15 = .bool x.gone := (hd ⟨15, .data⟩ (by simp) rfl).2
          clear hd ho
          unfold wpOp
          refine Or.inl ?_
          simp only [fill, List.take_succ_cons, List.take_zero, Act.put, List.setIfInBounds_toArray, List.set_cons_zero, List.set_cons_succ, e5, e10, e15]
          unfold Oper.wp
          rw [show sC x.t x.n = #[.int .i64 x.t, .int .u8 x.n] from rfl]
          go_simp
          exact LeftBy.mk _ rfl (hI) (VeS.below (Below.refl _ _)) (rfl)
        | 17, _ =>
          obtain rfl := Option.some.inj ho
          have e16 : f 16 = (Value.agg (oC x)) := (hd ⟨16, .data⟩ (by simp) rfl).2
          clear hd ho
          unfold wpOp
          refine Or.inl ?_
          simp only [fill, List.take_succ_cons, List.take_zero, Act.put, List.setIfInBounds_toArray, List.set_cons_zero, List.set_cons_succ, e16]
          unfold Oper.wp
          have h18 : Ls 18 = false := by
            cases h : Ls 18
            · rfl
            · rw [(hI.1 h).2] at hL; cases hL
          have hsz := hI.2.2.1 hL
          rw [show oC x = #[.int .u8 0, .int .u8 0, .int .u8 0, .int .u8 0, .int .u8 0, .int .u8 0, .int .u8 0, .int .u8 0, .int .u8 0, .int .u8 0, .int .u8 0, .int .u8 0, .int .u8 0, .int .u8 0, .int .u8 0, .int .u8 0, .int .i64 x.t, .int .u8 x.n, .string x.val, .bool x.gone] from rfl]
          go_simp
          exact LeftBy.mk _ rfl ⟨fun h => ⟨(hI.1 h).1, rfl⟩, fun h => ((hI.2.1 h18).alloc (hI.2.1 h18).size _), fun h => (by cases h), hI.2.2.2.grow ((Below.refl _ _).alloc (Nat.le_refl _) _)⟩ (VeS.below ((Below.refl _ _).alloc (Nat.le_refl _) _)) ⟨by first | rfl | rw [hsz], by rw [← hsz]; exact heap_alloc_new w1 _⟩
        | 18, _ =>
          obtain rfl := Option.some.inj ho
          have e0 : f 0 = .slice AV k cV := (hd ⟨0, .data⟩ (by simp) rfl).2
          have hLa : Ls 0 = true := (hd ⟨0, .data⟩ (by simp) rfl).1
          have e17 := (hd ⟨17, .data⟩ (by simp) rfl).2
          have hLb : Ls 17 = true := (hd ⟨17, .data⟩ (by simp) rfl).1
          obtain ⟨e17, b17⟩ := e17
          clear hd ho
          unfold wpOp
          refine Or.inl ?_
          simp only [fill, List.take_succ_cons, List.take_zero, Act.put, List.setIfInBounds_toArray, List.set_cons_zero, List.set_cons_succ, e0, e17]
          unfold Oper.wp
          have hB := hI.2.1 hL
          have hx : Holds w0 ((W.heap.size, .cells (oC x) 49 (0, 0)) :: (hv ++ F)) w1 := HHW.out.add hB (Nat.le_refl _) b17
          obtain ⟨i, z, hi, hz, h1, h2, h3⟩ := info49i
          obtain ⟨v8, h8, w8, r1, r2, r3⟩ := row_append (t := 39) HRV.out (hx.perm (k := hv ++ ((W.heap.size, .cells (oC x) 49 (0, 0)) :: F)) (by classical rw [List.perm_iff_count]; intro a; simp only [List.count_append, List.count_cons, List.count_nil]; omega)) 39 i z 56 Try.underlying39 hi hz h1 h2 h3 (by decide) (some ⟨W.heap.size, 0, none⟩) 1 1 (fun h => by cases h) (oC x).toList (reads_o hx) (by simp [oC, Value.oneCell']) (by have hmx : maxLen = 9223372036854775807 := rfl; omega) (by omega)
          have H9 : Holds w0 ((W.heap.size, .cells (oC x) 49 (0, 0)) :: (h8 ++ F)) w8 := r3.perm (by classical rw [List.perm_iff_count]; intro a; simp only [List.count_append, List.count_cons, List.count_nil]; omega)
          refine wpA (.tmp 11) (.tmp 28) rfl rfl rfl r1 ?_
          exact LeftBy.mk _ rfl ⟨fun _ => ⟨hLa, hLb⟩, fun h => (by cases h), fun h => absurd (hLb.symm.trans h) (by decide), HRD.out w8 H9.tail.right⟩ ⟨fun _ => H9.get, fun h => absurd rfl h⟩ ⟨h8, r2, H9.tail⟩
        | _ + 19, h19 => exact absurd h19 (by omega)
      · intro Ls f w1 hI hL hV
        have e0 : f 0 = .slice AV k cV := hV 0 (by decide) (by simp)
        have e1 : f 1 = .slice (some ⟨gL, 0, none⟩) L.length c := hV 1 (by decide) (by simp)
        have e2 : f 2 = .int .i64 k := hV 2 (by decide) (by simp)
        have e3 : f 3 = .pointer (some ⟨gL, k * 4, none⟩) := hV 3 (by decide) (by simp)
        have e4 : f 4 = .pointer (some ⟨gL, k * 4, none⟩) := hV 4 (by decide) (by simp)
        have e5 : f 5 = (Value.agg (sC x.t x.n)) := hV 5 (by decide) (by simp)
        have e6 : f 6 = .slice (some ⟨gL, 0, none⟩) L.length c := hV 6 (by decide) (by simp)
        have e7 : f 7 = .int .i64 k := hV 7 (by decide) (by simp)
        have e8 : f 8 = .pointer (some ⟨gL, k * 4, none⟩) := hV 8 (by decide) (by simp)
        have e9 : f 9 = .pointer (some ⟨gL, k * 4 + 2, none⟩) := hV 9 (by decide) (by simp)
        have e10 : f 10 = .string x.val := hV 10 (by decide) (by simp)
        have e11 : f 11 = .slice (some ⟨gL, 0, none⟩) L.length c := hV 11 (by decide) (by simp)
        have e12 : f 12 = .int .i64 k := hV 12 (by decide) (by simp)
        have e13 : f 13 = .pointer (some ⟨gL, k * 4, none⟩) := hV 13 (by decide) (by simp)
        have e14 : f 14 = .pointer (some ⟨gL, k * 4 + 3, none⟩) := hV 14 (by decide) (by simp)
        have e15 : f 15 = .bool x.gone := hV 15 (by decide) (by simp)
        have e16 : f 16 = (Value.agg (oC x)) := hV 16 (by decide) (by simp)
        have e17 := hV 17 (by decide) (by simp)
        obtain ⟨e17, b17⟩ := e17
        have e18 := hV 18 (by decide) (by simp)
        obtain ⟨k8, R8, H8⟩ := e18
        clear hV hL
        simp only [fill, List.take_succ_cons, List.take_zero, List.drop_succ_cons, List.drop_zero, Act.put, List.setIfInBounds_toArray, List.set_cons_zero, List.set_cons_succ, e0, e1, e2, e3, e4, e5, e6, e7, e8, e9, e10, e11, e12, e13, e14, e15, e16, e17]
        obtain ⟨A8, c8, hv8, _, _⟩ := RowB.form R8
        rw [hv8] at R8 ⊢
        have HR8 := Lib.hid R8; have HH8 := Lib.hid H8
        clear hI H8 R8 hv8
        go_wp2_with fail
        go_roundw
        case rel => exact ⟨k + 1, k8, by omega, by go_num, by rw [List.take_add_one, hxk.out, oV_app]; simpa [oV] using HR8.out, HH8.out⟩
        case measure => simp [intOf] <;> omega
    · obtain rfl : k = L.length := by omega
      go_wp2_with fail
      go_ret
      exact ⟨_, rfl, hv, by have := HRV.out; rwa [List.take_of_length_le (Nat.le_refl _)] at this, HH1.out⟩
end Go.Proofs.Ytgkigcobaimccaa
