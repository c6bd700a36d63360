/- The document's own versions: Trim: a contract for every world. Conditions: each theorem's own. -/
import Derived.Test.YtgkigcobaimccaaRp
namespace Go.Proofs.Ytgkigcobaimccaa
open Go.RowKit Go.Proofs.Ytgkigcobaimccaa.Sp
set_option linter.unusedVariables false
set_option linter.unusedSimpArgs false
theorem wpK {o : Oper} {a : Act} {w : World} {K : Act → World → Prop} {Q : Exit → Act → World → Prop} (x : Operand) (g off : Nat) (ho : o.op = .load 47 x)
    (hx : a.eval x = .pointer (some ⟨g, off, none⟩)) (hg : w.rangeAt g off kz.toList) (hK : K (a.put o.dst (.agg kz)) w) : o.wp Try.prog a w K Q := by
  have hl := run_loadVar_mid (P := Try.prog) w g off 47 kz.toList _ hg Try.underlying47 rfl (by kernel_rfl)
  unfold Oper.wp execOp
  simp only [ho, hx, Instr.loadAt, Instr.sureAddr, Sem.run_bind, Sem.run_pure, Result.andThen_ok, hl]
  exact hK
theorem wpO {o : Oper} {a : Act} {w : World} {K : Act → World → Prop} {Q : Exit → Act → World → Prop} (x : Operand) (g off : Nat) (v : Ver) (ho : o.op = .load 49 x)
    (hx : a.eval x = .pointer (some ⟨g, off, none⟩)) (hg : w.rangeAt g off (oC v).toList) (hK : K (a.put o.dst (.agg (oC v))) w) : o.wp Try.prog a w K Q := by
  have hl := run_loadVar_mid (P := Try.prog) w g off 49 (oC v).toList _ hg Try.underlying49 rfl (by kernel_rfl)
  unfold Oper.wp execOp
  simp only [ho, hx, Instr.loadAt, Instr.sureAddr, Sem.run_bind, Sem.run_pure, Result.andThen_ok, hl]
  exact hK
/-- Which versions go: those ahead of the one that is seen, and that one, too, if it is gone. -/
theorem trim_which {L : List Ver} (h : Rise L) {t n : Int} {k : Nat} {x : Ver} (hx : L[k]? = some x) :
    (match verAt L t n with | some y => cs x.t x.n y.t y.n < 0 ∨ (cs x.t x.n y.t y.n = 0 ∧ y.gone = true) | none => False) ↔ k < trimN L t n := by
  unfold trimN
  cases hv : verAt L t n with
  | none => simp
  | some y =>
    obtain ⟨u, hu, hy⟩ := verAt_some hv
    simp only
    have h1 : cs x.t x.n y.t y.n < 0 ↔ k < u := by
      constructor
      · intro hlt
        rcases Nat.lt_trichotomy k u with h2 | h2 | h2
        · exact h2
        · subst h2
          obtain rfl : x = y := Option.some.inj (hx.symm.trans hy)
          rw [cs_lt] at hlt
          omega
        · have := rise_at h hy hx h2
          rw [cs_lt] at this hlt
          omega
      · intro hlt
        exact rise_at h hx hy hlt
    have h2 : cs x.t x.n y.t y.n = 0 ↔ k = u := by
      constructor
      · intro he
        rcases Nat.lt_trichotomy k u with h2 | h2 | h2
        · have := rise_at h hx hy h2; omega
        · exact h2
        · have := rise_at h hy hx h2
          rw [cs_lt] at this
          rw [cs_eq] at he
          omega
      · rintro rfl
        obtain rfl : x = y := Option.some.inj (hx.symm.trans hy)
        rw [cs_eq]
        exact ⟨rfl, rfl⟩
    rw [h1, h2, hu]
    cases y.gone <;> simp <;> omega
theorem drop_step_in {L : List Ver} {k T : Nat} {x : Ver} (hx : L[k]? = some x) (h : T ≤ k) : (L.take (k + 1)).drop T = (L.take k).drop T ++ [x] := by
  rw [List.take_add_one, hx, List.drop_append_of_le_length (by rw [List.length_take]; have := (List.getElem?_eq_some_iff.mp hx).1; omega)]
  rfl
theorem drop_step_out {L : List Ver} {k T : Nat} (h : k < T) : (L.take (k + 1)).drop T = (L.take k).drop T := by
  rw [List.drop_of_length_le (by rw [List.length_take]; omega), List.drop_of_length_le (by rw [List.length_take]; omega)]
def RelR (w0 : World) (h F : Hp) (L : List Ver) (T : Nat) (v i : Value) (wr : World) : Prop :=
  ∃ (k : Nat) (hv : Hp), k ≤ L.length ∧ i = .int .i64 k ∧ RowB 49 20 v (k - T) (oV ((L.take k).drop T)) hv ∧ Holds w0 (hv ++ (h ++ F)) wr
theorem ldOmL {ops : Array Oper} {rest : List Oper} {dst : Option Tmp} {ty : TypeId} {pos : String} {af : Array Edge} {a : Act} {w : World} {Q : Exit → Act → World → Prop} (x : Operand) (g off : Nat) (v : Ver)
    (hx : a.eval x = .pointer (some ⟨g, off, none⟩)) (hg : w.rangeAt g off (oC v).toList)
    (hh : wpList Try.prog ops Q rest (a.put dst (.agg #[.int .u8 0, .int .u8 0, .int .u8 0, .int .u8 0, .int .u8 0, .int .u8 0, .int .u8 0, .int .u8 0, .int .u8 0, .int .u8 0, .int .u8 0, .int .u8 0, .int .u8 0, .int .u8 0, .int .u8 0, .int .u8 0, .int .i64 v.t, .int .u8 v.n, .string v.val, .bool v.gone])) w) : wpList Try.prog ops Q ({ dst := dst, op := .load 49 x, type := ty, pos := pos, after := af, guard := none } :: rest) a w := ldOm x g off v hx hg hh
theorem wpS {o : Oper} {a : Act} {w : World} {K : Act → World → Prop} {Q : Exit → Act → World → Prop} (x y : Operand) (g : Nat) (v v' : Ver) (ho : o.op = .store 49 x y)
    (hx : a.eval x = .pointer (some ⟨g, 0, none⟩)) (hy : a.eval y = .agg (oC v)) (hg : w.heap[g]? = some (.cells (oC v') 49 (0, 0))) (hK : K (a.put o.dst undef) (w.setRow g (oC v))) : o.wp Try.prog a w K Q := by
  exact wp_store_row 49 x y ho g (oC v) hx hy 49 (oC v') hg (info49 v) rfl (by simp [oC, Value.oneCell']) hK
set_option maxRecDepth 100000 in
set_option maxHeartbeats 4000000 in
theorem rtrim_walk (r : Nat) (L : List Ver) (t n : Int) (T : Nat) (h F : Hp) (w0 w : World) (A : Option Addr) (b c : Nat) (hT : T = trimN L t n) (hTL : T ≤ L.length) (e1 : 0 < L.length → A = some ⟨b, 0, none⟩) (hl : L.length ≤ 50) (hri : Rise L) (hI : IsR r L h)
    (hrd : ∀ w' X, Holds w0 (h ++ X) w' → w'.cell? ⟨r, 0, none⟩ = some (.slice A L.length c) ∧ w'.frozen? ⟨r, 0, none⟩ = false ∧ Ro b L w')
    (hset : ∀ w' hv X v, Holds w0 (h ++ X) w' → RowB 49 20 v (L.drop T).length (oV (L.drop T)) hv → (∀ R, X.Perm (hv ++ R) → ∃ h', IsR r (L.drop T) h' ∧ Holds w0 (h' ++ R) (w'.setCell ⟨r, 0, none⟩ v)))
    (H : Holds w0 (h ++ F) w) :
    Calls Try.prog 22 #[.pointer (some ⟨r, 0, none⟩), .agg (sC t n)] w fun e w' => e = .returned (.int .i64 T) ∧ ∃ h', IsR r (L.drop T) h' ∧ Holds w0 (h' ++ F) w' := by
  obtain ⟨W, hW⟩ : ∃ W, W = w.alloc (.cells (sC t n) 24) := ⟨_, rfl⟩
  have H0 : Holds w0 ([] ++ (h ++ ((w.heap.size, Obj.cells (sC t n) 24) :: F))) W := by rw [hW]; exact (H.alloc (.cells (sC t n) 24)).perm (by classical rw [List.perm_iff_count]; intro a; simp only [List.count_append, List.count_cons, List.count_nil]; omega)
  have HWb := Lib.hid hW
  have HH0 := Lib.hid H0
  have HRD := Lib.hid hrd; have HSET := Lib.hid hset; have HIR := Lib.hid hI
  have HTW := Lib.hid (fun (k : Nat) (x : Ver) (hx : L[k]? = some x) => by have := trim_which (t := t) (n := n) hri hx; rw [← hT] at this; exact this)
  clear H H0 hrd hset hI hri hT hW
  go_enter Try.func22, Try.ntmps22
  go_wp2_with fail
  rw [← HWb.out]
  go_loopw [5, 6] (fun v i wr => RelR w0 h ((w.heap.size, Obj.cells (sC t n) 24) :: F) L T v i wr) (fun _ i _ => L.length - (intOf i).toNat)
  case atStart => exact ⟨0, [], by omega, rfl, by have e : (L.take 0).drop T = [] := by simp
                                                  rw [Nat.zero_sub, e]; exact RowB.nil _ _, HH0.out⟩
  case round =>
    obtain ⟨k, hv, hk, rfl, hRv, hH⟩ := hrel
    obtain ⟨AV, cV, rfl, hvc, _⟩ := RowB.form hRv
    have HRV := Lib.hid hRv; have HH1 := Lib.hid hH
    have c1 := (HRD.out wr (hv ++ ((w.heap.size, Obj.cells (sC t n) 24) :: F)) (hH.perm (by classical rw [List.perm_iff_count]; intro a; simp only [List.count_append, List.count_cons, List.count_nil]; omega))).1
    clear hRv hH
    by_cases hlt : k < L.length
    · obtain ⟨x, hx⟩ : ∃ x, L[k]? = some x := ⟨_, List.getElem?_eq_getElem hlt⟩
      obtain rfl := e1 (by omega)
      have HXX := Lib.hid hx
      have hki : (k : Int) < (L.length : Int) := by omega
      have hw := HTW.out k x hx
      obtain ⟨VA, hVA⟩ : ∃ VA, VA = verAt L t n := ⟨_, rfl⟩
      rw [← hVA] at hw
      have HVA := Lib.hid hVA
      clear hx hVA
      go_wp2_with fail
      refine wp_region_ownf 16 (fun k => match k with | 15 => [14] | 16 => [15] | _ => []) (by kernel_rfl) (by kernel_rfl) (by kernel_rfl) (by kernel_rfl) (Nat.le_of_ble_eq_true (by kernel_rfl)) w0 (fun Ls hs => hs = hv ++ (h ++ ((w.heap.size, Obj.cells (sC t n) 24) :: F))) (fun i f v h => match i with | 0 => v = .pointer (some ⟨r, 0, none⟩) ∧ h = [] | 1 => v = .pointer (some ⟨r, 0, none⟩) ∧ h = [] | 2 => v = .pointer (some ⟨r, 0, none⟩) ∧ h = [] | 3 => v = .pointer (some ⟨r, 0, none⟩) ∧ h = [] | 4 => v = .slice (some ⟨b, 0, none⟩) L.length c ∧ h = [] | 5 => v = .int .i64 k ∧ h = [] | 6 => v = .pointer (some ⟨b, k * 20, none⟩) ∧ h = [] | 7 => v = .pointer (some ⟨b, k * 20, none⟩) ∧ h = [] | 8 => v = Value.agg kz ∧ h = [] | 9 => v = Value.agg (sC t n) ∧ h = [] | 10 => v = .tuple #[.agg (oC (VA.getD v0)), .bool VA.isSome] ∧ h = [] | 11 => v = .tuple #[.agg (oC (VA.getD v0)), .bool VA.isSome] ∧ h = [] | 12 => v = Value.agg (oC (VA.getD v0)) ∧ h = [] | 13 => v = Value.bool VA.isSome ∧ h = [] | 14 => ∃ g, v = .pointer (some ⟨g, 0, none⟩) ∧ h = [(g, .cells (oC v0) 49)] | 15 => ∃ g, f 14 = .pointer (some ⟨g, 0, none⟩) ∧ h = [(g, .cells (oC (VA.getD v0)) 49)] | _ => True) ?_ ((hv ++ (h ++ ((w.heap.size, Obj.cells (sC t n) 24) :: F)))) (rfl) (HH1.out.drew) ?_ ?_
      · intro i j f x v h hi hnd hv
        match i, hi, hv with
        | 0, _, hv => exact hv
        | 1, _, hv => exact hv
        | 2, _, hv => exact hv
        | 3, _, hv => exact hv
        | 4, _, hv => exact hv
        | 5, _, hv => exact hv
        | 6, _, hv => exact hv
        | 7, _, hv => exact hv
        | 8, _, hv => exact hv
        | 9, _, hv => exact hv
        | 10, _, hv => exact hv
        | 11, _, hv => exact hv
        | 12, _, hv => exact hv
        | 13, _, hv => exact hv
        | 14, _, hv => exact hv
        | 15, _, hv =>
          have n14 : ¬ 14 = j := hnd _ rfl ⟨14, .data⟩ (by simp) rfl
          simpa [upd, n14] using hv
        | _ + 16, h16, _ => exact absurd h16 (by omega)
      · intro i o hi ho Ls f Hf hs R w1 hI hL hd hH
        match i, hi with
        | 0, _ =>
          obtain rfl := Option.some.inj ho
          clear hd ho
          have hH : Holds w0 (hs ++ ([] ++ R)) w1 := hH
          subst hI
          unfold wpOp
          refine Or.inl ?_
          simp only [fill, List.take_succ_cons, List.take_zero, Act.put, List.setIfInBounds_toArray, List.set_cons_zero, List.set_cons_succ]
          unfold Oper.wp
          go_simp
          exact OwnBy.mk _ _ _ rfl (rfl) (⟨rfl, rfl⟩) (hH)
        | 1, _ =>
          obtain rfl := Option.some.inj ho
          clear hd ho
          have hH : Holds w0 (hs ++ ([] ++ R)) w1 := hH
          subst hI
          unfold wpOp
          refine Or.inl ?_
          simp only [fill, List.take_succ_cons, List.take_zero, Act.put, List.setIfInBounds_toArray, List.set_cons_zero, List.set_cons_succ]
          unfold Oper.wp
          go_simp
          exact OwnBy.mk _ _ _ rfl (rfl) (⟨rfl, rfl⟩) (hH)
        | 2, _ =>
          obtain rfl := Option.some.inj ho
          have e1 : f 1 = .pointer (some ⟨r, 0, none⟩) := (hd ⟨1, .data⟩ (by simp) rfl).2.1
          clear hd ho
          have hH : Holds w0 (hs ++ ([] ++ R)) w1 := hH
          subst hI
          unfold wpOp
          refine Or.inl ?_
          simp only [fill, List.take_succ_cons, List.take_zero, Act.put, List.setIfInBounds_toArray, List.set_cons_zero, List.set_cons_succ, e1]
          unfold Oper.wp
          go_simp
          exact OwnBy.mk _ _ _ rfl (rfl) (⟨rfl, rfl⟩) (hH)
        | 3, _ =>
          obtain rfl := Option.some.inj ho
          have e2 : f 2 = .pointer (some ⟨r, 0, none⟩) := (hd ⟨2, .data⟩ (by simp) rfl).2.1
          clear hd ho
          have hH : Holds w0 (hs ++ ([] ++ R)) w1 := hH
          subst hI
          unfold wpOp
          refine Or.inl ?_
          simp only [fill, List.take_succ_cons, List.take_zero, Act.put, List.setIfInBounds_toArray, List.set_cons_zero, List.set_cons_succ, e2]
          unfold Oper.wp
          go_simp
          exact OwnBy.mk _ _ _ rfl (rfl) (⟨rfl, rfl⟩) (hH)
        | 4, _ =>
          obtain rfl := Option.some.inj ho
          have e3 : f 3 = .pointer (some ⟨r, 0, none⟩) := (hd ⟨3, .data⟩ (by simp) rfl).2.1
          clear hd ho
          have hH : Holds w0 (hs ++ ([] ++ R)) w1 := hH
          subst hI
          unfold wpOp
          refine Or.inl ?_
          simp only [fill, List.take_succ_cons, List.take_zero, Act.put, List.setIfInBounds_toArray, List.set_cons_zero, List.set_cons_succ, e3]
          unfold Oper.wp
          have q := (HRD.out w1 (hv ++ ((w.heap.size, Obj.cells (sC t n) 24) :: F) ++ R) (hH.perm (by classical rw [List.perm_iff_count]; intro a; simp only [List.count_append, List.count_cons, List.count_nil]; omega))).1
          go_simp
          exact OwnBy.mk _ _ _ rfl (rfl) (⟨rfl, rfl⟩) (hH)
        | 5, _ =>
          obtain rfl := Option.some.inj ho
          clear hd ho
          have hH : Holds w0 (hs ++ ([] ++ R)) w1 := hH
          subst hI
          unfold wpOp
          refine Or.inl ?_
          simp only [fill, List.take_succ_cons, List.take_zero, Act.put, List.setIfInBounds_toArray, List.set_cons_zero, List.set_cons_succ]
          unfold Oper.wp
          go_simp
          exact OwnBy.mk _ _ _ rfl (rfl) (⟨rfl, rfl⟩) (hH)
        | 6, _ =>
          obtain rfl := Option.some.inj ho
          have e4 : f 4 = .slice (some ⟨b, 0, none⟩) L.length c := (hd ⟨4, .data⟩ (by simp) rfl).2.1
          have e5 : f 5 = .int .i64 k := (hd ⟨5, .data⟩ (by simp) rfl).2.1
          clear hd ho
          have hH : Holds w0 (hs ++ ([] ++ R)) w1 := hH
          subst hI
          unfold wpOp
          refine Or.inl ?_
          simp only [fill, List.take_succ_cons, List.take_zero, Act.put, List.setIfInBounds_toArray, List.set_cons_zero, List.set_cons_succ, e4, e5]
          unfold Oper.wp
          go_simp
          exact OwnBy.mk _ _ _ rfl (rfl) (⟨rfl, rfl⟩) (hH)
        | 7, _ =>
          obtain rfl := Option.some.inj ho
          have e6 : f 6 = .pointer (some ⟨b, k * 20, none⟩) := (hd ⟨6, .data⟩ (by simp) rfl).2.1
          clear hd ho
          have hH : Holds w0 (hs ++ ([] ++ R)) w1 := hH
          subst hI
          unfold wpOp
          refine Or.inl ?_
          simp only [fill, List.take_succ_cons, List.take_zero, Act.put, List.setIfInBounds_toArray, List.set_cons_zero, List.set_cons_succ, e6]
          unfold Oper.wp
          go_simp
          exact OwnBy.mk _ _ _ rfl (rfl) (⟨rfl, rfl⟩) (hH)
        | 8, _ =>
          obtain rfl := Option.some.inj ho
          have e7 : f 7 = .pointer (some ⟨b, k * 20, none⟩) := (hd ⟨7, .data⟩ (by simp) rfl).2.1
          clear hd ho
          have hH : Holds w0 (hs ++ ([] ++ R)) w1 := hH
          subst hI
          unfold wpOp
          refine Or.inl ?_
          simp only [fill, List.take_succ_cons, List.take_zero, Act.put, List.setIfInBounds_toArray, List.set_cons_zero, List.set_cons_succ, e7]
          unfold Oper.wp
          have q := (HRD.out w1 (hv ++ ((w.heap.size, Obj.cells (sC t n) 24) :: F) ++ R) (hH.perm (by classical rw [List.perm_iff_count]; intro a; simp only [List.count_append, List.count_cons, List.count_nil]; omega))).2.2
          refine wpK (.tmp 28) b (k * 20) rfl rfl (key_of (q.at_ HXX.out)) ?_
          exact OwnBy.mk _ _ _ rfl (rfl) (⟨rfl, rfl⟩) (hH)
        | 9, _ =>
          obtain rfl := Option.some.inj ho
          clear hd ho
          have hH : Holds w0 (hs ++ ([] ++ R)) w1 := hH
          subst hI
          unfold wpOp
          refine Or.inl ?_
          simp only [fill, List.take_succ_cons, List.take_zero, Act.put, List.setIfInBounds_toArray, List.set_cons_zero, List.set_cons_succ]
          unfold Oper.wp
          have hb : Holds w0 ((w.heap.size, Obj.cells (sC t n) 24) :: (hv ++ h ++ F ++ R)) w1 := hH.perm (by classical rw [List.perm_iff_count]; intro a; simp only [List.count_append, List.count_cons, List.count_nil]; omega)
          have q0 : w1.cell? ⟨w.heap.size, 0, none⟩ = some (.int .i64 t) := hb.cell 0
          have q1 : w1.cell? ⟨w.heap.size, 1, none⟩ = some (.int .u8 n) := hb.cell 1
          go_simp
          exact OwnBy.mk _ _ _ rfl (rfl) (⟨rfl, rfl⟩) (hH)
        | 10, _ =>
          obtain rfl := Option.some.inj ho
          have e0 : f 0 = .pointer (some ⟨r, 0, none⟩) := (hd ⟨0, .data⟩ (by simp) rfl).2.1
          have e8 : f 8 = Value.agg kz := (hd ⟨8, .data⟩ (by simp) rfl).2.1
          have e9 : f 9 = Value.agg (sC t n) := (hd ⟨9, .data⟩ (by simp) rfl).2.1
          clear hd ho
          have hH : Holds w0 (hs ++ ([] ++ R)) w1 := hH
          subst hI
          unfold wpOp
          refine Or.inl ?_
          simp only [fill, List.take_succ_cons, List.take_zero, Act.put, List.setIfInBounds_toArray, List.set_cons_zero, List.set_cons_succ, e0, e8, e9]
          unfold Oper.wp
          go_simp
          rw [HVA.out]
          refine (rat_calls r L t n h (hv ++ ((w.heap.size, Obj.cells (sC t n) 24) :: F) ++ R) w0 w1 HIR.out (hH.perm (by classical rw [List.perm_iff_count]; intro a; simp only [List.count_append, List.count_cons, List.count_nil]; omega))).mono ?_
          rintro e w3 ⟨rfl, hb⟩
          exact OwnBy.mk _ _ _ rfl (rfl) (⟨rfl, rfl⟩) (hH.grow hb)
        | 11, _ =>
          obtain rfl := Option.some.inj ho
          have e10 : f 10 = .tuple #[.agg (oC (VA.getD v0)), .bool VA.isSome] := (hd ⟨10, .data⟩ (by simp) rfl).2.1
          clear hd ho
          have hH : Holds w0 (hs ++ ([] ++ R)) w1 := hH
          subst hI
          unfold wpOp
          refine Or.inl ?_
          simp only [fill, List.take_succ_cons, List.take_zero, Act.put, List.setIfInBounds_toArray, List.set_cons_zero, List.set_cons_succ, e10]
          unfold Oper.wp
          go_simp
          exact OwnBy.mk _ _ _ rfl (rfl) (⟨rfl, rfl⟩) (hH)
        | 12, _ =>
          obtain rfl := Option.some.inj ho
          have e11 : f 11 = .tuple #[.agg (oC (VA.getD v0)), .bool VA.isSome] := (hd ⟨11, .data⟩ (by simp) rfl).2.1
          clear hd ho
          have hH : Holds w0 (hs ++ ([] ++ R)) w1 := hH
          subst hI
          unfold wpOp
          refine Or.inl ?_
          simp only [fill, List.take_succ_cons, List.take_zero, Act.put, List.setIfInBounds_toArray, List.set_cons_zero, List.set_cons_succ, e11]
          unfold Oper.wp
          go_simp
          exact OwnBy.mk _ _ _ rfl (rfl) (⟨rfl, rfl⟩) (hH)
        | 13, _ =>
          obtain rfl := Option.some.inj ho
          have e11 : f 11 = .tuple #[.agg (oC (VA.getD v0)), .bool VA.isSome] := (hd ⟨11, .data⟩ (by simp) rfl).2.1
          clear hd ho
          have hH : Holds w0 (hs ++ ([] ++ R)) w1 := hH
          subst hI
          unfold wpOp
          refine Or.inl ?_
          simp only [fill, List.take_succ_cons, List.take_zero, Act.put, List.setIfInBounds_toArray, List.set_cons_zero, List.set_cons_succ, e11]
          unfold Oper.wp
          go_simp
          exact OwnBy.mk _ _ _ rfl (rfl) (⟨rfl, rfl⟩) (hH)
        | 14, _ =>
          obtain rfl := Option.some.inj ho
          clear hd ho
          have hH : Holds w0 (hs ++ ([] ++ R)) w1 := hH
          subst hI
          unfold wpOp
          refine Or.inl ?_
          simp only [fill, List.take_succ_cons, List.take_zero, Act.put, List.setIfInBounds_toArray, List.set_cons_zero, List.set_cons_succ]
          unfold Oper.wp
          go_simp
          exact OwnBy.mk _ [(w1.heap.size, .cells (oC v0) 49)] _ rfl rfl ⟨w1.heap.size, rfl, rfl⟩ ((hH.alloc (.cells (oC v0) 49)).perm (by classical rw [List.perm_iff_count]; intro a; simp only [List.count_append, List.count_cons, List.count_nil]; omega))
        | 15, _ =>
          obtain rfl := Option.some.inj ho
          have e14 := (hd ⟨14, .data⟩ (by simp) rfl).2
          obtain ⟨g14, e14, q14⟩ := e14
          have e12 : f 12 = Value.agg (oC (VA.getD v0)) := (hd ⟨12, .data⟩ (by simp) rfl).2.1
          have e10 : f 10 = .tuple #[.agg (oC (VA.getD v0)), .bool VA.isSome] := (hd ⟨10, .chain⟩ (by simp) rfl).2.1
          have e0 : f 0 = .pointer (some ⟨r, 0, none⟩) := (hd ⟨0, .phase⟩ (by simp) rfl).2.1
          clear hd ho
          have hH : Holds w0 (hs ++ ((Hf 14 ++ ([])) ++ R)) w1 := hH
          simp only [q14, List.append_nil, List.append_assoc] at hH
          subst hI
          unfold wpOp
          refine Or.inl ?_
          simp only [fill, List.take_succ_cons, List.take_zero, Act.put, List.setIfInBounds_toArray, List.set_cons_zero, List.set_cons_succ, e14, e12, e10, e0]
          unfold Oper.wp
          have hX : Holds w0 ((g14, .cells (oC v0) 49) :: ((hv ++ (h ++ ((w.heap.size, Obj.cells (sC t n) 24) :: F))) ++ R)) w1 := hH.perm (by classical rw [List.perm_iff_count]; intro a; simp only [List.count_append, List.count_cons, List.count_nil]; omega)
          refine wpS (.tmp 7) (.tmp 32) g14 (VA.getD v0) v0 rfl rfl rfl hX.get ?_
          exact OwnBy.mk undef [(g14, .cells (oC (VA.getD v0)) 49)] _ rfl rfl ⟨g14, rfl, rfl⟩ ((hX.turn (row_grown w1 g14 (oC (VA.getD v0))) (setRow_heap _ _ _ _ _ _ hX.get)).perm (by classical rw [List.perm_iff_count]; intro a; simp only [List.count_append, List.count_cons, List.count_nil]; omega))
        | _ + 16, h16 => exact absurd h16 (by omega)
      · intro Ls f Hf hs w1 hI hL hV hH
        have e0 : f 0 = .pointer (some ⟨r, 0, none⟩) := (hV 0 (by decide)).1
        have e1 : f 1 = .pointer (some ⟨r, 0, none⟩) := (hV 1 (by decide)).1
        have e2 : f 2 = .pointer (some ⟨r, 0, none⟩) := (hV 2 (by decide)).1
        have e3 : f 3 = .pointer (some ⟨r, 0, none⟩) := (hV 3 (by decide)).1
        have e4 : f 4 = .slice (some ⟨b, 0, none⟩) L.length c := (hV 4 (by decide)).1
        have e5 : f 5 = .int .i64 k := (hV 5 (by decide)).1
        have e6 : f 6 = .pointer (some ⟨b, k * 20, none⟩) := (hV 6 (by decide)).1
        have e7 : f 7 = .pointer (some ⟨b, k * 20, none⟩) := (hV 7 (by decide)).1
        have e8 : f 8 = Value.agg kz := (hV 8 (by decide)).1
        have e9 : f 9 = Value.agg (sC t n) := (hV 9 (by decide)).1
        have e10 : f 10 = .tuple #[.agg (oC (VA.getD v0)), .bool VA.isSome] := (hV 10 (by decide)).1
        have e11 : f 11 = .tuple #[.agg (oC (VA.getD v0)), .bool VA.isSome] := (hV 11 (by decide)).1
        have e12 : f 12 = Value.agg (oC (VA.getD v0)) := (hV 12 (by decide)).1
        have e13 : f 13 = Value.bool VA.isSome := (hV 13 (by decide)).1
        have e14 := hV 14 (by decide)
        obtain ⟨g14, e14, q14⟩ := e14
        have e15 := hV 15 (by decide)
        obtain ⟨g15, e15, q15⟩ := e15
        clear hV
        have hH : Holds w0 (hs ++ (Hf 15 ++ [])) w1 := hH
        simp only [q15, List.append_nil, List.append_assoc] at hH
        simp only [fill, List.take_succ_cons, List.take_zero, List.drop_succ_cons, List.drop_zero, Act.put, List.setIfInBounds_toArray, List.set_cons_zero, List.set_cons_succ, e0, e1, e2, e3, e4, e5, e6, e7, e8, e9, e10, e11, e12, e13, e14]
        subst hI
        obtain rfl : g14 = g15 := by
          rw [e14] at e15
          injection e15 with h; injection h with h; injection h
        have HH5 := Lib.hid (show Holds w0 ((g14, .cells (oC (VA.getD v0)) 49) :: (hv ++ (h ++ ((w.heap.size, Obj.cells (sC t n) 24) :: F)))) w1 from hH.perm (by classical rw [List.perm_iff_count]; intro a; simp only [List.count_append, List.count_cons, List.count_nil]; omega))
        have HG := Lib.hid (fun w' (hb : Below w1.heap.size w1 w') => by have := stamp_of (range_own (HH5.out.grow hb)); simp only [Nat.zero_add] at this; exact this)
        have HX5 := Lib.hid (fun w' (hb : Below w1.heap.size w1 w') => HRD.out w' ((g14, .cells (oC (VA.getD v0)) 49) :: hv ++ ((w.heap.size, Obj.cells (sC t n) 24) :: F)) ((HH5.out.grow hb).perm (by classical rw [List.perm_iff_count]; intro a; simp only [List.count_append, List.count_cons, List.count_nil]; omega)))
        have HC := Lib.hid (fun w' (hb : Below w1.heap.size w1 w') => (HX5.out w' hb).1)
        have HO := Lib.hid (fun w' (hb : Below w1.heap.size w1 w') => show w'.rangeAt b (k * 20) (oC x).toList from (HX5.out w' hb).2.2.at_ HXX.out)
        clear hH hL e14 e15 q14 q15 e0 e1 e2 e3 e4 e5 e6 e7 e8 e9 e10 e11 e12 e13
        generalize hy : VA.getD v0 = y at HH5 HG HX5 ⊢
        have HY := Lib.hid hy
        clear hy HX5
        go_wp2_with fail
        refine region_quiet_lit (C := fun w' => Below w1.heap.size w1 w') (by kernel_rfl) (by kernel_rfl) (Below.refl _ _).drew ?_
        go_big_quiet_step (exact fun _ => rfl)
        go_big_quiet_step (exact fun _ => rfl)
        go_big_quiet_step (exact fun _ => rfl)
        refine BigFrame.wpQuiet_want rfl (fun K hK => ?_)
        refine quiet_val (.slice (some ⟨b, 0, none⟩) L.length c) (fun w2 hw => by have q := HC.out w2 hw; simp [go_sem, q]) (hK _ ?_)
        clear hK K
        simp only [Act.put, List.setIfInBounds_toArray, List.set_cons_zero, List.set_cons_succ]
        go_big_quiet_step (exact fun _ => rfl)
        go_big_quiet_step (exact fun _ => rfl)
        go_big_quiet_step (exact fun _ => rfl)
        refine BigFrame.wpQuiet_want rfl (fun K hK => ?_)
        refine quiet_val (.agg (sC x.t x.n)) (fun w2 hw => by obtain ⟨q0, q1, _, _⟩ := stamp_of (HO.out w2 hw); simp [go_sem, q0, q1, sC]) (hK _ ?_)
        clear hK K
        simp only [Act.put, List.setIfInBounds_toArray, List.set_cons_zero, List.set_cons_succ]
        go_big_quiet_step (exact fun _ => rfl)
        refine BigFrame.wpQuiet_want rfl (fun K hK => ?_)
        refine quiet_val (.agg (sC y.t y.n)) (fun w2 hw => by obtain ⟨q0, q1, _, _⟩ := HG.out w2 hw; simp [go_sem, q0, q1, sC]) (hK _ ?_)
        clear hK K
        simp only [Act.put, List.setIfInBounds_toArray, List.set_cons_zero, List.set_cons_succ]
        refine BigFrame.wpQuiet_want rfl (fun K hK => ?_)
        refine quiet_call 9 #[.agg (sC x.t x.n), .agg (sC y.t y.n)] (.int .i64 (cs x.t x.n y.t y.n)) (fun w2 => by simp [go_sem]) (fun w2 hw => (rcmp_calls x.t x.n y.t y.n w2).mono fun e w3 hh => ⟨hh.1, hw.trans (hh.2.mono hw.size)⟩) (hK _ ?_)
        clear hK K
        simp only [Act.put, List.setIfInBounds_toArray, List.set_cons_zero, List.set_cons_succ]
        go_big_quiet_step (exact fun _ => rfl)
        refine wpQuiet_nil ?_
        intro w4 hw4
        have HH6 := Lib.hid (HH5.out.grow hw4)
        obtain ⟨_, _, _, p3⟩ := HG.out w4 hw4
        clear hw4 HG HO HC HH5
        cases VA with
        | none =>
          simp only at hw
          simp only [Option.isSome_none]
          have hkT : ¬ k < T := fun h => hw.mpr h
          clear hw
          have hTk : T ≤ k := by omega
          have HHb := Lib.hid (HH6.out.tail)
          clear HH6
          obtain ⟨c6, _, o6⟩ := HRD.out w4 (hv ++ ((w.heap.size, Obj.cells (sC t n) 24) :: F)) (HHb.out.perm (by classical rw [List.perm_iff_count]; intro a; simp only [List.count_append, List.count_cons, List.count_nil]; omega))
          have HO6 := Lib.hid (o6.at_ HXX.out)
          have hB : Holds w0 ((w4.heap.size, .cells #[.int .u8 0, .int .u8 0, .int .u8 0, .int .u8 0, .int .u8 0, .int .u8 0, .int .u8 0, .int .u8 0, .int .u8 0, .int .u8 0, .int .u8 0, .int .u8 0, .int .u8 0, .int .u8 0, .int .u8 0, .int .u8 0, .int .i64 x.t, .int .u8 x.n, .string x.val, .bool x.gone] 49) :: (hv ++ (h ++ ((w.heap.size, Obj.cells (sC t n) 24) :: F)))) (w4.alloc (.cells #[.int .u8 0, .int .u8 0, .int .u8 0, .int .u8 0, .int .u8 0, .int .u8 0, .int .u8 0, .int .u8 0, .int .u8 0, .int .u8 0, .int .u8 0, .int .u8 0, .int .u8 0, .int .u8 0, .int .u8 0, .int .u8 0, .int .i64 x.t, .int .u8 x.n, .string x.val, .bool x.gone] 49)) := HHb.out.alloc _
          obtain ⟨v9, h9, w9, r1, r2, r3⟩ := app_o HRV.out (hB.perm (k := hv ++ ((w4.heap.size, .cells #[.int .u8 0, .int .u8 0, .int .u8 0, .int .u8 0, .int .u8 0, .int .u8 0, .int .u8 0, .int .u8 0, .int .u8 0, .int .u8 0, .int .u8 0, .int .u8 0, .int .u8 0, .int .u8 0, .int .u8 0, .int .u8 0, .int .i64 x.t, .int .u8 x.n, .string x.val, .bool x.gone] 49) :: (h ++ ((w.heap.size, Obj.cells (sC t n) 24) :: F)))) (by classical rw [List.perm_iff_count]; intro a; simp only [List.count_append, List.count_cons, List.count_nil]; omega)) (some ⟨w4.heap.size, 0, none⟩) 1 1 (fun h => by cases h) (oC x).toList (reads_o (x := x) hB) (by simp [oC, Value.oneCell']) (by omega)
          obtain ⟨A9, c9, rfl, _, _⟩ := RowB.form r2
          have R1 := Lib.hid r1; have R2 := Lib.hid r2; have R3 := Lib.hid r3
          clear r1 r2 r3 hB o6
          go_wp2_with (first | (with_reducible refine ldOmL (.tmp 64) b (k * 20) x rfl HO6.out ?_) | ((with_reducible refine apL (.tmp 58) (.tmp 66) ?_ ?_ R1.out ?_); rfl; rfl))
          go_roundw
          case rel => exact ⟨k + 1, h9, by omega, by go_num, by rw [show k + 1 - T = k - T + 1 by omega, drop_step_in HXX.out hTk, oV_app, show oV [x] = (oC x).toList by simp [oV]]; exact R2.out, (R3.out.perm (k := (w4.heap.size, .cells #[.int .u8 0, .int .u8 0, .int .u8 0, .int .u8 0, .int .u8 0, .int .u8 0, .int .u8 0, .int .u8 0, .int .u8 0, .int .u8 0, .int .u8 0, .int .u8 0, .int .u8 0, .int .u8 0, .int .u8 0, .int .u8 0, .int .i64 x.t, .int .u8 x.n, .string x.val, .bool x.gone] 49) :: (h9 ++ (h ++ ((w.heap.size, Obj.cells (sC t n) 24) :: F)))) (by classical rw [List.perm_iff_count]; intro a; simp only [List.count_append, List.count_cons, List.count_nil]; omega)).tail⟩
          case measure => simp [intOf] <;> omega
        | some z =>
          obtain rfl : z = y := HY.out
          simp only at hw
          simp only [Option.isSome_some]
          by_cases hlt0 : cs x.t x.n z.t z.n < 0
          · have hkT : k < T := hw.mp (.inl hlt0)
            clear hw
            have hTk : k < T := by omega
            have HHb := Lib.hid (HH6.out.tail)
            clear HH6
            go_wp2_with fail
            go_roundw
            case rel => exact ⟨k + 1, hv, by omega, by go_num, by rw [show k + 1 - T = k - T by omega, drop_step_out hTk]; exact HRV.out, HHb.out⟩
            case measure => simp [intOf] <;> omega
          · by_cases heq0 : cs x.t x.n z.t z.n = 0
            · cases hg : z.gone
              · have hkT : ¬ k < T := fun h => by
                  rcases hw.mpr h with h2 | ⟨_, h2⟩
                  · exact hlt0 h2
                  · rw [hg] at h2; cases h2
                rw [hg] at p3
                clear hw hg
                have hTk : T ≤ k := by omega
                have HHb := Lib.hid (HH6.out.tail)
                clear HH6
                obtain ⟨c6, _, o6⟩ := HRD.out w4 (hv ++ ((w.heap.size, Obj.cells (sC t n) 24) :: F)) (HHb.out.perm (by classical rw [List.perm_iff_count]; intro a; simp only [List.count_append, List.count_cons, List.count_nil]; omega))
                have HO6 := Lib.hid (o6.at_ HXX.out)
                have hB : Holds w0 ((w4.heap.size, .cells #[.int .u8 0, .int .u8 0, .int .u8 0, .int .u8 0, .int .u8 0, .int .u8 0, .int .u8 0, .int .u8 0, .int .u8 0, .int .u8 0, .int .u8 0, .int .u8 0, .int .u8 0, .int .u8 0, .int .u8 0, .int .u8 0, .int .i64 x.t, .int .u8 x.n, .string x.val, .bool x.gone] 49) :: (hv ++ (h ++ ((w.heap.size, Obj.cells (sC t n) 24) :: F)))) (w4.alloc (.cells #[.int .u8 0, .int .u8 0, .int .u8 0, .int .u8 0, .int .u8 0, .int .u8 0, .int .u8 0, .int .u8 0, .int .u8 0, .int .u8 0, .int .u8 0, .int .u8 0, .int .u8 0, .int .u8 0, .int .u8 0, .int .u8 0, .int .i64 x.t, .int .u8 x.n, .string x.val, .bool x.gone] 49)) := HHb.out.alloc _
                obtain ⟨v9, h9, w9, r1, r2, r3⟩ := app_o HRV.out (hB.perm (k := hv ++ ((w4.heap.size, .cells #[.int .u8 0, .int .u8 0, .int .u8 0, .int .u8 0, .int .u8 0, .int .u8 0, .int .u8 0, .int .u8 0, .int .u8 0, .int .u8 0, .int .u8 0, .int .u8 0, .int .u8 0, .int .u8 0, .int .u8 0, .int .u8 0, .int .i64 x.t, .int .u8 x.n, .string x.val, .bool x.gone] 49) :: (h ++ ((w.heap.size, Obj.cells (sC t n) 24) :: F)))) (by classical rw [List.perm_iff_count]; intro a; simp only [List.count_append, List.count_cons, List.count_nil]; omega)) (some ⟨w4.heap.size, 0, none⟩) 1 1 (fun h => by cases h) (oC x).toList (reads_o (x := x) hB) (by simp [oC, Value.oneCell']) (by omega)
                obtain ⟨A9, c9, rfl, _, _⟩ := RowB.form r2
                have R1 := Lib.hid r1; have R2 := Lib.hid r2; have R3 := Lib.hid r3
                clear r1 r2 r3 hB o6
                go_wp2_with (first | (with_reducible refine ldOmL (.tmp 64) b (k * 20) x rfl HO6.out ?_) | ((with_reducible refine apL (.tmp 58) (.tmp 66) ?_ ?_ R1.out ?_); rfl; rfl))
                go_roundw
                case rel => exact ⟨k + 1, h9, by omega, by go_num, by rw [show k + 1 - T = k - T + 1 by omega, drop_step_in HXX.out hTk, oV_app, show oV [x] = (oC x).toList by simp [oV]]; exact R2.out, (R3.out.perm (k := (w4.heap.size, .cells #[.int .u8 0, .int .u8 0, .int .u8 0, .int .u8 0, .int .u8 0, .int .u8 0, .int .u8 0, .int .u8 0, .int .u8 0, .int .u8 0, .int .u8 0, .int .u8 0, .int .u8 0, .int .u8 0, .int .u8 0, .int .u8 0, .int .i64 x.t, .int .u8 x.n, .string x.val, .bool x.gone] 49) :: (h9 ++ (h ++ ((w.heap.size, Obj.cells (sC t n) 24) :: F)))) (by classical rw [List.perm_iff_count]; intro a; simp only [List.count_append, List.count_cons, List.count_nil]; omega)).tail⟩
                case measure => simp [intOf] <;> omega
              · have hkT : k < T := hw.mp (.inr ⟨heq0, hg⟩)
                rw [hg] at p3
                clear hw hg
                have hTk : k < T := by omega
                have HHb := Lib.hid (HH6.out.tail)
                clear HH6
                go_wp2_with fail
                go_roundw
                case rel => exact ⟨k + 1, hv, by omega, by go_num, by rw [show k + 1 - T = k - T by omega, drop_step_out hTk]; exact HRV.out, HHb.out⟩
                case measure => simp [intOf] <;> omega
            · have hkT : ¬ k < T := fun h => by
                rcases hw.mpr h with h2 | ⟨h2, _⟩
                · exact hlt0 h2
                · exact heq0 h2
              clear hw
              have hTk : T ≤ k := by omega
              have HHb := Lib.hid (HH6.out.tail)
              clear HH6
              obtain ⟨c6, _, o6⟩ := HRD.out w4 (hv ++ ((w.heap.size, Obj.cells (sC t n) 24) :: F)) (HHb.out.perm (by classical rw [List.perm_iff_count]; intro a; simp only [List.count_append, List.count_cons, List.count_nil]; omega))
              have HO6 := Lib.hid (o6.at_ HXX.out)
              have hB : Holds w0 ((w4.heap.size, .cells #[.int .u8 0, .int .u8 0, .int .u8 0, .int .u8 0, .int .u8 0, .int .u8 0, .int .u8 0, .int .u8 0, .int .u8 0, .int .u8 0, .int .u8 0, .int .u8 0, .int .u8 0, .int .u8 0, .int .u8 0, .int .u8 0, .int .i64 x.t, .int .u8 x.n, .string x.val, .bool x.gone] 49) :: (hv ++ (h ++ ((w.heap.size, Obj.cells (sC t n) 24) :: F)))) (w4.alloc (.cells #[.int .u8 0, .int .u8 0, .int .u8 0, .int .u8 0, .int .u8 0, .int .u8 0, .int .u8 0, .int .u8 0, .int .u8 0, .int .u8 0, .int .u8 0, .int .u8 0, .int .u8 0, .int .u8 0, .int .u8 0, .int .u8 0, .int .i64 x.t, .int .u8 x.n, .string x.val, .bool x.gone] 49)) := HHb.out.alloc _
              obtain ⟨v9, h9, w9, r1, r2, r3⟩ := app_o HRV.out (hB.perm (k := hv ++ ((w4.heap.size, .cells #[.int .u8 0, .int .u8 0, .int .u8 0, .int .u8 0, .int .u8 0, .int .u8 0, .int .u8 0, .int .u8 0, .int .u8 0, .int .u8 0, .int .u8 0, .int .u8 0, .int .u8 0, .int .u8 0, .int .u8 0, .int .u8 0, .int .i64 x.t, .int .u8 x.n, .string x.val, .bool x.gone] 49) :: (h ++ ((w.heap.size, Obj.cells (sC t n) 24) :: F)))) (by classical rw [List.perm_iff_count]; intro a; simp only [List.count_append, List.count_cons, List.count_nil]; omega)) (some ⟨w4.heap.size, 0, none⟩) 1 1 (fun h => by cases h) (oC x).toList (reads_o (x := x) hB) (by simp [oC, Value.oneCell']) (by omega)
              obtain ⟨A9, c9, rfl, _, _⟩ := RowB.form r2
              have R1 := Lib.hid r1; have R2 := Lib.hid r2; have R3 := Lib.hid r3
              clear r1 r2 r3 hB o6
              go_wp2_with (first | (with_reducible refine ldOmL (.tmp 64) b (k * 20) x rfl HO6.out ?_) | ((with_reducible refine apL (.tmp 58) (.tmp 66) ?_ ?_ R1.out ?_); rfl; rfl))
              go_roundw
              case rel => exact ⟨k + 1, h9, by omega, by go_num, by rw [show k + 1 - T = k - T + 1 by omega, drop_step_in HXX.out hTk, oV_app, show oV [x] = (oC x).toList by simp [oV]]; exact R2.out, (R3.out.perm (k := (w4.heap.size, .cells #[.int .u8 0, .int .u8 0, .int .u8 0, .int .u8 0, .int .u8 0, .int .u8 0, .int .u8 0, .int .u8 0, .int .u8 0, .int .u8 0, .int .u8 0, .int .u8 0, .int .u8 0, .int .u8 0, .int .u8 0, .int .u8 0, .int .i64 x.t, .int .u8 x.n, .string x.val, .bool x.gone] 49) :: (h9 ++ (h ++ ((w.heap.size, Obj.cells (sC t n) 24) :: F)))) (by classical rw [List.perm_iff_count]; intro a; simp only [List.count_append, List.count_cons, List.count_nil]; omega)).tail⟩
              case measure => simp [intOf] <;> omega
    · obtain rfl : k = L.length := by omega
      rw [List.take_of_length_le (Nat.le_refl _)] at HRV
      have hTi : T = L.length - (L.length - T) := by omega
      have HDL := Lib.hid (show (L.drop T).length = L.length - T from List.length_drop)
      obtain ⟨_, f1, _⟩ := HRD.out wr (hv ++ ((w.heap.size, Obj.cells (sC t n) 24) :: F)) (HH1.out.perm (by classical rw [List.perm_iff_count]; intro a; simp only [List.count_append, List.count_cons, List.count_nil]; omega))
      have HEND := Lib.hid (HSET.out wr hv (hv ++ ((w.heap.size, Obj.cells (sC t n) 24) :: F)) (.slice AV (L.length - T) cV) (HH1.out.perm (by classical rw [List.perm_iff_count]; intro a; simp only [List.count_append, List.count_cons, List.count_nil]; omega)) (by rw [HDL.out]; exact HRV.out) ((w.heap.size, Obj.cells (sC t n) 24) :: F) (List.Perm.refl _))
      have HTI := Lib.hid hTi
      have hmle : L.length - T ≤ L.length := by omega
      generalize L.length - T = m at HRV HEND HTI hmle hvc ⊢
      have hmi : (L.length : Int) - (m : Int) = (T : Int) := by have := HTI.out; omega
      clear hTi
      go_wp2_with fail
      go_ret
      obtain ⟨h', hI', hH'⟩ := HEND.out
      exact ⟨rfl, h', hI', (hH'.perm (k := (w.heap.size, Obj.cells (sC t n) 24) :: (h' ++ F)) (by classical rw [List.perm_iff_count]; intro a; simp only [List.count_append, List.count_cons, List.count_nil]; omega)).tail⟩
theorem rtrim_calls (r : Nat) (L : List Ver) (t n : Int) (h F : Hp) (w0 w : World) (hI : IsR r L h) (H : Holds w0 (h ++ F) w) :
    Calls Try.prog 22 #[.pointer (some ⟨r, 0, none⟩), .agg (sC t n)] w fun e w' => e = .returned (.int .i64 (trimN L t n)) ∧ ∃ h', IsR r (L.drop (trimN L t n)) h' ∧ Holds w0 (h' ++ F) w' := by
  have hI0 := hI
  obtain ⟨v, hr, hR, rfl, hri, hl⟩ := hI
  obtain ⟨A, b, c, rfl, e1, hro⟩ := ro_row hR
  refine rtrim_walk r L t n _ _ F w0 w A b c rfl (Nat.le_trans (trim_le L t n) (until_le L t n)) e1 hl hri hI0 ?_ ?_ H
  · intro w' X H'
    exact ⟨H'.cell 0, H'.froz 0, hro w0 ((r, .cells #[.slice A L.length c] 43) :: X) w' (H'.perm (by classical rw [List.perm_iff_count]; intro a; simp only [List.count_append, List.count_cons, List.count_nil]; omega))⟩
  · intro w' hv X v' H' R' R hX
    refine ⟨(r, .cells #[v'] 43) :: hv, ⟨v', hv, R', rfl, hri.sublist (List.drop_sublist _ _), by rw [List.length_drop]; omega⟩, ?_⟩
    have h2 : Holds w0 ((r, .cells #[v'] 43) :: (hr ++ X)) (w'.setCell ⟨r, 0, none⟩ v') := Holds.set (H' : Holds w0 ((r, .cells #[.slice A L.length c] 43) :: (hr ++ X)) w') 0 v'
    have h3 := h2.perm (k := hr ++ ((r, .cells #[v'] 43) :: X)) (by classical rw [List.perm_iff_count]; intro a; simp only [List.count_append, List.count_cons, List.count_nil]; omega)
    exact h3.right.perm (hX.cons _)
end Go.Proofs.Ytgkigcobaimccaa
