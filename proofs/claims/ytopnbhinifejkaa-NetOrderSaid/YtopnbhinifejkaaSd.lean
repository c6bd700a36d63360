/- What a net's Send does: a contract for every world. Conditions: each theorem's own. -/
import Derived.Test.YtopnbhinifejkaaNt
namespace Go.Proofs.Ytopnbhinifejkaa
open Go.RowKit Go.Proofs.Ytopnbhinifejkaa.Sp
set_option linter.unusedVariables false
set_option linter.unusedSimpArgs false
def sendM (m : NM) (p : Pk) : Bool × NM :=
  if (0 ≤ p.fr ∧ p.fr < m.nodes) ∧ (0 ≤ p.dt ∧ p.dt < m.nodes) ∧ m.isCut p.fr p.dt = false ∧ (m.l.length : Int) < m.room then (true, { m with l := m.l ++ [p] }) else (false, m)
theorem info31i : ∃ i z, Try.prog.info? 31 = some i ∧ i.zero = some z ∧ i.size = 3 ∧ i.bytes = 40 ∧ z.cells.size = 3 := by
  have h : (Try.prog.info? 31).any (fun i => (match i.zero with | some z => z.cells.size == 3 | _ => false) && i.size == 3 && i.bytes == 40) = true := by kernel_rfl
  cases hu : Try.prog.info? 31 with
  | none => rw [hu] at h; cases h
  | some i =>
    rw [hu] at h
    simp only [Option.any_some, Bool.and_eq_true, beq_iff_eq] at h
    obtain ⟨⟨h1, h2⟩, h3⟩ := h
    cases hz : i.zero with
    | none => rw [hz] at h1; cases h1
    | some z =>
      rw [hz] at h1
      exact ⟨i, z, rfl, hz, h2, h3, by simpa using h1⟩
/-- append, of one packet that lies in a block of its own. -/
theorem pk_append {w0 w : World} {h F : Hp} {v : Value} {n : Nat} {xs : List Value} (R : RowB 31 3 v n xs h) (H : Holds w0 (h ++ F) w) (ty : TypeId) (b : Nat) (u : Value) (p : Pk) (hu : u.oneCell' = true) (hb : w.heap[b]? = some (.cells (pkC u p) 31 (0, 0))) (hn : n ≤ 1000000) :
    ∃ v' h' w', (Builtin.append_ #[56, 56] ty #[v, .slice (some ⟨b, 0, none⟩) 1 1]).run Try.prog w = .ok v' w' ∧ RowB 31 3 v' (n + 1) (xs ++ (pkC u p).toList) h' ∧ Holds w0 (h' ++ F) w' := by
  obtain ⟨i, z, hi, hz, h1, h2, h3⟩ := info31i
  have hmx : maxLen = 9223372036854775807 := rfl
  refine row_append (t := 56) R H ty i z 40 Try.underlying56 hi hz h1 h2 h3 (by decide) (some ⟨b, 0, none⟩) 1 1 (fun h => by cases h) (pkC u p).toList ⟨rfl, (fun h => by cases h), ?_⟩ ?_ (by omega) (by omega)
  · intro ad had j x hj
    injection had with had
    subst had
    have e : (⟨b, 0, none⟩ : Addr).add j = ⟨b, j, none⟩ := by simp [Addr.add]; omega
    rw [e]
    simp only [World.cell?, hb]
    rwa [Array.getElem?_toList] at hj
  · intro x hx
    simp only [pkC, List.mem_cons, List.not_mem_nil, or_false] at hx
    rcases hx with rfl | rfl | rfl
    · rfl
    · rfl
    · exact hu
/-- append, in a drawn statement. -/
theorem wpA {P : Program} {o : Oper} {a : Act} {w w' : World} {K : Act → World → Prop} {Q : Exit → Act → World → Prop} (s x : Operand) {t u : TypeId} {v v1 v' : Value}
    (ho : o.op = .call { callee := .builtin .append, args := #[s, x], argTypes := #[t, u] }) (hs : a.eval s = v) (hx : a.eval x = v1) (hrun : (Builtin.append_ #[t, u] o.type #[v, v1]).run P w = .ok v' w') (hK : K (a.put o.dst v') w') : o.wp P a w K Q := by
  unfold Oper.wp execOp
  simp only [ho, resolve, invoke, builtin, Sem.run_bind, Sem.run_pure, Result.andThen_ok, List.map_toArray, List.map_cons, List.map_nil, hs, hx, hrun]
  exact hK
/-- The drawn statement's state: operation j appends, waits for a, b; b for c, c for d. -/
def SdI (j a b c d : Nat) (W : World) (ad : Addr) (v : Value) (Ls : Nat → Bool) (w' : World) : Prop :=
  (Ls j = true → Ls a = true ∧ Ls b = true) ∧ (Ls b = true → Ls c = true) ∧ (Ls c = true → Ls d = true) ∧ (Ls j = false → Below W.heap.size W w') ∧ w'.cell? ad = some v
theorem SdI.no {j a b c d : Nat} {W : World} {ad : Addr} {v : Value} {Ls : Nat → Bool} {w' : World} (h : SdI j a b c d W ad v Ls w') (i : Nat) (hi : i = b ∨ i = c ∨ i = d ∨ i = j) (hL : Ls i = false) : Ls j = false ∧ Below W.heap.size W w' := by
  have : Ls j = false := by
    obtain ⟨h1, h2, h3, _⟩ := h
    cases hj : Ls j
    · rfl
    · have h4 := (h1 hj).2
      have h5 := h2 h4
      have h6 := h3 h5
      rcases hi with rfl | rfl | rfl | rfl <;> simp_all
  exact ⟨this, h.2.2.2.1 this⟩
theorem cell_grow {w w' : World} {ad : Addr} {v : Value} (h : w.cell? ad = some v) (hb : Below w.heap.size w w') : w'.cell? ad = some v := (hb.cell (World.block_lt_of_cell? w _ h)).trans h
/-- What an append in a drawn statement leaves: blocks that the statement made stay; before it nothing else is touched. -/
def SdS (j : Nat) (W : World) (k : Nat) (w1 w2 : World) : Prop := (∀ b, W.heap.size ≤ b → b < w1.heap.size → w2.heap[b]? = w1.heap[b]?) ∧ (k ≠ j → Below w1.heap.size w1 w2) ∧ w1.heap.size ≤ w2.heap.size
theorem SdS.below {j k : Nat} {W w1 w2 : World} (h : Below w1.heap.size w1 w2) : SdS j W k w1 w2 := ⟨fun b _ hb => h.block b hb, fun _ => h, h.size⟩
def New6 (W : World) (p : Pk) (w : World) (v : Value) : Prop := ∃ v' hv, v = .agg (pkC v' p) ∧ RowB 5 1 v' p.b.length (bv p.b) hv ∧ ∀ x ∈ hv, w.heap[x.1]? = some x.2 ∧ W.heap.size ≤ x.1
def New7 (W : World) (p : Pk) (w : World) (v : Value) : Prop := ∃ b v' hv, v = .slice (some ⟨b, 0, none⟩) 1 1 ∧ w.heap[b]? = some (.cells (pkC v' p) 31 (0, 0)) ∧ W.heap.size ≤ b ∧ RowB 5 1 v' p.b.length (bv p.b) hv ∧ ∀ x ∈ hv, w.heap[x.1]? = some x.2 ∧ W.heap.size ≤ x.1
def New8 (w0 : World) (rest F : Hp) (n : Nat) (xs : List Value) (p : Pk) (w : World) (v : Value) : Prop := ∃ v' hv h', RowB 31 3 v (n + 1) (xs ++ (pkC v' p).toList) h' ∧ RowB 5 1 v' p.b.length (bv p.b) hv ∧ Holds w0 (h' ++ (rest ++ (hv ++ F))) w
theorem New6.stab {j k : Nat} {W w1 w2 : World} {p : Pk} {v : Value} (hS : SdS j W k w1 w2) (h : New6 W p w1 v) : New6 W p w2 v := by
  obtain ⟨v', hv, a, b, c⟩ := h
  exact ⟨v', hv, a, b, fun x hx => ⟨(hS.1 _ (c x hx).2 (lt_of_block (c x hx).1)).trans (c x hx).1, (c x hx).2⟩⟩
theorem New7.stab {j k : Nat} {W w1 w2 : World} {p : Pk} {v : Value} (hS : SdS j W k w1 w2) (h : New7 W p w1 v) : New7 W p w2 v := by
  obtain ⟨d, v', hv, a, a2, a3, b, c⟩ := h
  exact ⟨d, v', hv, a, (hS.1 _ a3 (lt_of_block a2)).trans a2, a3, b, fun x hx => ⟨(hS.1 _ (c x hx).2 (lt_of_block (c x hx).1)).trans (c x hx).1, (c x hx).2⟩⟩
theorem New8.stab {j k : Nat} {W w0 w1 w2 : World} {rest F : Hp} {n : Nat} {xs : List Value} {p : Pk} {v : Value} (hne : j ≠ k) (hS : SdS j W k w1 w2) (h : New8 w0 rest F n xs p w1 v) : New8 w0 rest F n xs p w2 v := by
  obtain ⟨v', hv, h', a, b, c⟩ := h
  exact ⟨v', hv, h', a, b, c.grow (hS.2.1 (fun e => hne e.symm))⟩
theorem Holds.addRow {w0 W w : World} {h hv : Hp} {e : TypeId} {sz n : Nat} {v : Value} {xs : List Value} (R : RowB e sz v n xs hv) (H : Holds w0 h W) (hb : Below W.heap.size W w) (hx : ∀ x ∈ hv, w.heap[x.1]? = some x.2 ∧ W.heap.size ≤ x.1) : Holds w0 (hv ++ h) w := by
  obtain ⟨h1, ⟨rfl, h0, rfl⟩ | ⟨g, cap, cur, rfl, rfl, h2, h3, h4, h5⟩⟩ := R
  · exact H.grow hb
  · have := hx _ List.mem_cons_self
    exact H.add hb this.2 this.1
/-- append, of one packet that lies in a block of its own: what the statement made stays. -/
theorem pk_append2 {W w0 w : World} {h F : Hp} {v : Value} {n : Nat} {xs : List Value} (R : RowB 31 3 v n xs h) (HW : Holds w0 (h ++ F) W) (H : Holds w0 (h ++ F) w) (hWw : W.heap.size ≤ w.heap.size) (ty : TypeId) (b : Nat) (u : Value) (p : Pk) (hu : u.oneCell' = true) (hb : w.heap[b]? = some (.cells (pkC u p) 31 (0, 0))) (hn : n ≤ 1000000) {hv : Hp} {k : Nat} {ys : List Value} {u' : Value}
    (hR : RowB 5 1 u' k ys hv) (hx : ∀ x ∈ hv, w.heap[x.1]? = some x.2 ∧ W.heap.size ≤ x.1) (hbe : Below W.heap.size W w) :
    ∃ v' h' w', (Builtin.append_ #[56, 56] ty #[v, .slice (some ⟨b, 0, none⟩) 1 1]).run Try.prog w = .ok v' w' ∧ RowB 31 3 v' (n + 1) (xs ++ (pkC u p).toList) h' ∧ Holds w0 (h' ++ (hv ++ F)) w' ∧ (∀ b, W.heap.size ≤ b → b < w.heap.size → w'.heap[b]? = w.heap[b]?) ∧ w.heap.size ≤ w'.heap.size := by
  obtain ⟨i, z, hi, hz, h1, h2, h3⟩ := info31i
  have hmx : maxLen = 9223372036854775807 := rfl
  have H2 : Holds w0 (h ++ (hv ++ F)) w := (Holds.addRow hR HW hbe hx).perm (by rw [← List.append_assoc, ← List.append_assoc]; exact List.perm_append_comm.append_right F)
  obtain ⟨v', w', hrun, ho', hg, _, hw⟩ := run_append_own_at w w0.heap.size 56 ty 31 i z 3 40 Try.underlying56 hi hz h1 h2 h3 (by decide) v n xs (R.owns H) ⟨b, 0, none⟩ 1 1 (pkC u p).toList rfl (by
    intro j x hj
    have e : (⟨b, 0, none⟩ : Addr).add j = ⟨b, j, none⟩ := by simp [Addr.add]; omega
    rw [e]
    simp only [World.cell?, hb]
    rwa [Array.getElem?_toList] at hj) (by
    intro x hx
    simp only [pkC, List.mem_cons, List.not_mem_nil, or_false] at hx
    rcases hx with rfl | rfl | rfl
    · rfl
    · rfl
    · exact hu) (by omega) (by omega) H.size
  obtain ⟨h', r1, r2⟩ := R.laid H2 ho' hg hw
  refine ⟨v', h', w', hrun, r1, r2, fun d hd1 hd2 => hg.block d hd2 (fun e => ?_), hg.size⟩
  obtain ⟨_, ⟨rfl, rfl, rfl⟩ | ⟨g, cap, cur, rfl, rfl, _⟩⟩ := R
  · simp [Value.ownBlock] at e
  · have e2 : d = g := by simpa [Value.ownBlock] using e
    have := HW.lt
    omega
theorem ok_add {m : NM} (hok : m.ok) (h : (m.l.length : Int) < m.room) (p : Pk) (hl : p.b.length ≤ 1000) (hw : (Lit.int .i64 p.fr).wf = true ∧ (Lit.int .i64 p.dt).wf = true) : NM.ok { m with l := m.l ++ [p] } := by
  obtain ⟨h1, h2, h3, h4, h5⟩ := hok
  refine ⟨h1, h2, by simp; omega, ?_, ?_⟩
  · intro q hq
    rcases List.mem_append.mp hq with h | h
    · exact h4 q h
    · obtain rfl := List.mem_singleton.mp h; exact hl
  · intro q hq
    rcases List.mem_append.mp hq with h | h
    · exact h5 q h
    · obtain rfl := List.mem_singleton.mp h; exact hw
theorem in64 {m : NM} {x : Int} (hok : m.ok) (h : 0 ≤ x ∧ x < m.nodes) : (Lit.int .i64 x).wf = true := by
  have := hok.nodes
  simp [Lit.wf, IntKind.min, IntKind.max, IntKind.signed, IntKind.bits]
  omega
set_option maxRecDepth 100000 in
set_option maxHeartbeats 4000000 in
theorem send_A (g : Nat) (m : NM) (h F : Hp) (v : Value) (p : Pk) (A : Option Addr) (c : Nat) (w0 w : World) (hv : v = .slice A p.b.length c) (hc : A = none → c = 0) (hl : p.b.length ≤ 1000)
    (hrd : ∀ w', Holds w0 F w' → Reads w' A p.b.length 1 (bv p.b)) (hI : IsN g m h) (H : Holds w0 (h ++ F) w) (hf : ¬ (0 ≤ p.fr ∧ p.fr < m.nodes)) :
    Calls Try.prog 8 #[.pointer (some ⟨g, 0, none⟩), .agg (pkC v p)] w fun e w' => e = .returned (.bool (sendM m p).1) ∧ ∃ h', IsN g (sendM m p).2 h' ∧ Holds w0 (h' ++ F) w' := by
  obtain ⟨mb, o, v2, L, hr, hp, hM, hR, hP, hml, rfl, hok⟩ := hI
  obtain ⟨AL, cL, rfl, _, _⟩ := RowB.form hR
  subst hv
  obtain ⟨W, hW⟩ : ∃ W, W = (w.alloc (.cells (pkC (.slice A p.b.length c) p) 31)) := ⟨_, rfl⟩
  have hH1 : Holds w0 ((w.heap.size, .cells (pkC (.slice A p.b.length c) p) 31) :: ((g, netO m.nodes m.room (.slice AL L.length cL) mb) :: (mb, o) :: (hr ++ hp) ++ F)) W := by rw [hW]; exact H.alloc _
  have HG := Lib.hid (fun w' (hb : Below W.heap.size W w') => show w'.heap[g]? = some (netO m.nodes m.room (.slice AL L.length cL) mb) from (hH1.grow hb).tail.get)
  have HB0 := Lib.hid (fun w' (hb : Below W.heap.size W w') => show w'.cell? ⟨w.heap.size, 0, none⟩ = some (.int .i64 p.fr) from (hH1.grow hb).cell 0)
  have HB1 := Lib.hid (fun w' (hb : Below W.heap.size W w') => show w'.cell? ⟨w.heap.size, 1, none⟩ = some (.int .i64 p.dt) from (hH1.grow hb).cell 1)
  have HC1 := Lib.hid (fun w' (hb : Below W.heap.size W w') => show w'.cell? ⟨g, 1, none⟩ = some (.int .i64 m.room) from (hH1.grow hb).tail.cell 1)
  have HC2 := Lib.hid (fun w' (hb : Below W.heap.size W w') => show w'.cell? ⟨g, 2, none⟩ = some (.slice AL L.length cL) from (hH1.grow hb).tail.cell 2)
  have HC3 := Lib.hid (fun w' (hb : Below W.heap.size W w') => show w'.cell? ⟨g, 3, none⟩ = some (.map (some mb)) from (hH1.grow hb).tail.cell 3)
  have HM := Lib.hid hM; have HR := Lib.hid hR; have HP := Lib.hid hP; have HML := Lib.hid hml; have HOK := Lib.hid hok; have HRD := Lib.hid hrd
  have HH := Lib.hid hH1
  have HWb := Lib.hid hW
  have hlen : m.l.length = L.length := by rw [hml]; simp
  have q : sendM m p = (false, m) := by
    unfold sendM
    exact if_neg (by rintro ⟨h, _⟩; exact hf h)
  rw [q]
  have hfr : decide (0 ≤ p.fr ∧ p.fr < m.nodes) = false := decide_eq_false hf
  have HQ := Lib.hid q
  clear hM hR hP hml hok hH1 H hrd hW q
  go_enter Try.func8, Try.ntmps8
  go_wp2_with fail
  rw [← HWb.out]
  refine region_quiet_lit (C := fun w' => Below W.heap.size W w') (by kernel_rfl) (by kernel_rfl) (Below.refl _ _).drew ?_
  go_big_quiet_step (exact fun _ => rfl)
  go_big_quiet_step (exact fun _ => rfl)
  refine BigFrame.wpQuiet_want rfl (fun K hK => ?_)
  refine quiet_val (.int .i64 p.fr) (fun w2 hw => by have q := HB0.out w2 hw; simp [go_sem, q]) (hK _ ?_)
  clear hK K
  simp only [Act.put, List.setIfInBounds_toArray, List.set_cons_zero, List.set_cons_succ]
  refine BigFrame.wpQuiet_want rfl (fun K hK => ?_)
  refine quiet_call 24 #[.pointer (some ⟨g, 0, none⟩), .int .i64 p.fr] (.bool false) (fun w2 => by simp [go_sem]) (fun w2 hw => (node_calls g m.nodes m.room p.fr (.slice AL L.length cL) mb w2 (HG.out w2 hw)).mono fun e w3 hh => ⟨by rw [hh.1, hfr], by rw [hh.2]; exact hw⟩) (hK _ ?_)
  clear hK K
  simp only [Act.put, List.setIfInBounds_toArray, List.set_cons_zero, List.set_cons_succ]
  go_big_quiet_step (exact fun _ => rfl)
  go_big_quiet_step (exact fun _ => rfl)
  go_big_quiet_skip
  go_big_quiet_skip
  go_big_quiet_skip
  go_big_quiet_skip
  go_big_quiet_skip
  go_big_quiet_step (exact fun _ => rfl)
  go_big_quiet_step (exact fun _ => rfl)
  go_big_quiet_skip
  go_big_quiet_skip
  go_big_quiet_skip
  go_big_quiet_skip
  go_big_quiet_skip
  go_big_quiet_skip
  go_big_quiet_skip
  go_big_quiet_skip
  go_big_quiet_skip
  go_big_quiet_skip
  go_big_quiet_step (exact fun _ => rfl)
  go_big_quiet_step (exact fun _ => rfl)
  go_big_quiet_skip
  go_big_quiet_skip
  go_big_quiet_skip
  go_big_quiet_skip
  go_big_quiet_skip
  go_big_quiet_skip
  go_big_quiet_skip
  go_big_quiet_skip
  go_big_quiet_skip
  go_big_quiet_skip
  go_big_quiet_step (exact fun _ => rfl)
  refine wpQuiet_nil ?_
  intro w4 hw4
  have HH4 := Lib.hid (HH.out.grow hw4)
  clear hw4
  go_wp2_with fail
  go_ret
  refine ⟨rfl, _, ⟨mb, o, _, L, hr, hp, HM.out, HR.out, HP.out, HML.out, rfl, HOK.out⟩, HH4.out.tail⟩
set_option maxRecDepth 100000 in
set_option maxHeartbeats 4000000 in
theorem send_B (g : Nat) (m : NM) (h F : Hp) (v : Value) (p : Pk) (A : Option Addr) (c : Nat) (w0 w : World) (hv : v = .slice A p.b.length c) (hc : A = none → c = 0) (hl : p.b.length ≤ 1000)
    (hrd : ∀ w', Holds w0 F w' → Reads w' A p.b.length 1 (bv p.b)) (hI : IsN g m h) (H : Holds w0 (h ++ F) w) (hf : 0 ≤ p.fr ∧ p.fr < m.nodes) (hd : ¬ (0 ≤ p.dt ∧ p.dt < m.nodes)) :
    Calls Try.prog 8 #[.pointer (some ⟨g, 0, none⟩), .agg (pkC v p)] w fun e w' => e = .returned (.bool (sendM m p).1) ∧ ∃ h', IsN g (sendM m p).2 h' ∧ Holds w0 (h' ++ F) w' := by
  obtain ⟨mb, o, v2, L, hr, hp, hM, hR, hP, hml, rfl, hok⟩ := hI
  obtain ⟨AL, cL, rfl, _, _⟩ := RowB.form hR
  subst hv
  obtain ⟨W, hW⟩ : ∃ W, W = (w.alloc (.cells (pkC (.slice A p.b.length c) p) 31)) := ⟨_, rfl⟩
  have hH1 : Holds w0 ((w.heap.size, .cells (pkC (.slice A p.b.length c) p) 31) :: ((g, netO m.nodes m.room (.slice AL L.length cL) mb) :: (mb, o) :: (hr ++ hp) ++ F)) W := by rw [hW]; exact H.alloc _
  have HG := Lib.hid (fun w' (hb : Below W.heap.size W w') => show w'.heap[g]? = some (netO m.nodes m.room (.slice AL L.length cL) mb) from (hH1.grow hb).tail.get)
  have HB0 := Lib.hid (fun w' (hb : Below W.heap.size W w') => show w'.cell? ⟨w.heap.size, 0, none⟩ = some (.int .i64 p.fr) from (hH1.grow hb).cell 0)
  have HB1 := Lib.hid (fun w' (hb : Below W.heap.size W w') => show w'.cell? ⟨w.heap.size, 1, none⟩ = some (.int .i64 p.dt) from (hH1.grow hb).cell 1)
  have HC1 := Lib.hid (fun w' (hb : Below W.heap.size W w') => show w'.cell? ⟨g, 1, none⟩ = some (.int .i64 m.room) from (hH1.grow hb).tail.cell 1)
  have HC2 := Lib.hid (fun w' (hb : Below W.heap.size W w') => show w'.cell? ⟨g, 2, none⟩ = some (.slice AL L.length cL) from (hH1.grow hb).tail.cell 2)
  have HC3 := Lib.hid (fun w' (hb : Below W.heap.size W w') => show w'.cell? ⟨g, 3, none⟩ = some (.map (some mb)) from (hH1.grow hb).tail.cell 3)
  have HM := Lib.hid hM; have HR := Lib.hid hR; have HP := Lib.hid hP; have HML := Lib.hid hml; have HOK := Lib.hid hok; have HRD := Lib.hid hrd
  have HH := Lib.hid hH1
  have HWb := Lib.hid hW
  have hlen : m.l.length = L.length := by rw [hml]; simp
  have q : sendM m p = (false, m) := by
    unfold sendM
    exact if_neg (by rintro ⟨_, h, _⟩; exact hd h)
  rw [q]
  have hfr : decide (0 ≤ p.fr ∧ p.fr < m.nodes) = true := decide_eq_true hf
  have hdt : decide (0 ≤ p.dt ∧ p.dt < m.nodes) = false := decide_eq_false hd
  have HQ := Lib.hid q
  clear hM hR hP hml hok hH1 H hrd hW q
  go_enter Try.func8, Try.ntmps8
  go_wp2_with fail
  rw [← HWb.out]
  refine region_quiet_lit (C := fun w' => Below W.heap.size W w') (by kernel_rfl) (by kernel_rfl) (Below.refl _ _).drew ?_
  go_big_quiet_step (exact fun _ => rfl)
  go_big_quiet_step (exact fun _ => rfl)
  refine BigFrame.wpQuiet_want rfl (fun K hK => ?_)
  refine quiet_val (.int .i64 p.fr) (fun w2 hw => by have q := HB0.out w2 hw; simp [go_sem, q]) (hK _ ?_)
  clear hK K
  simp only [Act.put, List.setIfInBounds_toArray, List.set_cons_zero, List.set_cons_succ]
  refine BigFrame.wpQuiet_want rfl (fun K hK => ?_)
  refine quiet_call 24 #[.pointer (some ⟨g, 0, none⟩), .int .i64 p.fr] (.bool true) (fun w2 => by simp [go_sem]) (fun w2 hw => (node_calls g m.nodes m.room p.fr (.slice AL L.length cL) mb w2 (HG.out w2 hw)).mono fun e w3 hh => ⟨by rw [hh.1, hfr], by rw [hh.2]; exact hw⟩) (hK _ ?_)
  clear hK K
  simp only [Act.put, List.setIfInBounds_toArray, List.set_cons_zero, List.set_cons_succ]
  go_big_quiet_step (exact fun _ => rfl)
  go_big_quiet_step (exact fun _ => rfl)
  go_big_quiet_step (exact fun _ => rfl)
  go_big_quiet_step (exact fun _ => rfl)
  refine BigFrame.wpQuiet_want rfl (fun K hK => ?_)
  refine quiet_val (.int .i64 p.dt) (fun w2 hw => by have q := HB1.out w2 hw; simp [go_sem, q]) (hK _ ?_)
  clear hK K
  simp only [Act.put, List.setIfInBounds_toArray, List.set_cons_zero, List.set_cons_succ]
  refine BigFrame.wpQuiet_want rfl (fun K hK => ?_)
  refine quiet_call 24 #[.pointer (some ⟨g, 0, none⟩), .int .i64 p.dt] (.bool false) (fun w2 => by simp [go_sem]) (fun w2 hw => (node_calls g m.nodes m.room p.dt (.slice AL L.length cL) mb w2 (HG.out w2 hw)).mono fun e w3 hh => ⟨by rw [hh.1, hdt], by rw [hh.2]; exact hw⟩) (hK _ ?_)
  clear hK K
  simp only [Act.put, List.setIfInBounds_toArray, List.set_cons_zero, List.set_cons_succ]
  go_big_quiet_step (exact fun _ => rfl)
  go_big_quiet_step (exact fun _ => rfl)
  go_big_quiet_step (exact fun _ => rfl)
  go_big_quiet_skip
  go_big_quiet_skip
  go_big_quiet_skip
  go_big_quiet_skip
  go_big_quiet_skip
  go_big_quiet_skip
  go_big_quiet_skip
  go_big_quiet_skip
  go_big_quiet_skip
  go_big_quiet_skip
  go_big_quiet_step (exact fun _ => rfl)
  go_big_quiet_step (exact fun _ => rfl)
  go_big_quiet_skip
  go_big_quiet_skip
  go_big_quiet_skip
  go_big_quiet_skip
  go_big_quiet_skip
  go_big_quiet_skip
  go_big_quiet_skip
  go_big_quiet_skip
  go_big_quiet_skip
  go_big_quiet_skip
  go_big_quiet_step (exact fun _ => rfl)
  refine wpQuiet_nil ?_
  intro w4 hw4
  have HH4 := Lib.hid (HH.out.grow hw4)
  clear hw4
  go_wp2_with fail
  go_ret
  refine ⟨rfl, _, ⟨mb, o, _, L, hr, hp, HM.out, HR.out, HP.out, HML.out, rfl, HOK.out⟩, HH4.out.tail⟩
set_option maxRecDepth 100000 in
set_option maxHeartbeats 4000000 in
theorem send_C (g : Nat) (m : NM) (h F : Hp) (v : Value) (p : Pk) (A : Option Addr) (c : Nat) (w0 w : World) (hv : v = .slice A p.b.length c) (hc : A = none → c = 0) (hl : p.b.length ≤ 1000)
    (hrd : ∀ w', Holds w0 F w' → Reads w' A p.b.length 1 (bv p.b)) (hI : IsN g m h) (H : Holds w0 (h ++ F) w) (hf : 0 ≤ p.fr ∧ p.fr < m.nodes) (hd : 0 ≤ p.dt ∧ p.dt < m.nodes) (hcut : m.isCut p.fr p.dt = true) :
    Calls Try.prog 8 #[.pointer (some ⟨g, 0, none⟩), .agg (pkC v p)] w fun e w' => e = .returned (.bool (sendM m p).1) ∧ ∃ h', IsN g (sendM m p).2 h' ∧ Holds w0 (h' ++ F) w' := by
  obtain ⟨mb, o, v2, L, hr, hp, hM, hR, hP, hml, rfl, hok⟩ := hI
  obtain ⟨AL, cL, rfl, _, _⟩ := RowB.form hR
  subst hv
  obtain ⟨W, hW⟩ : ∃ W, W = (w.alloc (.cells (pkC (.slice A p.b.length c) p) 31)) := ⟨_, rfl⟩
  have hH1 : Holds w0 ((w.heap.size, .cells (pkC (.slice A p.b.length c) p) 31) :: ((g, netO m.nodes m.room (.slice AL L.length cL) mb) :: (mb, o) :: (hr ++ hp) ++ F)) W := by rw [hW]; exact H.alloc _
  have HG := Lib.hid (fun w' (hb : Below W.heap.size W w') => show w'.heap[g]? = some (netO m.nodes m.room (.slice AL L.length cL) mb) from (hH1.grow hb).tail.get)
  have HB0 := Lib.hid (fun w' (hb : Below W.heap.size W w') => show w'.cell? ⟨w.heap.size, 0, none⟩ = some (.int .i64 p.fr) from (hH1.grow hb).cell 0)
  have HB1 := Lib.hid (fun w' (hb : Below W.heap.size W w') => show w'.cell? ⟨w.heap.size, 1, none⟩ = some (.int .i64 p.dt) from (hH1.grow hb).cell 1)
  have HC1 := Lib.hid (fun w' (hb : Below W.heap.size W w') => show w'.cell? ⟨g, 1, none⟩ = some (.int .i64 m.room) from (hH1.grow hb).tail.cell 1)
  have HC2 := Lib.hid (fun w' (hb : Below W.heap.size W w') => show w'.cell? ⟨g, 2, none⟩ = some (.slice AL L.length cL) from (hH1.grow hb).tail.cell 2)
  have HC3 := Lib.hid (fun w' (hb : Below W.heap.size W w') => show w'.cell? ⟨g, 3, none⟩ = some (.map (some mb)) from (hH1.grow hb).tail.cell 3)
  have HM := Lib.hid hM; have HR := Lib.hid hR; have HP := Lib.hid hP; have HML := Lib.hid hml; have HOK := Lib.hid hok; have HRD := Lib.hid hrd
  have HH := Lib.hid hH1
  have HWb := Lib.hid hW
  have hlen : m.l.length = L.length := by rw [hml]; simp
  have q : sendM m p = (false, m) := by
    unfold sendM
    exact if_neg (by rintro ⟨_, _, h, _⟩; rw [hcut] at h; cases h)
  rw [q]
  have hfr : decide (0 ≤ p.fr ∧ p.fr < m.nodes) = true := decide_eq_true hf
  have hdt : decide (0 ≤ p.dt ∧ p.dt < m.nodes) = true := decide_eq_true hd
  have HLK := Lib.hid (fun w' (hb : Below W.heap.size W w') => by have := look_way (m := m) p.fr p.dt (in64 hok hf) (in64 hok hd) ((hH1.grow hb).tail.tail.get) hM; rw [hcut] at this; exact this)
  have HQ := Lib.hid q
  clear hM hR hP hml hok hH1 H hrd hW q hcut
  go_enter Try.func8, Try.ntmps8
  go_wp2_with fail
  rw [← HWb.out]
  refine region_quiet_lit (C := fun w' => Below W.heap.size W w') (by kernel_rfl) (by kernel_rfl) (Below.refl _ _).drew ?_
  go_big_quiet_step (exact fun _ => rfl)
  go_big_quiet_step (exact fun _ => rfl)
  refine BigFrame.wpQuiet_want rfl (fun K hK => ?_)
  refine quiet_val (.int .i64 p.fr) (fun w2 hw => by have q := HB0.out w2 hw; simp [go_sem, q]) (hK _ ?_)
  clear hK K
  simp only [Act.put, List.setIfInBounds_toArray, List.set_cons_zero, List.set_cons_succ]
  refine BigFrame.wpQuiet_want rfl (fun K hK => ?_)
  refine quiet_call 24 #[.pointer (some ⟨g, 0, none⟩), .int .i64 p.fr] (.bool true) (fun w2 => by simp [go_sem]) (fun w2 hw => (node_calls g m.nodes m.room p.fr (.slice AL L.length cL) mb w2 (HG.out w2 hw)).mono fun e w3 hh => ⟨by rw [hh.1, hfr], by rw [hh.2]; exact hw⟩) (hK _ ?_)
  clear hK K
  simp only [Act.put, List.setIfInBounds_toArray, List.set_cons_zero, List.set_cons_succ]
  go_big_quiet_step (exact fun _ => rfl)
  go_big_quiet_step (exact fun _ => rfl)
  go_big_quiet_step (exact fun _ => rfl)
  go_big_quiet_step (exact fun _ => rfl)
  refine BigFrame.wpQuiet_want rfl (fun K hK => ?_)
  refine quiet_val (.int .i64 p.dt) (fun w2 hw => by have q := HB1.out w2 hw; simp [go_sem, q]) (hK _ ?_)
  clear hK K
  simp only [Act.put, List.setIfInBounds_toArray, List.set_cons_zero, List.set_cons_succ]
  refine BigFrame.wpQuiet_want rfl (fun K hK => ?_)
  refine quiet_call 24 #[.pointer (some ⟨g, 0, none⟩), .int .i64 p.dt] (.bool true) (fun w2 => by simp [go_sem]) (fun w2 hw => (node_calls g m.nodes m.room p.dt (.slice AL L.length cL) mb w2 (HG.out w2 hw)).mono fun e w3 hh => ⟨by rw [hh.1, hdt], by rw [hh.2]; exact hw⟩) (hK _ ?_)
  clear hK K
  simp only [Act.put, List.setIfInBounds_toArray, List.set_cons_zero, List.set_cons_succ]
  go_big_quiet_step (exact fun _ => rfl)
  go_big_quiet_step (exact fun _ => rfl)
  go_big_quiet_step (exact fun _ => rfl)
  go_big_quiet_step (exact fun _ => rfl)
  go_big_quiet_step (exact fun _ => rfl)
  go_big_quiet_step (exact fun _ => rfl)
  refine BigFrame.wpQuiet_want rfl (fun K hK => ?_)
  refine quiet_val (.map (some mb)) (fun w2 hw => by have q := HC3.out w2 hw; simp [go_sem, q]) (hK _ ?_)
  clear hK K
  simp only [Act.put, List.setIfInBounds_toArray, List.set_cons_zero, List.set_cons_succ]
  go_big_quiet_step (exact fun _ => rfl)
  refine BigFrame.wpQuiet_want rfl (fun K hK => ?_)
  refine quiet_val (.int .i64 p.fr) (fun w2 hw => by have q := HB0.out w2 hw; simp [go_sem, q]) (hK _ ?_)
  clear hK K
  simp only [Act.put, List.setIfInBounds_toArray, List.set_cons_zero, List.set_cons_succ]
  go_big_quiet_step (exact fun _ => rfl)
  refine BigFrame.wpQuiet_want rfl (fun K hK => ?_)
  refine quiet_val (.int .i64 p.dt) (fun w2 hw => by have q := HB1.out w2 hw; simp [go_sem, q]) (hK _ ?_)
  clear hK K
  simp only [Act.put, List.setIfInBounds_toArray, List.set_cons_zero, List.set_cons_succ]
  refine BigFrame.wpQuiet_want rfl (fun K hK => ?_)
  refine quiet_call 25 #[.int .i64 p.fr, .int .i64 p.dt] (.agg (wayC p.fr p.dt)) (fun w2 => by simp [go_sem]) (fun w2 hw => (way_calls p.fr p.dt w2).mono fun e w3 hh => ⟨hh.1, hw.trans (hh.2.mono hw.size)⟩) (hK _ ?_)
  clear hK K
  simp only [Act.put, List.setIfInBounds_toArray, List.set_cons_zero, List.set_cons_succ]
  refine BigFrame.wpQuiet_want rfl (fun K hK => ?_)
  refine quiet_val (.bool true) (fun w2 hw => by have q := HLK.out w2 hw; simp [go_sem, q]) (hK _ ?_)
  clear hK K
  simp only [Act.put, List.setIfInBounds_toArray, List.set_cons_zero, List.set_cons_succ]
  go_big_quiet_step (exact fun _ => rfl)
  go_big_quiet_step (exact fun _ => rfl)
  go_big_quiet_skip
  go_big_quiet_skip
  go_big_quiet_skip
  go_big_quiet_skip
  go_big_quiet_skip
  go_big_quiet_skip
  go_big_quiet_skip
  go_big_quiet_skip
  go_big_quiet_skip
  go_big_quiet_skip
  go_big_quiet_step (exact fun _ => rfl)
  refine wpQuiet_nil ?_
  intro w4 hw4
  have HH4 := Lib.hid (HH.out.grow hw4)
  clear hw4
  go_wp2_with fail
  go_ret
  refine ⟨rfl, _, ⟨mb, o, _, L, hr, hp, HM.out, HR.out, HP.out, HML.out, rfl, HOK.out⟩, HH4.out.tail⟩
set_option maxRecDepth 100000 in
set_option maxHeartbeats 4000000 in
theorem send_D (g : Nat) (m : NM) (h F : Hp) (v : Value) (p : Pk) (A : Option Addr) (c : Nat) (w0 w : World) (hv : v = .slice A p.b.length c) (hc : A = none → c = 0) (hl : p.b.length ≤ 1000)
    (hrd : ∀ w', Holds w0 F w' → Reads w' A p.b.length 1 (bv p.b)) (hI : IsN g m h) (H : Holds w0 (h ++ F) w) (hf : 0 ≤ p.fr ∧ p.fr < m.nodes) (hd : 0 ≤ p.dt ∧ p.dt < m.nodes) (hcut : m.isCut p.fr p.dt = false) (hfu : ¬ (m.l.length : Int) < m.room) :
    Calls Try.prog 8 #[.pointer (some ⟨g, 0, none⟩), .agg (pkC v p)] w fun e w' => e = .returned (.bool (sendM m p).1) ∧ ∃ h', IsN g (sendM m p).2 h' ∧ Holds w0 (h' ++ F) w' := by
  obtain ⟨mb, o, v2, L, hr, hp, hM, hR, hP, hml, rfl, hok⟩ := hI
  obtain ⟨AL, cL, rfl, _, _⟩ := RowB.form hR
  subst hv
  obtain ⟨W, hW⟩ : ∃ W, W = (w.alloc (.cells (pkC (.slice A p.b.length c) p) 31)) := ⟨_, rfl⟩
  have hH1 : Holds w0 ((w.heap.size, .cells (pkC (.slice A p.b.length c) p) 31) :: ((g, netO m.nodes m.room (.slice AL L.length cL) mb) :: (mb, o) :: (hr ++ hp) ++ F)) W := by rw [hW]; exact H.alloc _
  have HG := Lib.hid (fun w' (hb : Below W.heap.size W w') => show w'.heap[g]? = some (netO m.nodes m.room (.slice AL L.length cL) mb) from (hH1.grow hb).tail.get)
  have HB0 := Lib.hid (fun w' (hb : Below W.heap.size W w') => show w'.cell? ⟨w.heap.size, 0, none⟩ = some (.int .i64 p.fr) from (hH1.grow hb).cell 0)
  have HB1 := Lib.hid (fun w' (hb : Below W.heap.size W w') => show w'.cell? ⟨w.heap.size, 1, none⟩ = some (.int .i64 p.dt) from (hH1.grow hb).cell 1)
  have HC1 := Lib.hid (fun w' (hb : Below W.heap.size W w') => show w'.cell? ⟨g, 1, none⟩ = some (.int .i64 m.room) from (hH1.grow hb).tail.cell 1)
  have HC2 := Lib.hid (fun w' (hb : Below W.heap.size W w') => show w'.cell? ⟨g, 2, none⟩ = some (.slice AL L.length cL) from (hH1.grow hb).tail.cell 2)
  have HC3 := Lib.hid (fun w' (hb : Below W.heap.size W w') => show w'.cell? ⟨g, 3, none⟩ = some (.map (some mb)) from (hH1.grow hb).tail.cell 3)
  have HM := Lib.hid hM; have HR := Lib.hid hR; have HP := Lib.hid hP; have HML := Lib.hid hml; have HOK := Lib.hid hok; have HRD := Lib.hid hrd
  have HH := Lib.hid hH1
  have HWb := Lib.hid hW
  have hlen : m.l.length = L.length := by rw [hml]; simp
  rw [hlen] at hfu
  have q : sendM m p = (false, m) := by
    unfold sendM
    exact if_neg (by rintro ⟨_, _, _, h⟩; rw [hlen] at h; omega)
  rw [q]
  have hfr : decide (0 ≤ p.fr ∧ p.fr < m.nodes) = true := decide_eq_true hf
  have hdt : decide (0 ≤ p.dt ∧ p.dt < m.nodes) = true := decide_eq_true hd
  have HLK := Lib.hid (fun w' (hb : Below W.heap.size W w') => by have := look_way (m := m) p.fr p.dt (in64 hok hf) (in64 hok hd) ((hH1.grow hb).tail.tail.get) hM; rw [hcut] at this; exact this)
  have hfull : decide (m.room ≤ (L.length : Int)) = true := decide_eq_true (by omega)
  have HQ := Lib.hid q
  clear hM hR hP hml hok hH1 H hrd hW q hcut
  go_enter Try.func8, Try.ntmps8
  go_wp2_with fail
  rw [← HWb.out]
  refine region_quiet_lit (C := fun w' => Below W.heap.size W w') (by kernel_rfl) (by kernel_rfl) (Below.refl _ _).drew ?_
  go_big_quiet_step (exact fun _ => rfl)
  go_big_quiet_step (exact fun _ => rfl)
  refine BigFrame.wpQuiet_want rfl (fun K hK => ?_)
  refine quiet_val (.int .i64 p.fr) (fun w2 hw => by have q := HB0.out w2 hw; simp [go_sem, q]) (hK _ ?_)
  clear hK K
  simp only [Act.put, List.setIfInBounds_toArray, List.set_cons_zero, List.set_cons_succ]
  refine BigFrame.wpQuiet_want rfl (fun K hK => ?_)
  refine quiet_call 24 #[.pointer (some ⟨g, 0, none⟩), .int .i64 p.fr] (.bool true) (fun w2 => by simp [go_sem]) (fun w2 hw => (node_calls g m.nodes m.room p.fr (.slice AL L.length cL) mb w2 (HG.out w2 hw)).mono fun e w3 hh => ⟨by rw [hh.1, hfr], by rw [hh.2]; exact hw⟩) (hK _ ?_)
  clear hK K
  simp only [Act.put, List.setIfInBounds_toArray, List.set_cons_zero, List.set_cons_succ]
  go_big_quiet_step (exact fun _ => rfl)
  go_big_quiet_step (exact fun _ => rfl)
  go_big_quiet_step (exact fun _ => rfl)
  go_big_quiet_step (exact fun _ => rfl)
  refine BigFrame.wpQuiet_want rfl (fun K hK => ?_)
  refine quiet_val (.int .i64 p.dt) (fun w2 hw => by have q := HB1.out w2 hw; simp [go_sem, q]) (hK _ ?_)
  clear hK K
  simp only [Act.put, List.setIfInBounds_toArray, List.set_cons_zero, List.set_cons_succ]
  refine BigFrame.wpQuiet_want rfl (fun K hK => ?_)
  refine quiet_call 24 #[.pointer (some ⟨g, 0, none⟩), .int .i64 p.dt] (.bool true) (fun w2 => by simp [go_sem]) (fun w2 hw => (node_calls g m.nodes m.room p.dt (.slice AL L.length cL) mb w2 (HG.out w2 hw)).mono fun e w3 hh => ⟨by rw [hh.1, hdt], by rw [hh.2]; exact hw⟩) (hK _ ?_)
  clear hK K
  simp only [Act.put, List.setIfInBounds_toArray, List.set_cons_zero, List.set_cons_succ]
  go_big_quiet_step (exact fun _ => rfl)
  go_big_quiet_step (exact fun _ => rfl)
  go_big_quiet_step (exact fun _ => rfl)
  go_big_quiet_step (exact fun _ => rfl)
  go_big_quiet_step (exact fun _ => rfl)
  go_big_quiet_step (exact fun _ => rfl)
  refine BigFrame.wpQuiet_want rfl (fun K hK => ?_)
  refine quiet_val (.map (some mb)) (fun w2 hw => by have q := HC3.out w2 hw; simp [go_sem, q]) (hK _ ?_)
  clear hK K
  simp only [Act.put, List.setIfInBounds_toArray, List.set_cons_zero, List.set_cons_succ]
  go_big_quiet_step (exact fun _ => rfl)
  refine BigFrame.wpQuiet_want rfl (fun K hK => ?_)
  refine quiet_val (.int .i64 p.fr) (fun w2 hw => by have q := HB0.out w2 hw; simp [go_sem, q]) (hK _ ?_)
  clear hK K
  simp only [Act.put, List.setIfInBounds_toArray, List.set_cons_zero, List.set_cons_succ]
  go_big_quiet_step (exact fun _ => rfl)
  refine BigFrame.wpQuiet_want rfl (fun K hK => ?_)
  refine quiet_val (.int .i64 p.dt) (fun w2 hw => by have q := HB1.out w2 hw; simp [go_sem, q]) (hK _ ?_)
  clear hK K
  simp only [Act.put, List.setIfInBounds_toArray, List.set_cons_zero, List.set_cons_succ]
  refine BigFrame.wpQuiet_want rfl (fun K hK => ?_)
  refine quiet_call 25 #[.int .i64 p.fr, .int .i64 p.dt] (.agg (wayC p.fr p.dt)) (fun w2 => by simp [go_sem]) (fun w2 hw => (way_calls p.fr p.dt w2).mono fun e w3 hh => ⟨hh.1, hw.trans (hh.2.mono hw.size)⟩) (hK _ ?_)
  clear hK K
  simp only [Act.put, List.setIfInBounds_toArray, List.set_cons_zero, List.set_cons_succ]
  refine BigFrame.wpQuiet_want rfl (fun K hK => ?_)
  refine quiet_val (.bool false) (fun w2 hw => by have q := HLK.out w2 hw; simp [go_sem, q]) (hK _ ?_)
  clear hK K
  simp only [Act.put, List.setIfInBounds_toArray, List.set_cons_zero, List.set_cons_succ]
  go_big_quiet_step (exact fun _ => rfl)
  go_big_quiet_step (exact fun _ => rfl)
  go_big_quiet_step (exact fun _ => rfl)
  go_big_quiet_step (exact fun _ => rfl)
  go_big_quiet_step (exact fun _ => rfl)
  refine BigFrame.wpQuiet_want rfl (fun K hK => ?_)
  refine quiet_val (.slice AL L.length cL) (fun w2 hw => by have q := HC2.out w2 hw; simp [go_sem, q]) (hK _ ?_)
  clear hK K
  simp only [Act.put, List.setIfInBounds_toArray, List.set_cons_zero, List.set_cons_succ]
  go_big_quiet_step (exact fun _ => rfl)
  go_big_quiet_step (exact fun _ => rfl)
  go_big_quiet_step (exact fun _ => rfl)
  go_big_quiet_step (exact fun _ => rfl)
  refine BigFrame.wpQuiet_want rfl (fun K hK => ?_)
  refine quiet_val (.int .i64 m.room) (fun w2 hw => by have q := HC1.out w2 hw; simp [go_sem, q]) (hK _ ?_)
  clear hK K
  simp only [Act.put, List.setIfInBounds_toArray, List.set_cons_zero, List.set_cons_succ]
  go_big_quiet_step (exact fun _ => rfl)
  go_big_quiet_step (exact fun _ => rfl)
  refine wpQuiet_nil ?_
  intro w4 hw4
  have HH4 := Lib.hid (HH.out.grow hw4)
  clear hw4
  go_wp2_with fail
  go_ret
  refine ⟨rfl, _, ⟨mb, o, _, L, hr, hp, HM.out, HR.out, HP.out, HML.out, rfl, HOK.out⟩, HH4.out.tail⟩
set_option maxRecDepth 100000 in
set_option maxHeartbeats 4000000 in
theorem send_E (g : Nat) (m : NM) (h F : Hp) (v : Value) (p : Pk) (A : Option Addr) (c : Nat) (w0 w : World) (hv : v = .slice A p.b.length c) (hc : A = none → c = 0) (hl : p.b.length ≤ 1000)
    (hrd : ∀ w', Holds w0 F w' → Reads w' A p.b.length 1 (bv p.b)) (hI : IsN g m h) (H : Holds w0 (h ++ F) w) (hf : 0 ≤ p.fr ∧ p.fr < m.nodes) (hd : 0 ≤ p.dt ∧ p.dt < m.nodes) (hcut : m.isCut p.fr p.dt = false) (hfu : (m.l.length : Int) < m.room) :
    Calls Try.prog 8 #[.pointer (some ⟨g, 0, none⟩), .agg (pkC v p)] w fun e w' => e = .returned (.bool (sendM m p).1) ∧ ∃ h', IsN g (sendM m p).2 h' ∧ Holds w0 (h' ++ F) w' := by
  obtain ⟨mb, o, v2, L, hr, hp, hM, hR, hP, hml, rfl, hok⟩ := hI
  obtain ⟨AL, cL, rfl, _, _⟩ := RowB.form hR
  subst hv
  obtain ⟨W, hW⟩ : ∃ W, W = (w.alloc (.cells (pkC (.slice A p.b.length c) p) 31)) := ⟨_, rfl⟩
  have hH1 : Holds w0 ((w.heap.size, .cells (pkC (.slice A p.b.length c) p) 31) :: ((g, netO m.nodes m.room (.slice AL L.length cL) mb) :: (mb, o) :: (hr ++ hp) ++ F)) W := by rw [hW]; exact H.alloc _
  have HG := Lib.hid (fun w' (hb : Below W.heap.size W w') => show w'.heap[g]? = some (netO m.nodes m.room (.slice AL L.length cL) mb) from (hH1.grow hb).tail.get)
  have HB0 := Lib.hid (fun w' (hb : Below W.heap.size W w') => show w'.cell? ⟨w.heap.size, 0, none⟩ = some (.int .i64 p.fr) from (hH1.grow hb).cell 0)
  have HB1 := Lib.hid (fun w' (hb : Below W.heap.size W w') => show w'.cell? ⟨w.heap.size, 1, none⟩ = some (.int .i64 p.dt) from (hH1.grow hb).cell 1)
  have HC1 := Lib.hid (fun w' (hb : Below W.heap.size W w') => show w'.cell? ⟨g, 1, none⟩ = some (.int .i64 m.room) from (hH1.grow hb).tail.cell 1)
  have HC2 := Lib.hid (fun w' (hb : Below W.heap.size W w') => show w'.cell? ⟨g, 2, none⟩ = some (.slice AL L.length cL) from (hH1.grow hb).tail.cell 2)
  have HC3 := Lib.hid (fun w' (hb : Below W.heap.size W w') => show w'.cell? ⟨g, 3, none⟩ = some (.map (some mb)) from (hH1.grow hb).tail.cell 3)
  have HM := Lib.hid hM; have HR := Lib.hid hR; have HP := Lib.hid hP; have HML := Lib.hid hml; have HOK := Lib.hid hok; have HRD := Lib.hid hrd
  have HH := Lib.hid hH1
  have HWb := Lib.hid hW
  have hlen : m.l.length = L.length := by rw [hml]; simp
  rw [hlen] at hfu
  have q : sendM m p = (true, { m with l := m.l ++ [p] }) := if_pos ⟨hf, hd, hcut, by rw [hlen]; omega⟩
  rw [q]
  have hfr : decide (0 ≤ p.fr ∧ p.fr < m.nodes) = true := decide_eq_true hf
  have hdt : decide (0 ≤ p.dt ∧ p.dt < m.nodes) = true := decide_eq_true hd
  have HLK := Lib.hid (fun w' (hb : Below W.heap.size W w') => by have := look_way (m := m) p.fr p.dt (in64 hok hf) (in64 hok hd) ((hH1.grow hb).tail.tail.get) hM; rw [hcut] at this; exact this)
  have hfull : decide (m.room ≤ (L.length : Int)) = false := decide_eq_false (by omega)
  have HQ := Lib.hid q
  clear hM hR hP hml hok hH1 H hrd hW q hcut
  go_enter Try.func8, Try.ntmps8
  go_wp2_with fail
  rw [← HWb.out]
  refine region_quiet_lit (C := fun w' => Below W.heap.size W w') (by kernel_rfl) (by kernel_rfl) (Below.refl _ _).drew ?_
  go_big_quiet_step (exact fun _ => rfl)
  go_big_quiet_step (exact fun _ => rfl)
  refine BigFrame.wpQuiet_want rfl (fun K hK => ?_)
  refine quiet_val (.int .i64 p.fr) (fun w2 hw => by have q := HB0.out w2 hw; simp [go_sem, q]) (hK _ ?_)
  clear hK K
  simp only [Act.put, List.setIfInBounds_toArray, List.set_cons_zero, List.set_cons_succ]
  refine BigFrame.wpQuiet_want rfl (fun K hK => ?_)
  refine quiet_call 24 #[.pointer (some ⟨g, 0, none⟩), .int .i64 p.fr] (.bool true) (fun w2 => by simp [go_sem]) (fun w2 hw => (node_calls g m.nodes m.room p.fr (.slice AL L.length cL) mb w2 (HG.out w2 hw)).mono fun e w3 hh => ⟨by rw [hh.1, hfr], by rw [hh.2]; exact hw⟩) (hK _ ?_)
  clear hK K
  simp only [Act.put, List.setIfInBounds_toArray, List.set_cons_zero, List.set_cons_succ]
  go_big_quiet_step (exact fun _ => rfl)
  go_big_quiet_step (exact fun _ => rfl)
  go_big_quiet_step (exact fun _ => rfl)
  go_big_quiet_step (exact fun _ => rfl)
  refine BigFrame.wpQuiet_want rfl (fun K hK => ?_)
  refine quiet_val (.int .i64 p.dt) (fun w2 hw => by have q := HB1.out w2 hw; simp [go_sem, q]) (hK _ ?_)
  clear hK K
  simp only [Act.put, List.setIfInBounds_toArray, List.set_cons_zero, List.set_cons_succ]
  refine BigFrame.wpQuiet_want rfl (fun K hK => ?_)
  refine quiet_call 24 #[.pointer (some ⟨g, 0, none⟩), .int .i64 p.dt] (.bool true) (fun w2 => by simp [go_sem]) (fun w2 hw => (node_calls g m.nodes m.room p.dt (.slice AL L.length cL) mb w2 (HG.out w2 hw)).mono fun e w3 hh => ⟨by rw [hh.1, hdt], by rw [hh.2]; exact hw⟩) (hK _ ?_)
  clear hK K
  simp only [Act.put, List.setIfInBounds_toArray, List.set_cons_zero, List.set_cons_succ]
  go_big_quiet_step (exact fun _ => rfl)
  go_big_quiet_step (exact fun _ => rfl)
  go_big_quiet_step (exact fun _ => rfl)
  go_big_quiet_step (exact fun _ => rfl)
  go_big_quiet_step (exact fun _ => rfl)
  go_big_quiet_step (exact fun _ => rfl)
  refine BigFrame.wpQuiet_want rfl (fun K hK => ?_)
  refine quiet_val (.map (some mb)) (fun w2 hw => by have q := HC3.out w2 hw; simp [go_sem, q]) (hK _ ?_)
  clear hK K
  simp only [Act.put, List.setIfInBounds_toArray, List.set_cons_zero, List.set_cons_succ]
  go_big_quiet_step (exact fun _ => rfl)
  refine BigFrame.wpQuiet_want rfl (fun K hK => ?_)
  refine quiet_val (.int .i64 p.fr) (fun w2 hw => by have q := HB0.out w2 hw; simp [go_sem, q]) (hK _ ?_)
  clear hK K
  simp only [Act.put, List.setIfInBounds_toArray, List.set_cons_zero, List.set_cons_succ]
  go_big_quiet_step (exact fun _ => rfl)
  refine BigFrame.wpQuiet_want rfl (fun K hK => ?_)
  refine quiet_val (.int .i64 p.dt) (fun w2 hw => by have q := HB1.out w2 hw; simp [go_sem, q]) (hK _ ?_)
  clear hK K
  simp only [Act.put, List.setIfInBounds_toArray, List.set_cons_zero, List.set_cons_succ]
  refine BigFrame.wpQuiet_want rfl (fun K hK => ?_)
  refine quiet_call 25 #[.int .i64 p.fr, .int .i64 p.dt] (.agg (wayC p.fr p.dt)) (fun w2 => by simp [go_sem]) (fun w2 hw => (way_calls p.fr p.dt w2).mono fun e w3 hh => ⟨hh.1, hw.trans (hh.2.mono hw.size)⟩) (hK _ ?_)
  clear hK K
  simp only [Act.put, List.setIfInBounds_toArray, List.set_cons_zero, List.set_cons_succ]
  refine BigFrame.wpQuiet_want rfl (fun K hK => ?_)
  refine quiet_val (.bool false) (fun w2 hw => by have q := HLK.out w2 hw; simp [go_sem, q]) (hK _ ?_)
  clear hK K
  simp only [Act.put, List.setIfInBounds_toArray, List.set_cons_zero, List.set_cons_succ]
  go_big_quiet_step (exact fun _ => rfl)
  go_big_quiet_step (exact fun _ => rfl)
  go_big_quiet_step (exact fun _ => rfl)
  go_big_quiet_step (exact fun _ => rfl)
  go_big_quiet_step (exact fun _ => rfl)
  refine BigFrame.wpQuiet_want rfl (fun K hK => ?_)
  refine quiet_val (.slice AL L.length cL) (fun w2 hw => by have q := HC2.out w2 hw; simp [go_sem, q]) (hK _ ?_)
  clear hK K
  simp only [Act.put, List.setIfInBounds_toArray, List.set_cons_zero, List.set_cons_succ]
  go_big_quiet_step (exact fun _ => rfl)
  go_big_quiet_step (exact fun _ => rfl)
  go_big_quiet_step (exact fun _ => rfl)
  go_big_quiet_step (exact fun _ => rfl)
  refine BigFrame.wpQuiet_want rfl (fun K hK => ?_)
  refine quiet_val (.int .i64 m.room) (fun w2 hw => by have q := HC1.out w2 hw; simp [go_sem, q]) (hK _ ?_)
  clear hK K
  simp only [Act.put, List.setIfInBounds_toArray, List.set_cons_zero, List.set_cons_succ]
  go_big_quiet_step (exact fun _ => rfl)
  go_big_quiet_step (exact fun _ => rfl)
  refine wpQuiet_nil ?_
  intro w4 hw4
  obtain ⟨W2, hW2⟩ : ∃ W2, W2 = w4.drew := ⟨_, rfl⟩
  have h0 := (HH.out.grow hw4).drew
  rw [← hW2] at h0
  have h1 : Holds w0 (hr ++ (((g, netO m.nodes m.room (.slice AL L.length cL) mb) :: (mb, o) :: hp) ++ F)) W2 := h0.tail.perm (by classical rw [List.perm_iff_count]; intro a; simp only [List.count_append, List.count_cons, List.count_nil]; omega)
  have HHW := Lib.hid h1
  have HB0b := Lib.hid (fun w' (hb : Below W2.heap.size W2 w') => show w'.heap[w.heap.size]? = some (.cells (pkC (.slice A p.b.length c) p) 31 (0, 0)) from (h0.grow hb).get)
  have HRDb := Lib.hid (fun w' (hb : Below W2.heap.size W2 w') => HRD.out w' (Holds.right (h := (w.heap.size, .cells (pkC (.slice A p.b.length c) p) 31) :: (g, netO m.nodes m.room (.slice AL L.length cL) mb) :: (mb, o) :: (hr ++ hp)) (by have := h0.grow hb; simpa using this)))
  have HC2b := Lib.hid (show W2.cell? ⟨g, 2, none⟩ = some (.slice AL L.length cL) from h0.tail.cell 2)
  have hLn : L.length ≤ 1000000 := by have := HOK.out.room; omega
  have HWF := Lib.hid (And.intro (in64 HOK.out hf) (in64 HOK.out hd))
  have hfu' : (m.l.length : Int) < m.room := by rw [hlen]; exact hfu
  have HW2 := Lib.hid hW2
  clear hw4 h0 h1 hW2
  go_wp2_with fail
  refine wp_region_vals3 9 (by kernel_rfl) (by kernel_rfl) (by kernel_rfl) (fun Ls w' => SdI 8 4 7 6 5 W2 ⟨g, 2, none⟩ (.slice AL L.length cL) Ls w') (SdS 8 W2) (fun i w v => match i with | 0 => v = .pointer (some ⟨g, 0, none⟩) | 1 => v = .pointer (some ⟨g, 0, none⟩) | 2 => v = .pointer (some ⟨g, 0, none⟩) | 3 => v = .pointer (some ⟨g, 2, none⟩) | 4 => v = .slice AL L.length cL | 5 => v = (Value.agg (pkC (.slice A p.b.length c) p)) | 6 => New6 W2 p w v | 7 => New7 W2 p w v | 8 => New8 w0 ((g, netO m.nodes m.room (.slice AL L.length cL) mb) :: (mb, o) :: hp) F L.length (pksV L) p w v | _ => True) (by rw [← HW2.out]; exact ⟨fun h => (by cases h), fun h => (by cases h), fun h => (by cases h), fun _ => Below.refl _ _, HC2b.out⟩) ?_ ?_ ?_
  · intro i k v w1 w2 hne hS h
    match i, h with
    | 0, h => exact h
    | 1, h => exact h
    | 2, h => exact h
    | 3, h => exact h
    | 4, h => exact h
    | 5, h => exact h
    | 6, h => exact New6.stab hS h
    | 7, h => exact New7.stab hS h
    | 8, h => exact New8.stab hne hS h
    | _ + 9, h => exact trivial
  · intro i o hi ho Ls f w1 hI hL hd
    match i, hi with
    | 0, _ =>
      obtain rfl := Option.some.inj ho
      have q2 : w1.cell? ⟨g, 2, none⟩ = some (.slice AL L.length cL) := hI.2.2.2.2
      clear hd ho
      unfold wpOp
      refine Or.inl ?_
      simp only [fill, List.take_succ_cons, List.take_zero, Act.put, List.setIfInBounds_toArray, List.set_cons_zero, List.set_cons_succ]
      unfold Oper.wp
      go_simp
      exact LeftBy.mk _ rfl (hI) (SdS.below (Below.refl _ _)) (rfl)
    | 1, _ =>
      obtain rfl := Option.some.inj ho
      have q2 : w1.cell? ⟨g, 2, none⟩ = some (.slice AL L.length cL) := hI.2.2.2.2
      clear hd ho
      unfold wpOp
      refine Or.inl ?_
      simp only [fill, List.take_succ_cons, List.take_zero, Act.put, List.setIfInBounds_toArray, List.set_cons_zero, List.set_cons_succ]
      unfold Oper.wp
      go_simp
      exact LeftBy.mk _ rfl (hI) (SdS.below (Below.refl _ _)) (rfl)
    | 2, _ =>
      obtain rfl := Option.some.inj ho
      have e1 : f 1 = .pointer (some ⟨g, 0, none⟩) := (hd ⟨1, .data⟩ (by simp) rfl).2
      have q2 : w1.cell? ⟨g, 2, none⟩ = some (.slice AL L.length cL) := hI.2.2.2.2
      clear hd ho
      unfold wpOp
      refine Or.inl ?_
      simp only [fill, List.take_succ_cons, List.take_zero, Act.put, List.setIfInBounds_toArray, List.set_cons_zero, List.set_cons_succ, e1]
      unfold Oper.wp
      go_simp
      exact LeftBy.mk _ rfl (hI) (SdS.below (Below.refl _ _)) (rfl)
    | 3, _ =>
      obtain rfl := Option.some.inj ho
      have e2 : f 2 = .pointer (some ⟨g, 0, none⟩) := (hd ⟨2, .data⟩ (by simp) rfl).2
      have q2 : w1.cell? ⟨g, 2, none⟩ = some (.slice AL L.length cL) := hI.2.2.2.2
      clear hd ho
      unfold wpOp
      refine Or.inl ?_
      simp only [fill, List.take_succ_cons, List.take_zero, Act.put, List.setIfInBounds_toArray, List.set_cons_zero, List.set_cons_succ, e2]
      unfold Oper.wp
      go_simp
      exact LeftBy.mk _ rfl (hI) (SdS.below (Below.refl _ _)) (rfl)
    | 4, _ =>
      obtain rfl := Option.some.inj ho
      have e3 : f 3 = .pointer (some ⟨g, 2, none⟩) := (hd ⟨3, .data⟩ (by simp) rfl).2
      have q2 : w1.cell? ⟨g, 2, none⟩ = some (.slice AL L.length cL) := hI.2.2.2.2
      clear hd ho
      unfold wpOp
      refine Or.inl ?_
      simp only [fill, List.take_succ_cons, List.take_zero, Act.put, List.setIfInBounds_toArray, List.set_cons_zero, List.set_cons_succ, e3]
      unfold Oper.wp
      go_simp
      exact LeftBy.mk _ rfl (⟨fun h => ⟨rfl, (hI.1 h).2⟩, hI.2.1, hI.2.2.1, hI.2.2.2.1, hI.2.2.2.2⟩) (SdS.below (Below.refl _ _)) (rfl)
    | 5, _ =>
      obtain rfl := Option.some.inj ho
      have q2 : w1.cell? ⟨g, 2, none⟩ = some (.slice AL L.length cL) := hI.2.2.2.2
      clear hd ho
      unfold wpOp
      refine Or.inl ?_
      simp only [fill, List.take_succ_cons, List.take_zero, Act.put, List.setIfInBounds_toArray, List.set_cons_zero, List.set_cons_succ]
      unfold Oper.wp
      have hN := hI.no 5 (by simp) hL
      refine wp_load_row 31 (.tmp 3) rfl w.heap.size rfl 31 (pkC (.slice A p.b.length c) p) (0, 0) _ (HB0b.out w1 hN.2) Try.underlying31 rfl (info31 _ _) ?_
      exact LeftBy.mk _ rfl (⟨hI.1, hI.2.1, fun _ => rfl, hI.2.2.2.1, hI.2.2.2.2⟩) (SdS.below (Below.refl _ _)) (rfl)
    | 6, _ =>
      obtain rfl := Option.some.inj ho
      have e5 : f 5 = (Value.agg (pkC (.slice A p.b.length c) p)) := (hd ⟨5, .data⟩ (by simp) rfl).2
      have hLd : Ls 5 = true := (hd ⟨5, .data⟩ (by simp) rfl).1
      have q2 : w1.cell? ⟨g, 2, none⟩ = some (.slice AL L.length cL) := hI.2.2.2.2
      clear hd ho
      unfold wpOp
      refine Or.inl ?_
      simp only [fill, List.take_succ_cons, List.take_zero, Act.put, List.setIfInBounds_toArray, List.set_cons_zero, List.set_cons_succ, e5]
      unfold Oper.wp
      have hN := hI.no 6 (by simp) hL
      go_simp
      refine (copied_calls (.slice A p.b.length c) p A c w1 w1 [] rfl hc (HRDb.out w1 hN.2) (by omega) (Holds.nil w1)).mono ?_
      rintro e w3 ⟨v6, rfl, h6, R6, hH6⟩
      have HB := hH6.below
      exact LeftBy.mk _ rfl ⟨fun h => absurd (show Ls 8 = true from h) (by rw [hN.1]; decide), fun _ => rfl, fun _ => hLd, fun h => hN.2.trans (HB.mono hN.2.size), cell_grow hI.2.2.2.2 HB⟩ (SdS.below HB) ⟨v6, h6, rfl, R6, fun x hx => ⟨hH6.mem (List.mem_append_left _ hx), Nat.le_trans hN.2.size (hH6.at_ x (List.mem_append_left _ hx)).2⟩⟩
    | 7, _ =>
      obtain rfl := Option.some.inj ho
      have e6 := (hd ⟨6, .data⟩ (by simp) rfl).2
      have hLc : Ls 6 = true := (hd ⟨6, .data⟩ (by simp) rfl).1
      obtain ⟨v6, h6, e6, R6, x6⟩ := e6
      have q2 : w1.cell? ⟨g, 2, none⟩ = some (.slice AL L.length cL) := hI.2.2.2.2
      clear hd ho
      unfold wpOp
      refine Or.inl ?_
      simp only [fill, List.take_succ_cons, List.take_zero, Act.put, List.setIfInBounds_toArray, List.set_cons_zero, List.set_cons_succ, e6]
      unfold Oper.wp
      have hN := hI.no 7 (by simp) hL
      have HB : Below w1.heap.size w1 (w1.alloc (.cells (pkC v6 p) 31)) := (Below.refl _ _).alloc (Nat.le_refl _) _
      rw [show pkC v6 p = #[.int .i64 p.fr, .int .i64 p.dt, v6] from rfl]
      go_simp
      exact LeftBy.mk _ rfl ⟨fun h => absurd (show Ls 8 = true from h) (by rw [hN.1]; decide), fun _ => hLc, hI.2.2.1, fun h => hN.2.trans (HB.mono hN.2.size), cell_grow hI.2.2.2.2 HB⟩ (SdS.below HB) ⟨w1.heap.size, v6, h6, rfl, heap_alloc_new w1 _, hN.2.size, R6, fun x hx => ⟨(HB.block _ (lt_of_block (x6 x hx).1)).trans (x6 x hx).1, (x6 x hx).2⟩⟩
    | 8, _ =>
      obtain rfl := Option.some.inj ho
      have e4 : f 4 = .slice AL L.length cL := (hd ⟨4, .data⟩ (by simp) rfl).2
      have hLa : Ls 4 = true := (hd ⟨4, .data⟩ (by simp) rfl).1
      have e7 := (hd ⟨7, .data⟩ (by simp) rfl).2
      have hLb : Ls 7 = true := (hd ⟨7, .data⟩ (by simp) rfl).1
      obtain ⟨b7, v7, h7, e7, c7, l7, R7, x7⟩ := e7
      have q2 : w1.cell? ⟨g, 2, none⟩ = some (.slice AL L.length cL) := hI.2.2.2.2
      clear hd ho
      unfold wpOp
      refine Or.inl ?_
      simp only [fill, List.take_succ_cons, List.take_zero, Act.put, List.setIfInBounds_toArray, List.set_cons_zero, List.set_cons_succ, e4, e7]
      unfold Oper.wp
      have hN := hI.no 8 (by simp) hL
      obtain ⟨A7, c7', rfl, _, _⟩ := RowB.form R7
      obtain ⟨v8, h8, w8, hrun, r1, r2, r3, r4⟩ := pk_append2 (W := W2) HR.out HHW.out (HHW.out.grow hN.2) hN.2.size 56 b7 (.slice A7 p.b.length c7') p rfl c7 hLn R7 x7 hN.2
      have H9 : Holds w0 (h8 ++ (((g, netO m.nodes m.room (.slice AL L.length cL) mb) :: (mb, o) :: hp) ++ (h7 ++ F))) w8 := r2.perm (by classical rw [List.perm_iff_count]; intro a; simp only [List.count_append, List.count_cons, List.count_nil]; omega)
      obtain ⟨A8, c8, rfl, _, _⟩ := RowB.form r1
      refine wpA (.tmp 45) (.tmp 48) rfl rfl rfl hrun ?_
      have H10 : Holds w0 ((g, netO m.nodes m.room (.slice AL L.length cL) mb) :: (h8 ++ ((mb, o) :: hp ++ (h7 ++ F)))) w8 := H9.perm (by classical rw [List.perm_iff_count]; intro a; simp only [List.count_append, List.count_cons, List.count_nil]; omega)
      exact LeftBy.mk _ rfl ⟨fun _ => ⟨hLa, hLb⟩, hI.2.1, hI.2.2.1, fun h => (by cases h), H10.cell 2⟩ ⟨r3, fun h => absurd rfl h, r4⟩ ⟨_, h7, h8, r1, R7, H9⟩
  · intro Ls f w1 hI hL hV
    have e0 : f 0 = .pointer (some ⟨g, 0, none⟩) := hV 0 (by decide) (by simp)
    have e1 : f 1 = .pointer (some ⟨g, 0, none⟩) := hV 1 (by decide) (by simp)
    have e2 : f 2 = .pointer (some ⟨g, 0, none⟩) := hV 2 (by decide) (by simp)
    have e3 : f 3 = .pointer (some ⟨g, 2, none⟩) := hV 3 (by decide) (by simp)
    have e4 : f 4 = .slice AL L.length cL := hV 4 (by decide) (by simp)
    have e5 : f 5 = (Value.agg (pkC (.slice A p.b.length c) p)) := hV 5 (by decide) (by simp)
    have e6 := hV 6 (by decide) (by simp)
    obtain ⟨v6, h6, e6, R6, x6⟩ := e6
    have e7 := hV 7 (by decide) (by simp)
    obtain ⟨b7, v7, h7, e7, c7, l7, R7, x7⟩ := e7
    have e8 := hV 8 (by decide) (by simp)
    obtain ⟨v8, h8, k8, R8, S8, H8⟩ := e8
    clear hV hL
    simp only [fill, List.take_succ_cons, List.take_zero, List.drop_succ_cons, List.drop_zero, Act.put, List.setIfInBounds_toArray, List.set_cons_zero, List.set_cons_succ, e0, e1, e2, e3, e4, e5, e6, e7]
    obtain ⟨A8, c8, hv8, _, _⟩ := RowB.form R8
    rw [hv8] at R8 ⊢
    have H9 : Holds w0 ((g, netO m.nodes m.room (.slice AL L.length cL) mb) :: ((mb, o) :: (k8 ++ (hp ++ (h8 ++ F))))) w1 := H8.perm (by classical rw [List.perm_iff_count]; intro a; simp only [List.count_append, List.count_cons, List.count_nil]; omega)
    have q2 : w1.cell? ⟨g, 2, none⟩ = some (.slice AL L.length cL) := H9.cell 2
    have q3 : w1.frozen? ⟨g, 2, none⟩ = false := H9.froz 2
    have HNN := Lib.hid (show Holds w0 ((g, netO m.nodes m.room (.slice A8 (L.length + 1) c8) mb) :: ((mb, o) :: (k8 ++ (hp ++ (h8 ++ F))))) _ from H9.set 2 (.slice A8 (L.length + 1) c8))
    have HR8 := Lib.hid R8; have HS8 := Lib.hid S8
    clear hI H8 R8 S8 H9 hv8
    go_wp2_with fail
    go_ret
    refine ⟨rfl, _, ⟨mb, o, .slice A8 (L.length + 1) c8, L ++ [(v8, p)], k8, hp ++ (h8 ++ []), HM.out, ?_, HP.out.app ⟨h8, [], HS8.out, rfl, rfl⟩, by rw [HML.out]; simp, rfl, ?_⟩, HNN.out.perm ?_⟩
    · rw [pksV_app, List.length_append]; simpa [pksV] using HR8.out
    · exact ok_add HOK.out hfu' p hl HWF.out
    · simp only [List.append_nil]
      exact (by classical rw [List.perm_iff_count]; intro a; simp only [List.count_append, List.count_cons, List.count_nil]; omega)
theorem send_calls (g : Nat) (m : NM) (h F : Hp) (v : Value) (p : Pk) (A : Option Addr) (c : Nat) (w0 w : World) (hv : v = .slice A p.b.length c) (hc : A = none → c = 0) (hl : p.b.length ≤ 1000)
    (hrd : ∀ w', Holds w0 F w' → Reads w' A p.b.length 1 (bv p.b)) (hI : IsN g m h) (H : Holds w0 (h ++ F) w) :
    Calls Try.prog 8 #[.pointer (some ⟨g, 0, none⟩), .agg (pkC v p)] w fun e w' => e = .returned (.bool (sendM m p).1) ∧ ∃ h', IsN g (sendM m p).2 h' ∧ Holds w0 (h' ++ F) w' := by
  by_cases hf : 0 ≤ p.fr ∧ p.fr < m.nodes
  · by_cases hd : 0 ≤ p.dt ∧ p.dt < m.nodes
    · cases hcut : m.isCut p.fr p.dt
      · by_cases hfu : (m.l.length : Int) < m.room
        · exact send_E g m h F v p A c w0 w hv hc hl hrd hI H hf hd hcut hfu
        · exact send_D g m h F v p A c w0 w hv hc hl hrd hI H hf hd hcut hfu
      · exact send_C g m h F v p A c w0 w hv hc hl hrd hI H hf hd hcut
    · exact send_B g m h F v p A c w0 w hv hc hl hrd hI H hf hd
  · exact send_A g m h F v p A c w0 w hv hc hl hrd hI H hf
end Go.Proofs.Ytopnbhinifejkaa
