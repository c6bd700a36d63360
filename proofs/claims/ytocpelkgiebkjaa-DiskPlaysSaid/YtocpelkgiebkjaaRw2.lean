/- Chapter 8's own answer: Drop, Rename: contracts for every world. Conditions: each theorem's own. -/
import Derived.Test.YtocpelkgiebkjaaRv
import Derived.Deep.MidRow
namespace Go.Proofs.Ytocpelkgiebkjaa
open Go.RowKit Go.Proofs.Ytocpelkgiebkjaa.Sp
set_option linter.unusedVariables false
set_option linter.unusedSimpArgs false
/-- find, at a row of files. -/
theorem find_at (d : Nat) (m : DM) (L : List (ByteArray × Fl)) (v : Value) (vs : List Value) (hrw F : Hp) (s : ByteArray) (w0 w : World) (hcnt : L.length ≤ 10000) (hnm : ∀ j x, L[j]? = some x → vs[j * 3]? = some (.string x.1)) (R : RowB 51 3 v L.length vs hrw) (H : Holds w0 ((d, rO m v) :: (hrw ++ F)) w) :
    Calls Try.prog 40 #[.pointer (some ⟨d, 0, none⟩), .string s] w fun e w' => e = .returned (.int .i64 (fnd s L)) ∧ w' = w := by
  obtain ⟨A, c, rfl, _, _, hr⟩ := R.reads H.tail
  exact rfind_calls d L A c s w (by omega) (Holds.cell H 1) (fun ad hA j x hj => hr.2.2 ad hA _ _ (hnm j x hj)) (fun hA => List.eq_nil_of_length_eq_zero (hr.2.1 hA))
theorem off_len (s : ByteArray) (L : List (ByteArray × Fl)) (k : Nat) (x : ByteArray × Fl) (hp : L.Pairwise (fun x y => x.1 ≠ y.1)) (hx : L[k]? = some x) (hs : x.1 = s) : (offM s L).length = L.length - 1 := by
  rw [← erase_off s L k x hp hx hs, List.length_eraseIdx, if_pos (List.getElem?_eq_some_iff.mp hx).1]
set_option maxRecDepth 100000 in
set_option maxHeartbeats 8000000 in
theorem rdrop_calls (d : Nat) (m : DM) (h F : Hp) (s : ByteArray) (w0 w : World) (hcnt : m.fl.length ≤ 9000) (hap : m.fl.Pairwise fun x y => x.1 ≠ y.1) (hI : IsR d m h) (H : Holds w0 (h ++ F) w) :
    Calls Try.prog 24 #[.pointer (some ⟨d, 0, none⟩), .string s] w fun e w' => e = .returned (.int .i64 (dropM m s).1) ∧ ∃ h', IsR d (dropM m s).2 h' ∧ Holds w0 (h' ++ F) w' := by
  have HA := Lib.hid (ask_at d m h F s w0 w (by omega) hI H)
  have HI := Lib.hid hI
  have HH0 := Lib.hid H
  rcases ask_cases2 m s with ⟨er, he, hq, _, hq2⟩ | ⟨hq, hfn, _, hq2⟩ | ⟨k, x, hx, hxs, hq, _, hq2⟩
  · rw [hq2]
    rw [hq] at HA
    clear hq hq2 hI H hap
    rcases he with rfl | rfl
    all_goals
      go_enter Try.func24, Try.ntmps24
      go_wp2_with fail
      refine HA.out.mono ?_
      rintro e w5 ⟨rfl, rfl⟩
      go_wp2_with fail
      go_ret
      exact ⟨rfl, _, HI.out, HH0.out⟩
  · rw [hq2]
    rw [hq] at HA
    clear hq hq2 hI H hap hfn
    go_enter Try.func24, Try.ntmps24
    go_wp2_with fail
    refine HA.out.mono ?_
    rintro e w5 ⟨rfl, rfl⟩
    go_wp2_with fail
    go_ret
    exact ⟨rfl, _, HI.out, HH0.out⟩
  · rw [hq2]
    rw [hq] at HA
    obtain ⟨v, hrw, vs, hf, hR, hF, rfl⟩ := hI
    have hlt : k < m.fl.length := (List.getElem?_eq_some_iff.mp hx).1
    have HREM := Lib.hid (rremove_calls d m m.fl.length k v vs hrw (hf ++ F) w0 w hlt (by omega) (FRw.oc hF) hR (H.perm (by classical rw [List.perm_iff_count]; intro a; simp only [List.count_append, List.count_cons, List.count_nil] <;> omega)))
    have HFIN := Lib.hid (show ∀ w' v' hrw', RowB 51 3 v' (m.fl.length - 1) (vs.take (k * 3) ++ vs.drop ((k + 1) * 3)) hrw' → Holds w0 ((d, rO m v') :: (hrw' ++ (hf ++ F))) w' → ∃ h', IsR d { m with fl := offM s m.fl } h' ∧ Holds w0 (h' ++ F) w' from fun w' v' hrw' R' H' => by
      obtain ⟨u, hb, rest, _, _, p1, F1⟩ := FRw.erase hF k x hx
      rw [erase_off s m.fl k x hap hx hxs] at F1
      refine ⟨(d, rO m v') :: (hrw' ++ rest), ⟨v', hrw', _, rest, by show RowB 51 3 v' (offM s m.fl).length _ _; rw [off_len s m.fl k x hap hx hxs]; exact R', F1, rfl⟩, ?_⟩
      exact (H'.perm (k := ((d, rO m v') :: (hrw' ++ rest) ++ F) ++ hb) (by classical rw [List.perm_iff_count] at p1 ⊢; intro a; have := p1 a; simp only [List.count_append, List.count_cons] at this ⊢; omega)).left)
    clear hq hq2 hR hF H hx hxs hap
    go_enter Try.func24, Try.ntmps24
    go_wp2_with fail
    refine HA.out.mono ?_
    rintro e w5 ⟨rfl, rfl⟩
    go_wp2_with fail
    refine HREM.out.mono ?_
    rintro e w6 ⟨rfl, v', hrw', R', H'⟩
    have HE := Lib.hid (HFIN.out w6 v' hrw' R' H')
    clear R' H'
    go_wp2_with fail
    go_ret
    exact ⟨rfl, HE.out⟩
theorem stF {ops : Array Oper} {rest : List Oper} {dst : Option Tmp} {ty : TypeId} {pos : String} {af : Array Edge} {a : Act} {w : World} {Q : Exit → Act → World → Prop} (x y : Operand) (g : Nat) (s s' : ByteArray) (A A' : Option Addr) (n c n' c' : Nat) (f f' : Int)
    (hx : a.eval x = .pointer (some ⟨g, 0, none⟩)) (hy : a.eval y = .agg (fC s A n c f)) (hg : w.heap[g]? = some (.cells (fC s' A' n' c' f') 51 (0, 0)))
    (hh : wpList Try.prog ops Q rest (a.put dst undef) (w.setRow g (fC s A n c f))) : wpList Try.prog ops Q ({ dst := dst, op := .store 51 x y, type := ty, pos := pos, after := af, guard := none } :: rest) a w :=
  wpList_store_row rfl 51 x y rfl g (fC s A n c f) hx hy 51 (fC s' A' n' c' f') hg (info51f _ _ _ _ _) rfl (by simp [fC, Value.oneCell']) hh
theorem ldFm {ops : Array Oper} {rest : List Oper} {dst : Option Tmp} {ty : TypeId} {pos : String} {af : Array Edge} {a : Act} {w : World} {Q : Exit → Act → World → Prop} (x : Operand) (b o : Nat) (s : ByteArray) (A : Option Addr) (n c : Nat) (f : Int)
    (hx : a.eval x = .pointer (some ⟨b, o, none⟩)) (hc : w.rangeAt b o (fC s A n c f).toList)
    (hh : wpList Try.prog ops Q rest (a.put dst (.agg (fC s A n c f))) w) : wpList Try.prog ops Q ({ dst := dst, op := .load 51 x, type := ty, pos := pos, after := af, guard := none } :: rest) a w :=
  wpList_load_mid rfl 51 x rfl b o hx (fC s A n c f).toList _ hc Try.underlying51 rfl (info51f s A n c f) hh
theorem offs_none (s : ByteArray) (L : List (ByteArray × Fl)) (h : L.find? (namedM s) = none) : offM s L = L := by
  unfold offM
  rw [List.filter_eq_self]
  intro x hx
  have := List.find?_eq_none.mp h x hx
  simpa using this
def Rises (L : List (ByteArray × Fl)) : Prop := L.Pairwise fun x y => bytesBefore x.1.data.toList y.1.data.toList = true
theorem before_trans : ∀ l m n : List UInt8, bytesBefore l m = true → bytesBefore m n = true → bytesBefore l n = true
  | [], [], n, h, _ => by simp [bytesBefore] at h
  | [], b :: m, [], _, h => by simp [bytesBefore] at h
  | [], b :: m, c :: n, _, _ => rfl
  | a :: l, [], n, h, _ => by simp [bytesBefore] at h
  | a :: l, b :: m, [], _, h => by simp [bytesBefore] at h
  | a :: l, b :: m, c :: n, h1, h2 => by
    simp only [bytesBefore, Bool.or_eq_true, decide_eq_true_eq, Bool.and_eq_true, beq_iff_eq] at h1 h2 ⊢
    rcases h1 with h1 | ⟨rfl, h1⟩
    · rcases h2 with h2 | ⟨rfl, h2⟩
      · exact .inl (UInt8.lt_iff_toNat_lt.2 (Nat.lt_trans (UInt8.lt_iff_toNat_lt.1 h1) (UInt8.lt_iff_toNat_lt.1 h2)))
      · exact .inl h1
    · rcases h2 with h2 | ⟨rfl, h2⟩
      · exact .inl h2
      · exact .inr ⟨rfl, before_trans l m n h1 h2⟩
theorem ins_off (s : ByteArray) (f : Fl) : ∀ (L : List (ByteArray × Fl)), Rises L → (s, f) ∈ L → insM (s, f) (offM s L) = L
  | [], _, h => by simp at h
  | y :: L, hr, h => by
    unfold Rises at hr
    rw [List.pairwise_cons] at hr
    rcases List.mem_cons.1 h with rfl | h
    · have e : offM s ((s, f) :: L) = L := by
        unfold offM
        rw [List.filter_cons, show (!namedM s (s, f)) = false by simp [namedM], if_neg (by simp)]
        rw [List.filter_eq_self]
        intro z hz
        have := hr.1 z hz
        simp only [namedM, Bool.not_eq_true', decide_eq_false_iff_not]
        intro e
        rw [e] at this
        have h2 := before_asym _ _ this
        rw [this] at h2
        cases h2
      rw [e]
      cases L with
      | nil => rfl
      | cons z L =>
        have := hr.1 z List.mem_cons_self
        simp only [insM, this, if_true]
    · have h1 := hr.1 _ h
      have hne : y.1 ≠ s := fun e => by
        rw [e] at h1
        have h2 := before_asym _ _ h1
        rw [h1] at h2
        cases h2
      have e : offM s (y :: L) = y :: offM s L := by
        unfold offM
        rw [List.filter_cons, if_pos (by simp [namedM, hne])]
      rw [e]
      have h2 : bytesBefore s.data.toList y.1.data.toList = false := before_asym _ _ h1
      simp only [insM, h2, Bool.false_eq_true, if_false]
      rw [ins_off s f L hr.2 h]
theorem ren_cases (m : DM) (a b : ByteArray) : (m.power = false ∧ renM m a b = (7, m)) ∨ (m.power = true ∧ goodN a = false ∧ renM m a b = (1, m)) ∨ (m.power = true ∧ goodN a = true ∧ goodN b = false ∧ renM m a b = (1, m)) ∨
    (m.power = true ∧ goodN a = true ∧ goodN b = true ∧ ((fnd a m.fl = -1 ∧ renM m a b = (4, m)) ∨ ∃ (k : Nat) (x : ByteArray × Fl), fnd a m.fl = k ∧ m.fl[k]? = some x ∧ x.1 = a ∧ renM m a b = (0, { m with fl := putM b x.2 (offM a m.fl) }))) := by
  unfold renM
  cases hp : m.power
  · exact .inl ⟨rfl, rfl⟩
  · cases hg : goodN a
    · exact .inr (.inl ⟨rfl, rfl, rfl⟩)
    · cases hg2 : goodN b
      · exact .inr (.inr (.inl ⟨rfl, rfl, rfl, rfl⟩))
      · refine .inr (.inr (.inr ⟨rfl, rfl, rfl, ?_⟩))
        rcases fnd_find a m.fl with ⟨h1, h2⟩ | ⟨k, x, h1, h2, h3, h4⟩
        · rw [h2]
          exact .inl ⟨h1, rfl⟩
        · rw [h4]
          exact .inr ⟨k, x, h1, h2, h3, rfl⟩
set_option maxRecDepth 100000 in
set_option maxHeartbeats 8000000 in
theorem rrename_calls (d : Nat) (m : DM) (h F : Hp) (a b : ByteArray) (w0 w : World) (hcnt : m.fl.length ≤ 9000) (hap : m.fl.Pairwise fun x y => x.1 ≠ y.1) (hri : Rises m.fl) (hI : IsR d m h) (H : Holds w0 (h ++ F) w) :
    Calls Try.prog 23 #[.pointer (some ⟨d, 0, none⟩), .string a, .string b] w fun e w' => e = .returned (.int .i64 (renM m a b).1) ∧ ∃ h', IsR d (renM m a b).2 h' ∧ Holds w0 (h' ++ F) w' := by
  have HI := Lib.hid hI
  have HH0 := Lib.hid H
  have hoff : w.cell? ⟨d, 2, none⟩ = some (.bool (!m.power)) := by
    obtain ⟨v, hL, vs, hf, R, FR, rfl⟩ := hI
    exact Holds.cell H 2
  have HMA := Lib.hid (rmay_calls a w)
  have HMB := Lib.hid (rmay_calls b w)
  rcases ren_cases m a b with ⟨hp, hq⟩ | ⟨hp, hg, hq⟩ | ⟨hp, hg, hg2, hq⟩ | ⟨hp, hg, hg2, ⟨hf0, hq⟩ | ⟨k, x, hfk, hx, hxs, hq⟩⟩
  · rw [hq]
    rw [hp] at hoff
    clear hq hI H hap hri
    go_enter Try.func23, Try.ntmps23
    go_wp2_with fail
    go_ret
    exact ⟨rfl, _, HI.out, HH0.out⟩
  · rw [hq]
    rw [hp] at hoff
    rw [hg] at HMA
    clear hq hI H hap hri
    go_enter Try.func23, Try.ntmps23
    go_wp2_with fail
    refine HMA.out.mono ?_
    rintro e w5 ⟨rfl, rfl⟩
    go_wp2_with fail
    go_ret
    exact ⟨rfl, _, HI.out, HH0.out⟩
  · rw [hq]
    rw [hp] at hoff
    rw [hg] at HMA
    rw [hg2] at HMB
    clear hq hI H hap hri
    go_enter Try.func23, Try.ntmps23
    go_wp2_with fail
    refine HMA.out.mono ?_
    rintro e w5 ⟨rfl, rfl⟩
    go_wp2_with fail
    refine HMB.out.mono ?_
    rintro e w6 ⟨rfl, rfl⟩
    go_wp2_with fail
    go_ret
    exact ⟨rfl, _, HI.out, HH0.out⟩
  · rw [hq]
    rw [hp] at hoff
    rw [hg] at HMA
    rw [hg2] at HMB
    obtain ⟨v, hrw, vs, hf, hR, hF, rfl⟩ := hI
    have HF0 := Lib.hid (find_at d m m.fl v vs hrw (hf ++ F) a w0 w (by omega) (fun j y hy => (FRw.at_ hF j y hy).1) hR (H.perm (by classical rw [List.perm_iff_count]; intro a; simp only [List.count_append, List.count_cons, List.count_nil] <;> omega)))
    rw [hf0] at HF0
    clear hq H hap hri hR hF hf0
    go_enter Try.func23, Try.ntmps23
    go_wp2_with fail
    refine HMA.out.mono ?_
    rintro e w5 ⟨rfl, rfl⟩
    go_wp2_with fail
    refine HMB.out.mono ?_
    rintro e w6 ⟨rfl, rfl⟩
    go_wp2_with fail
    refine HF0.out.mono ?_
    rintro e w7 ⟨rfl, rfl⟩
    go_wp2_with fail
    go_ret
    exact ⟨rfl, _, HI.out, HH0.out⟩
  · rw [hq]
    rw [hp] at hoff
    rw [hg] at HMA
    rw [hg2] at HMB
    obtain ⟨v, hrw, vs, hf, hR, hF, rfl⟩ := hI
    have HF0 := Lib.hid (find_at d m m.fl v vs hrw (hf ++ F) a w0 w (by omega) (fun j y hy => (FRw.at_ hF j y hy).1) hR (H.perm (by classical rw [List.perm_iff_count]; intro a; simp only [List.count_append, List.count_cons, List.count_nil] <;> omega)))
    rw [hfk] at HF0
    have hlt : k < m.fl.length := (List.getElem?_eq_some_iff.mp hx).1
    have hki : (k : Int) < (m.fl.length : Int) := by omega
    have hk0 : ¬ (k : Int) < 0 := by omega
    by_cases hab : a = b
    · subst hab
      have HSAME := Lib.hid (show putM a x.2 (offM a m.fl) = m.fl by
        unfold putM
        have e : offM a (offM a m.fl) = offM a m.fl := by unfold offM; rw [List.filter_filter]; simp
        rw [e]
        refine ins_off a x.2 m.fl hri ?_
        rw [← hxs]
        exact List.mem_of_getElem? hx)
      rw [HSAME.out]
      clear hq H hap hri hR hF hfk hx hxs
      go_enter Try.func23, Try.ntmps23
      go_wp2_with fail
      refine HMA.out.mono ?_
      rintro e w5 ⟨rfl, rfl⟩
      go_wp2_with fail
      refine HMB.out.mono ?_
      rintro e w6 ⟨rfl, rfl⟩
      go_wp2_with fail
      refine HF0.out.mono ?_
      rintro e w7 ⟨rfl, rfl⟩
      go_wp2_with fail
      go_ret
      exact ⟨rfl, _, HI.out, HH0.out⟩
    · have hne := str_ne hab
      obtain ⟨k1, ⟨A1, c1, k2⟩, k3⟩ := FRw.at_ hF k x hx
      obtain ⟨u, hb, rest, e1, R1, p1, F1⟩ := FRw.erase hF k x hx
      rw [erase_off a m.fl k x hap hx hxs] at F1
      obtain ⟨Bv, cv, rfl, _, _⟩ := RowB.form R1
      have hR0 := hR
      obtain ⟨_, ⟨_, h0, _⟩ | ⟨gL, c, cur, rfl, rfl, h2, h3, h4, h5⟩⟩ := hR0
      · omega
      obtain ⟨A9, c9, hv9, _, _, hr9⟩ := hR.reads (H.perm (k := [(gL, Obj.cells cur 51 (0, 0))] ++ ((d, rO m (.slice (some ⟨gL, 0, none⟩) m.fl.length c)) :: (hf ++ F))) (by classical rw [List.perm_iff_count]; intro a; simp only [List.count_append, List.count_cons, List.count_nil] <;> omega))
      injection hv9 with e9 _ _
      have hcel : ∀ j u, vs[j]? = some u → w.cell? ⟨gL, j, none⟩ = some u := fun j u hj => by
        have := hr9.2.2 _ e9.symm j u hj
        have e2 : (⟨gL, 0, none⟩ : Addr).add j = ⟨gL, j, none⟩ := by simp [Addr.add]; omega
        rwa [e2] at this
      have HRNG := Lib.hid (show w.rangeAt gL (k * 3) (fC a Bv x.2.b.length cv x.2.safe).toList from fun j u hj => by
        rcases j with _ | _ | _ | j
        · simp [fC] at hj; subst hj; rw [← hxs]; exact hcel _ _ k1
        · simp [fC] at hj; subst hj; exact hcel _ _ e1
        · simp [fC] at hj; subst hj; exact hcel _ _ k3
        · simp [fC] at hj)
      have qd : w.cell? ⟨d, 1, none⟩ = some (.slice (some ⟨gL, 0, none⟩) m.fl.length c) := Holds.cell H 1
      obtain ⟨bx, hbx⟩ : ∃ bx, bx = w.heap.size := ⟨_, rfl⟩
      have hal := heap_alloc_new w (.cells (fC ⟨#[]⟩ none 0 0 0) 51)
      have HAL := Lib.hid hal
      have H1 := (H.alloc (.cells (fC ⟨#[]⟩ none 0 0 0) 51)).turn (row_grown _ _ (fC a Bv x.2.b.length cv x.2.safe)) (setRow_heap _ _ _ _ _ _ hal)
      rw [← hbx] at H1
      have HREM := Lib.hid (rremove_calls d m m.fl.length k (.slice (some ⟨gL, 0, none⟩) m.fl.length c) vs _ ((bx, .cells (fC a Bv x.2.b.length cv x.2.safe) 51) :: (hf ++ F)) w0 _ hlt (by omega) (FRw.oc hF) hR (H1.perm (by classical rw [List.perm_iff_count]; intro a; simp only [List.count_append, List.count_cons, List.count_nil] <;> omega)))
      have HRB := Lib.hid R1
      have HF1 := Lib.hid F1
      have HP1 := Lib.hid p1
      have HBX := Lib.hid hbx
      have HLEN := Lib.hid (off_len a m.fl k x hap hx hxs)
      have HAP1 := Lib.hid (show (offM a m.fl).Pairwise (fun x y => x.1 ≠ y.1) from hap.filter _)
      clear hq H H1 hap hri hR hF hfk hx hxs k1 k2 k3 e1 R1 F1 p1 h2 h3 h4 h5 hr9 e9 hcel hal hbx
      go_enter Try.func23, Try.ntmps23
      go_wp2_with fail
      refine HMA.out.mono ?_
      rintro e w5 ⟨rfl, rfl⟩
      go_wp2_with fail
      refine HMB.out.mono ?_
      rintro e w6 ⟨rfl, rfl⟩
      go_wp2_with fail
      refine HF0.out.mono ?_
      rintro e w7 ⟨rfl, rfl⟩
      go_wp2_with (first
        | ((with_reducible refine ldFm (.tmp 35) gL (k * 3) a Bv x.2.b.length cv x.2.safe ?_ HRNG.out ?_); rfl)
        | ((with_reducible refine stF (.tmp 8) (.tmp 36) _ a ⟨#[]⟩ Bv none x.2.b.length cv 0 0 x.2.safe 0 ?_ ?_ HAL.out ?_); rfl; rfl))
      rw [← HBX.out]
      refine HREM.out.mono ?_
      rintro e w8 ⟨rfl, v2, hrw2, R2, H2⟩
      have H2' : Holds w0 ((d, rO m v2) :: (hrw2 ++ (((bx, .cells (fC a Bv x.2.b.length cv x.2.safe) 51) :: rest) ++ (hb ++ F)))) w8 := H2.perm (by have p1 := HP1.out; classical rw [List.perm_iff_count] at p1 ⊢; intro z; have := p1 z; simp only [List.count_append, List.count_cons] at this ⊢; omega)
      have HR2 := Lib.hid (show RowB 51 3 v2 (offM a m.fl).length _ hrw2 from by rw [HLEN.out]; exact R2)
      have HH2 := Lib.hid H2'
      have HF2 := Lib.hid (find_at d m (offM a m.fl) v2 _ hrw2 _ b w0 w8 (by rw [HLEN.out]; omega) (fun j y hy => (FRw.at_ HF1.out j y hy).1) HR2.out H2')
      clear R2 H2 H2'
      go_wp2_with fail
      refine HF2.out.mono ?_
      rcases fnd_find b (offM a m.fl) with ⟨g1, g2⟩ | ⟨k2, y, g1, g2, g3, g4⟩
      · rw [g1]
        rintro e w10 ⟨rfl, rfl⟩
        have HOF := Lib.hid (offs_none b (offM a m.fl) g2)
        have HNE := Lib.hid (show ∀ y ∈ offM a m.fl, y.1 ≠ b from fun y hy e => by have := List.find?_eq_none.mp g2 y hy; simp [namedM, e] at this)
        clear g1 g2
        have H5 : Holds w0 ((bx, .cells (fC a Bv x.2.b.length cv x.2.safe) 51) :: ((d, rO m v2) :: (hrw2 ++ (rest ++ (hb ++ F))))) w10 := HH2.out.perm (by classical rw [List.perm_iff_count]; intro a; simp only [List.count_append, List.count_cons, List.count_nil] <;> omega)
        have q0 : w10.cell? ⟨bx, 0, none⟩ = some (.string a) := Holds.cell H5 0
        have qf : w10.frozen? ⟨bx, 0, none⟩ = false := Holds.froz H5 0
        have H6 : Holds w0 ((bx, .cells (fC b Bv x.2.b.length cv x.2.safe) 51) :: _) _ := H5.set 0 (.string b)
        have HLAY := Lib.hid (rlay_calls d m (offM a m.fl).length v2 _ (offM a m.fl) b Bv x.2.b.length cv x.2.safe hrw2 ((bx, .cells (fC b Bv x.2.b.length cv x.2.safe) 51) :: (rest ++ (hb ++ F))) w0 _ (by rw [HLEN.out]; omega) rfl (FRw.oc HF1.out) (fun j y hy => (FRw.at_ HF1.out j y hy).1) HR2.out (H6.perm (by classical rw [List.perm_iff_count]; intro a; simp only [List.count_append, List.count_cons, List.count_nil] <;> omega)))
        have HFIN := Lib.hid (show ∀ w' v' hrw', RowB 51 3 v' ((offM a m.fl).length + 1) _ hrw' → Holds w0 ((d, rO m v') :: (hrw' ++ ((bx, .cells (fC b Bv x.2.b.length cv x.2.safe) 51) :: (rest ++ (hb ++ F))))) w' → ∃ h', IsR d { m with fl := putM b x.2 (offM a m.fl) } h' ∧ Holds w0 (h' ++ F) w' from fun w' v' hrw' R' H' => by
          obtain ⟨h7, F7, p7⟩ := FRw.ins HF1.out b x.2 Bv x.2.b.length cv rfl HRB.out HNE.out
          have hlen : (insM (b, x.2) (offM a m.fl)).length = (offM a m.fl).length + 1 := by rw [(ins_permM (b, x.2) (offM a m.fl)).length_eq, List.length_cons]
          have e7 : putM b x.2 (offM a m.fl) = insM (b, x.2) (offM a m.fl) := by unfold putM; rw [HOF.out]
          rw [e7]
          exact ⟨(d, rO m v') :: (hrw' ++ h7), ⟨v', hrw', _, h7, by rw [hlen]; exact R', F7, rfl⟩, (H'.perm (k := ((d, rO m v') :: (hrw' ++ h7) ++ F) ++ ((bx, .cells (fC b Bv x.2.b.length cv x.2.safe) 51) :: [])) (by classical rw [List.perm_iff_count] at p7 ⊢; intro z; have := p7 z; simp only [List.count_append, List.count_cons, List.count_nil] at this ⊢; omega)).left⟩)
        have HX := Lib.hid (show ((w10.setCell ⟨bx, 0, none⟩ (.string b))).rangeAt bx 0 (fC b Bv x.2.b.length cv x.2.safe).toList from fun j u hj => by rw [Nat.zero_add, Holds.cell H6 j, ← Array.getElem?_toList]; exact hj)
        clear H5 H6
        go_wp2_with ((with_reducible refine ldFm (.tmp 8) bx 0 b Bv x.2.b.length cv x.2.safe ?_ HX.out ?_); rfl)
        refine HLAY.out.mono ?_
        rintro e w9 ⟨rfl, v9, hrw9, R9, H9⟩
        have HE := Lib.hid (HFIN.out w9 v9 hrw9 R9 H9)
        clear R9 H9
        go_wp2_with fail
        go_ret
        exact ⟨rfl, HE.out⟩
      · rw [g1]
        rintro e w10 ⟨rfl, rfl⟩
        have hlt2 : k2 < (offM a m.fl).length := (List.getElem?_eq_some_iff.mp g2).1
        have hk20 : (0 : Int) ≤ (k2 : Int) := by omega
        obtain ⟨u2, hb2, rest2, e2, R3, p3, F3⟩ := FRw.erase HF1.out k2 y g2
        rw [erase_off b (offM a m.fl) k2 y HAP1.out g2 g3] at F3
        have HF3 := Lib.hid F3
        have HREM2 := Lib.hid (rremove_calls d m (offM a m.fl).length k2 v2 _ hrw2 _ w0 _ hlt2 (by rw [HLEN.out]; omega) (FRw.oc HF1.out) HR2.out HH2.out)
        have HP3 := Lib.hid p3
        have HLEN2 := Lib.hid (off_len b (offM a m.fl) k2 y HAP1.out g2 g3)
        have HOLE := Lib.hid (show (offM a m.fl).length ≤ 9000 by rw [HLEN.out]; omega)
        clear g1 g2 g3 g4 e2 R3 p3 F3
        go_wp2_with fail
        refine HREM2.out.mono ?_
        rintro e w11 ⟨rfl, v3, hrw3, R3, H3⟩
        have H3' : Holds w0 ((d, rO m v3) :: (hrw3 ++ (((bx, .cells (fC a Bv x.2.b.length cv x.2.safe) 51) :: rest2) ++ ((hb ++ F) ++ hb2)))) w11 := H3.perm (by have p3 := HP3.out; classical rw [List.perm_iff_count] at p3 ⊢; intro z; have := p3 z; simp only [List.count_append, List.count_cons] at this ⊢; omega)
        have HR3 := Lib.hid (show RowB 51 3 v3 (offM b (offM a m.fl)).length _ hrw3 from by rw [HLEN2.out]; exact R3)
        have HH3 := Lib.hid H3'
        have HL3 := Lib.hid (show (offM b (offM a m.fl)).length ≤ 9000 by rw [HLEN2.out]; have := HOLE.out; omega)
        clear R3 H3 H3'
        have H5 : Holds w0 ((bx, .cells (fC a Bv x.2.b.length cv x.2.safe) 51) :: ((d, rO m v3) :: (hrw3 ++ (rest2 ++ (hb ++ F) ++ hb2)))) w11 := HH3.out.perm (by classical rw [List.perm_iff_count]; intro a; simp only [List.count_append, List.count_cons, List.count_nil] <;> omega)
        have q0 : w11.cell? ⟨bx, 0, none⟩ = some (.string a) := Holds.cell H5 0
        have qf : w11.frozen? ⟨bx, 0, none⟩ = false := Holds.froz H5 0
        have H6 : Holds w0 ((bx, .cells (fC b Bv x.2.b.length cv x.2.safe) 51) :: _) _ := H5.set 0 (.string b)
        have HLAY := Lib.hid (rlay_calls d m (offM b (offM a m.fl)).length v3 _ (offM b (offM a m.fl)) b Bv x.2.b.length cv x.2.safe hrw3 ((bx, .cells (fC b Bv x.2.b.length cv x.2.safe) 51) :: (rest2 ++ (hb ++ F) ++ hb2)) w0 _ (by have := HL3.out; omega) rfl (FRw.oc HF3.out) (fun j y hy => (FRw.at_ HF3.out j y hy).1) HR3.out (H6.perm (by classical rw [List.perm_iff_count]; intro a; simp only [List.count_append, List.count_cons, List.count_nil] <;> omega)))
        have HFIN := Lib.hid (show ∀ w' v' hrw', RowB 51 3 v' ((offM b (offM a m.fl)).length + 1) _ hrw' → Holds w0 ((d, rO m v') :: (hrw' ++ ((bx, .cells (fC b Bv x.2.b.length cv x.2.safe) 51) :: (rest2 ++ (hb ++ F) ++ hb2)))) w' → ∃ h', IsR d { m with fl := putM b x.2 (offM a m.fl) } h' ∧ Holds w0 (h' ++ F) w' from fun w' v' hrw' R' H' => by
          obtain ⟨h7, F7, p7⟩ := FRw.ins HF3.out b x.2 Bv x.2.b.length cv rfl HRB.out (off_none b _)
          have hlen : (insM (b, x.2) (offM b (offM a m.fl))).length = (offM b (offM a m.fl)).length + 1 := by rw [(ins_permM (b, x.2) (offM b (offM a m.fl))).length_eq, List.length_cons]
          have e7 : putM b x.2 (offM a m.fl) = insM (b, x.2) (offM b (offM a m.fl)) := rfl
          rw [e7]
          exact ⟨(d, rO m v') :: (hrw' ++ h7), ⟨v', hrw', _, h7, by rw [hlen]; exact R', F7, rfl⟩, (H'.perm (k := ((d, rO m v') :: (hrw' ++ h7) ++ F) ++ ((bx, .cells (fC b Bv x.2.b.length cv x.2.safe) 51) :: hb2)) (by classical rw [List.perm_iff_count] at p7 ⊢; intro z; have := p7 z; simp only [List.count_append, List.count_cons, List.count_nil] at this ⊢; omega)).left⟩)
        have HX := Lib.hid (show ((w11.setCell ⟨bx, 0, none⟩ (.string b))).rangeAt bx 0 (fC b Bv x.2.b.length cv x.2.safe).toList from fun j u hj => by rw [Nat.zero_add, Holds.cell H6 j, ← Array.getElem?_toList]; exact hj)
        clear H5 H6
        go_wp2_with ((with_reducible refine ldFm (.tmp 8) bx 0 b Bv x.2.b.length cv x.2.safe ?_ HX.out ?_); rfl)
        refine HLAY.out.mono ?_
        rintro e w9 ⟨rfl, v9, hrw9, R9, H9⟩
        have HE := Lib.hid (HFIN.out w9 v9 hrw9 R9 H9)
        clear R9 H9
        go_wp2_with fail
        go_ret
        exact ⟨rfl, HE.out⟩
end Go.Proofs.Ytocpelkgiebkjaa
