/- Chapter 8's own answer: Cut, Append, Drop: contracts for every world. Conditions: each theorem's own. -/
import Derived.Test.YtocpelkgiebkjaaRt
import Derived.Test.YtocpelkgiebkjaaDr
namespace Go.Proofs.Ytocpelkgiebkjaa
open Go.RowKit Go.Proofs.Ytocpelkgiebkjaa.Sp
set_option linter.unusedVariables false
set_option linter.unusedSimpArgs false
theorem ask_at (d : Nat) (m : DM) (h F : Hp) (s : ByteArray) (w0 w : World) (hcnt : m.fl.length ≤ 10000) (hI : IsR d m h) (H : Holds w0 (h ++ F) w) :
    Calls Try.prog 36 #[.pointer (some ⟨d, 0, none⟩), .string s] w fun e w' => e = .returned (.tuple #[.int .i64 (askR (!m.power) m.fl s).1, .int .i64 (askR (!m.power) m.fl s).2]) ∧ w' = w := by
  obtain ⟨A, c, hd, hn, hr⟩ := hI.cells H
  have ho : w.cell? ⟨d, 2, none⟩ = some (.bool (!m.power)) := by
    obtain ⟨v, hL, vs, hf, R, FR, rfl⟩ := hI
    exact Holds.cell H 2
  exact rask_calls d (!m.power) m.fl A c s w (by omega) hd ho (fun ad hA j x hj => by
    obtain ⟨gL, rfl, hcs⟩ := hr ad hA
    have e2 : (⟨gL, 0, none⟩ : Addr).add (j * 3) = ⟨gL, j * 3, none⟩ := by simp [Addr.add]; omega
    rw [e2]
    exact (hcs j x hj).1) hn
/-- A file's bytes and its mark turned: what the row of files is then. -/
theorem FRw.put : ∀ {L : List (ByteArray × Fl)} {vs : List Value} {h : Hp}, FRw L vs h → ∀ (j : Nat) (x : ByteArray × Fl), L[j]? = some x → ∃ v hb rest, vs[j * 3 + 1]? = some v ∧ RowB 5 1 v x.2.b.length (bv x.2.b) hb ∧ h.Perm (hb ++ rest) ∧
    ∀ (v' : Value) (f' : Fl) (hb' : Hp), RowB 5 1 v' f'.b.length (bv f'.b) hb' → ∃ h', FRw (L.set j (x.1, f')) ((vs.set (j * 3 + 1) v').set (j * 3 + 2) (.int .i64 f'.safe)) h' ∧ h'.Perm (hb' ++ rest)
  | [], vs, h, H, j, x, hj => by simp at hj
  | y :: L, vs, h, H, 0, x, hj => by
    obtain ⟨v, hb, vs', h', R, F, rfl, rfl⟩ := H
    obtain rfl : y = x := by simpa using hj
    exact ⟨v, hb, h', rfl, R, List.Perm.refl _, fun v' f' hb' R' => ⟨hb' ++ h', ⟨v', hb', vs', h', R', F, rfl, rfl⟩, List.Perm.refl _⟩⟩
  | y :: L, vs, h, H, j + 1, x, hj => by
    obtain ⟨v, hb, vs', h', R, F, rfl, rfl⟩ := H
    obtain ⟨u, hu, rest, e1, R1, p1, put⟩ := FRw.put F j x (by simpa using hj)
    have e3 : ∀ i, (j + 1) * 3 + i = (j * 3 + i) + 3 := by intro i; omega
    refine ⟨u, hu, hb ++ rest, by rw [e3]; exact e1, R1, (p1.append_left hb).trans (by classical rw [List.perm_iff_count]; intro a; simp only [List.count_append, List.count_cons, List.count_nil] <;> omega), fun v' f' hb' R' => ?_⟩
    obtain ⟨h2, F2, p2⟩ := put v' f' hb' R'
    refine ⟨hb ++ h2, ⟨v, hb, _, h2, R, F2, ?_, rfl⟩, (p2.append_left hb).trans (by classical rw [List.perm_iff_count]; intro a; simp only [List.count_append, List.count_cons, List.count_nil] <;> omega)⟩
    rw [e3, e3]
    rfl
/-- The state told by the file that is asked for. -/
theorem IsR.file {d : Nat} {m : DM} {h F : Hp} {w0 w : World} (hI : IsR d m h) (H : Holds w0 (h ++ F) w) (k : Nat) (x : ByteArray × Fl) (hx : m.fl[k]? = some x) :
    ∃ gL c cur B cB hb rest, Holds w0 ((gL, Obj.cells cur 51) :: ((d, rO m (.slice (some ⟨gL, 0, none⟩) m.fl.length c)) :: (hb ++ (rest ++ F)))) w ∧ m.fl.length ≤ c ∧ RowB 5 1 (.slice B x.2.b.length cB) x.2.b.length (bv x.2.b) hb ∧ x.2.b.length ≤ cB ∧ (B = none → cB = 0) ∧ k * 3 + 2 < cur.size ∧ cur[k * 3 + 1]? = some (.slice B x.2.b.length cB) ∧ cur[k * 3 + 2]? = some (.int .i64 x.2.safe) ∧
      ∀ (v' : Value) (f' : Fl) (hb' : Hp) (w' : World), RowB 5 1 v' f'.b.length (bv f'.b) hb' → Holds w0 ((gL, Obj.cells ((cur.setIfInBounds (k * 3 + 1) v').setIfInBounds (k * 3 + 2) (.int .i64 f'.safe)) 51) :: ((d, rO m (.slice (some ⟨gL, 0, none⟩) m.fl.length c)) :: (hb' ++ (rest ++ F)))) w' →
        ∃ h', IsR d { m with fl := m.fl.set k (x.1, f') } h' ∧ Holds w0 (h' ++ F) w' := by
  obtain ⟨v, hL, vs, hf, R, FR, rfl⟩ := hI
  have hlt : k < m.fl.length := (List.getElem?_eq_some_iff.mp hx).1
  have hlen := FR.len
  obtain ⟨k1, ⟨A1, c1, k2⟩, k3⟩ := FR.at_ k x hx
  obtain ⟨u, hb, rest, e1, R1, p1, put⟩ := FR.put k x hx
  have R0 := R
  obtain ⟨_, ⟨_, h0, _⟩ | ⟨gL, c, cur, rfl, rfl, h2, h3, h4, h5⟩⟩ := R0
  · omega
  have hcur : ∀ j u, vs[j]? = some u → cur[j]? = some u := fun j u hj => by
    have hj2 : j < m.fl.length * 3 := by rw [← hlen]; exact (List.getElem?_eq_some_iff.mp hj).1
    rw [← h5, List.getElem?_take, if_pos hj2, Array.getElem?_toList] at hj
    exact hj
  obtain ⟨B, cB, rfl, hB1, hB2⟩ := RowB.form R1
  obtain ⟨cur2, ec, hsz, hput⟩ := RowB.putn R
  have ec2 : cur2 = cur := by simpa using ec.symm
  subst ec2
  refine ⟨gL, c, cur2, B, cB, hb, rest, H.perm ?_, h2, R1, hB1, hB2, by omega, hcur _ _ e1, hcur _ _ k3, fun v' f' hb' w' R' H' => ?_⟩
  · refine List.Perm.trans ?_ (List.Perm.swap _ _ _)
    refine List.Perm.cons _ ?_
    simp only [List.cons_append, List.nil_append]
    refine List.Perm.cons _ ?_
    rw [← List.append_assoc]
    exact p1.append_right F
  · obtain ⟨h', F', p'⟩ := put v' f' hb' R'
    obtain ⟨cur3, ec3, hsz3, hput3⟩ := RowB.putn (hput (k * 3 + 1) v' (by omega))
    have ec4 : cur3 = cur2.setIfInBounds (k * 3 + 1) v' := by simpa using ec3.symm
    subst ec4
    refine ⟨(d, rO m (.slice (some ⟨gL, 0, none⟩) m.fl.length c)) :: ([(gL, .cells ((cur2.setIfInBounds (k * 3 + 1) v').setIfInBounds (k * 3 + 2) (.int .i64 f'.safe)) 51)] ++ h'), ⟨_, _, _, h', ?_, F', rfl⟩, H'.perm ?_⟩
    · have := hput3 (k * 3 + 2) (.int .i64 f'.safe) (by omega)
      rw [List.length_set]
      exact this
    · refine (List.Perm.swap _ _ _).trans ?_
      simp only [List.cons_append, List.nil_append]
      refine List.Perm.cons _ (List.Perm.cons _ ?_)
      rw [← List.append_assoc]
      exact (p'.symm).append_right F
theorem set_same (cs : Array Value) (i : Nat) (v : Value) (h : cs[i]? = some v) : cs.setIfInBounds i v = cs := by
  apply Array.ext_getElem?
  intro j
  rw [Array.getElem?_setIfInBounds]
  split
  · rename_i e
    subst e
    obtain ⟨hlt, _⟩ := Array.getElem?_eq_some_iff.mp h
    rw [if_pos hlt, h]
  · rfl
set_option maxRecDepth 100000 in
set_option maxHeartbeats 8000000 in
theorem rcut_calls (d : Nat) (m : DM) (h F : Hp) (s : ByteArray) (n : Int) (w0 w : World) (hcnt : m.fl.length ≤ 10000) (hap : m.fl.Pairwise fun x y => x.1 ≠ y.1) (hsz : ∀ x ∈ m.fl, x.2.b.length ≤ 100000000) (hI : IsR d m h) (H : Holds w0 (h ++ F) w) :
    Calls Try.prog 22 #[.pointer (some ⟨d, 0, none⟩), .string s, .int .i64 n] w fun e w' => e = .returned (.int .i64 (cutM m s n).1) ∧ ∃ h', IsR d (cutM m s n).2 h' ∧ Holds w0 (h' ++ F) w' := by
  have HA := Lib.hid (ask_at d m h F s w0 w hcnt hI H)
  have HI := Lib.hid hI
  have HH0 := Lib.hid H
  have HAP := Lib.hid hap
  rcases ask_cases m s with ⟨er, he0, hq, hq2⟩ | ⟨k, x, hx, hxs, hq, hq2⟩
  · have hsy : cutM m s n = (er, m) := by unfold cutM; rw [hq2]
    rw [hq] at HA
    rw [hsy]
    have her : (er == 0) = false := by simpa using he0
    clear hsy hq hq2 he0 hap hI H
    go_enter Try.func22, Try.ntmps22
    go_wp2_with fail
    refine HA.out.mono ?_
    rintro e w' ⟨rfl, rfl⟩
    go_wp2_with fail
    go_ret
    exact ⟨rfl, _, HI.out, HH0.out⟩
  · rw [hq] at HA
    have hcutM : cutM m s n = if n < 0 ∨ (x.2.b.length : Int) < n then (1, m) else (0, { m with fl := setM s ⟨x.2.b.take n.toNat, min x.2.safe n.toNat⟩ m.fl }) := by unfold cutM; rw [hq2]
    have hlen : x.2.b.length ≤ 100000000 := hsz x (List.mem_of_getElem? hx)
    obtain ⟨gL, c, cur, B, cB, hb, rest, H0, hc0, hrb, hcb, hBn, hks, hc1, hc2, hput⟩ := hI.file H k x hx
    have HH := Lib.hid H0; have HRB := Lib.hid hrb; have HBN := Lib.hid hBn; have HC1 := Lib.hid hc1; have HC2 := Lib.hid hc2; have HPUT := Lib.hid hput
    have hlt : k < m.fl.length := (List.getElem?_eq_some_iff.mp hx).1
    have hki : (k : Int) < (m.fl.length : Int) := by omega
    have HAT := Lib.hid (fun f => set_at s f m.fl k x HAP.out hx hxs)
    have HXS := Lib.hid hxs
    have qd : w.cell? ⟨d, 1, none⟩ = some (.slice (some ⟨gL, 0, none⟩) m.fl.length c) := Holds.cell H0.tail 1
    have qf : w.cell? ⟨gL, k * 3 + 1, none⟩ = some (.slice B x.2.b.length cB) := (Holds.cell H0 (k * 3 + 1)).trans hc1
    clear hq hq2 hap hI H hsz hx hxs hc1 hc2 hput hrb hBn H0
    by_cases hbad : n < 0 ∨ (x.2.b.length : Int) < n
    · rw [hcutM, if_pos hbad]
      clear hcutM
      rcases hbad with hb1 | hb1
      · go_enter Try.func22, Try.ntmps22
        go_wp2_with fail
        refine HA.out.mono ?_
        rintro e w' ⟨rfl, rfl⟩
        go_wp2_with fail
        go_ret
        exact ⟨rfl, _, HI.out, HH0.out⟩
      · have hb0 : ¬ n < 0 := by omega
        go_enter Try.func22, Try.ntmps22
        go_wp2_with fail
        refine HA.out.mono ?_
        rintro e w' ⟨rfl, rfl⟩
        go_wp2_with fail
        go_ret
        exact ⟨rfl, _, HI.out, HH0.out⟩
    · rw [hcutM, if_neg hbad]
      clear hcutM
      obtain ⟨p, rfl⟩ : ∃ p : Nat, n = p := ⟨n.toNat, by omega⟩
      have hpl : p ≤ x.2.b.length := by omega
      have hb0 : ¬ (p : Int) < 0 := by omega
      have hb1 : ¬ (x.2.b.length : Int) < (p : Int) := by omega
      rw [Int.toNat_natCast]
      clear hbad
      go_enter Try.func22, Try.ntmps22
      go_wp2_with fail
      refine HA.out.mono ?_
      rintro e w' ⟨rfl, rfl⟩
      go_wp2_with fail
      refine wp_region_own 17 (fun k => match k with | 16 => [5] | 17 => [16] | _ => []) (by kernel_rfl) (by kernel_rfl) (by kernel_rfl) (by kernel_rfl) (Nat.le_of_ble_eq_true (by kernel_rfl)) w0 (fun Ls hs => hs = ((gL, Obj.cells cur 51) :: ((d, rO m (.slice (some ⟨gL, 0, none⟩) m.fl.length c)) :: (hb ++ (rest ++ F))))) (fun i v h => match i with | 0 => v = .pointer (some ⟨d, 0, none⟩) ∧ h = [] | 1 => v = .pointer (some ⟨d, 0, none⟩) ∧ h = [] | 2 => v = .pointer (some ⟨d, 1, none⟩) ∧ h = [] | 3 => v = .slice (some ⟨gL, 0, none⟩) m.fl.length c ∧ h = [] | 4 => v = .int .i64 (k : Nat) ∧ h = [] | 5 => RowB 5 1 v 0 (bv []) h | 6 => v = .pointer (some ⟨d, 0, none⟩) ∧ h = [] | 7 => v = .pointer (some ⟨d, 0, none⟩) ∧ h = [] | 8 => v = .pointer (some ⟨d, 1, none⟩) ∧ h = [] | 9 => v = .slice (some ⟨gL, 0, none⟩) m.fl.length c ∧ h = [] | 10 => v = .int .i64 (k : Nat) ∧ h = [] | 11 => v = .pointer (some ⟨gL, k * 3, none⟩) ∧ h = [] | 12 => v = .pointer (some ⟨gL, k * 3 + 1, none⟩) ∧ h = [] | 13 => v = Value.slice B x.2.b.length cB ∧ h = [] | 14 => v = .int .i64 (p : Nat) ∧ h = [] | 15 => v = .slice B p cB ∧ h = [] | 16 => RowB 5 1 v ([] ++ (x.2.b.take p)).length (bv ([] ++ (x.2.b.take p))) h | _ => True) (((gL, Obj.cells cur 51) :: ((d, rO m (.slice (some ⟨gL, 0, none⟩) m.fl.length c)) :: (hb ++ (rest ++ F))))) (rfl) (HH.out.drew) ?_ ?_
      · intro i o hi ho Ls f Hf hs R w1 hI hL hd hH
        simp only [fill, List.take_succ_cons, List.take_zero, Act.put, List.setIfInBounds_toArray, List.set_cons_zero, List.set_cons_succ]
        match i, hi with
        | 0, _ =>
          obtain rfl := Option.some.inj ho
          clear hd ho
          have hH : Holds w0 (hs ++ ([] ++ R)) w1 := hH
          rw [show hs = ((gL, Obj.cells cur 51) :: ((d, rO m (.slice (some ⟨gL, 0, none⟩) m.fl.length c)) :: (hb ++ (rest ++ F)))) from hI] at hH
          clear hI
          unfold wpOp
          refine Or.inl ?_
          unfold Oper.wp
          go_simp
          exact OwnBy.mk _ _ _ rfl (rfl) (⟨rfl, rfl⟩) (hH)
        | 1, _ =>
          obtain rfl := Option.some.inj ho
          have e0 : f 0 = .pointer (some ⟨d, 0, none⟩) := (hd ⟨0, .data⟩ (by simp) rfl).2.1
          clear hd ho
          have hH : Holds w0 (hs ++ ([] ++ R)) w1 := hH
          rw [show hs = ((gL, Obj.cells cur 51) :: ((d, rO m (.slice (some ⟨gL, 0, none⟩) m.fl.length c)) :: (hb ++ (rest ++ F)))) from hI] at hH
          clear hI
          unfold wpOp
          refine Or.inl ?_
          simp only [e0]
          unfold Oper.wp
          go_simp
          exact OwnBy.mk _ _ _ rfl (rfl) (⟨rfl, rfl⟩) (hH)
        | 2, _ =>
          obtain rfl := Option.some.inj ho
          have e1 : f 1 = .pointer (some ⟨d, 0, none⟩) := (hd ⟨1, .data⟩ (by simp) rfl).2.1
          clear hd ho
          have hH : Holds w0 (hs ++ ([] ++ R)) w1 := hH
          rw [show hs = ((gL, Obj.cells cur 51) :: ((d, rO m (.slice (some ⟨gL, 0, none⟩) m.fl.length c)) :: (hb ++ (rest ++ F)))) from hI] at hH
          clear hI
          unfold wpOp
          refine Or.inl ?_
          simp only [e1]
          unfold Oper.wp
          go_simp
          exact OwnBy.mk _ _ _ rfl (rfl) (⟨rfl, rfl⟩) (hH)
        | 3, _ =>
          obtain rfl := Option.some.inj ho
          have e2 : f 2 = .pointer (some ⟨d, 1, none⟩) := (hd ⟨2, .data⟩ (by simp) rfl).2.1
          clear hd ho
          have hH : Holds w0 (hs ++ ([] ++ R)) w1 := hH
          rw [show hs = ((gL, Obj.cells cur 51) :: ((d, rO m (.slice (some ⟨gL, 0, none⟩) m.fl.length c)) :: (hb ++ (rest ++ F)))) from hI] at hH
          clear hI
          unfold wpOp
          refine Or.inl ?_
          simp only [e2]
          unfold Oper.wp
          have q : w1.cell? ⟨d, 1, none⟩ = some (.slice (some ⟨gL, 0, none⟩) m.fl.length c) := Holds.cell (hH.tail) 1
          go_simp
          exact OwnBy.mk _ _ _ rfl (rfl) (⟨rfl, rfl⟩) (hH)
        | 4, _ =>
          obtain rfl := Option.some.inj ho
          clear hd ho
          have hH : Holds w0 (hs ++ ([] ++ R)) w1 := hH
          rw [show hs = ((gL, Obj.cells cur 51) :: ((d, rO m (.slice (some ⟨gL, 0, none⟩) m.fl.length c)) :: (hb ++ (rest ++ F)))) from hI] at hH
          clear hI
          unfold wpOp
          refine Or.inl ?_
          unfold Oper.wp
          go_simp
          exact OwnBy.mk _ _ _ rfl (rfl) (⟨rfl, rfl⟩) (hH)
        | 5, _ =>
          obtain rfl := Option.some.inj ho
          clear hd ho
          have hH : Holds w0 (hs ++ ([] ++ R)) w1 := hH
          rw [show hs = ((gL, Obj.cells cur 51) :: ((d, rO m (.slice (some ⟨gL, 0, none⟩) m.fl.length c)) :: (hb ++ (rest ++ F)))) from hI] at hH
          clear hI
          unfold wpOp
          refine Or.inl ?_
          unfold Oper.wp
          go_simp
          exact OwnBy.mk _ [(w1.heap.size, .cells #[] 5)] _ rfl rfl (RowB.lit hH #[] 0 (by decide) rfl) ((hH.alloc (.cells #[] 5)).perm (by classical rw [List.perm_iff_count]; intro a; simp only [List.count_append, List.count_cons, List.count_nil] <;> omega))
        | 6, _ =>
          obtain rfl := Option.some.inj ho
          clear hd ho
          have hH : Holds w0 (hs ++ ([] ++ R)) w1 := hH
          rw [show hs = ((gL, Obj.cells cur 51) :: ((d, rO m (.slice (some ⟨gL, 0, none⟩) m.fl.length c)) :: (hb ++ (rest ++ F)))) from hI] at hH
          clear hI
          unfold wpOp
          refine Or.inl ?_
          unfold Oper.wp
          go_simp
          exact OwnBy.mk _ _ _ rfl (rfl) (⟨rfl, rfl⟩) (hH)
        | 7, _ =>
          obtain rfl := Option.some.inj ho
          have e6 : f 6 = .pointer (some ⟨d, 0, none⟩) := (hd ⟨6, .data⟩ (by simp) rfl).2.1
          clear hd ho
          have hH : Holds w0 (hs ++ ([] ++ R)) w1 := hH
          rw [show hs = ((gL, Obj.cells cur 51) :: ((d, rO m (.slice (some ⟨gL, 0, none⟩) m.fl.length c)) :: (hb ++ (rest ++ F)))) from hI] at hH
          clear hI
          unfold wpOp
          refine Or.inl ?_
          simp only [e6]
          unfold Oper.wp
          go_simp
          exact OwnBy.mk _ _ _ rfl (rfl) (⟨rfl, rfl⟩) (hH)
        | 8, _ =>
          obtain rfl := Option.some.inj ho
          have e7 : f 7 = .pointer (some ⟨d, 0, none⟩) := (hd ⟨7, .data⟩ (by simp) rfl).2.1
          clear hd ho
          have hH : Holds w0 (hs ++ ([] ++ R)) w1 := hH
          rw [show hs = ((gL, Obj.cells cur 51) :: ((d, rO m (.slice (some ⟨gL, 0, none⟩) m.fl.length c)) :: (hb ++ (rest ++ F)))) from hI] at hH
          clear hI
          unfold wpOp
          refine Or.inl ?_
          simp only [e7]
          unfold Oper.wp
          go_simp
          exact OwnBy.mk _ _ _ rfl (rfl) (⟨rfl, rfl⟩) (hH)
        | 9, _ =>
          obtain rfl := Option.some.inj ho
          have e8 : f 8 = .pointer (some ⟨d, 1, none⟩) := (hd ⟨8, .data⟩ (by simp) rfl).2.1
          clear hd ho
          have hH : Holds w0 (hs ++ ([] ++ R)) w1 := hH
          rw [show hs = ((gL, Obj.cells cur 51) :: ((d, rO m (.slice (some ⟨gL, 0, none⟩) m.fl.length c)) :: (hb ++ (rest ++ F)))) from hI] at hH
          clear hI
          unfold wpOp
          refine Or.inl ?_
          simp only [e8]
          unfold Oper.wp
          have q : w1.cell? ⟨d, 1, none⟩ = some (.slice (some ⟨gL, 0, none⟩) m.fl.length c) := Holds.cell (hH.tail) 1
          go_simp
          exact OwnBy.mk _ _ _ rfl (rfl) (⟨rfl, rfl⟩) (hH)
        | 10, _ =>
          obtain rfl := Option.some.inj ho
          clear hd ho
          have hH : Holds w0 (hs ++ ([] ++ R)) w1 := hH
          rw [show hs = ((gL, Obj.cells cur 51) :: ((d, rO m (.slice (some ⟨gL, 0, none⟩) m.fl.length c)) :: (hb ++ (rest ++ F)))) from hI] at hH
          clear hI
          unfold wpOp
          refine Or.inl ?_
          unfold Oper.wp
          go_simp
          exact OwnBy.mk _ _ _ rfl (rfl) (⟨rfl, rfl⟩) (hH)
        | 11, _ =>
          obtain rfl := Option.some.inj ho
          have e9 : f 9 = .slice (some ⟨gL, 0, none⟩) m.fl.length c := (hd ⟨9, .data⟩ (by simp) rfl).2.1
          have e10 : f 10 = .int .i64 (k : Nat) := (hd ⟨10, .data⟩ (by simp) rfl).2.1
          clear hd ho
          have hH : Holds w0 (hs ++ ([] ++ R)) w1 := hH
          rw [show hs = ((gL, Obj.cells cur 51) :: ((d, rO m (.slice (some ⟨gL, 0, none⟩) m.fl.length c)) :: (hb ++ (rest ++ F)))) from hI] at hH
          clear hI
          unfold wpOp
          refine Or.inl ?_
          simp only [e9, e10]
          unfold Oper.wp
          go_simp
          exact OwnBy.mk _ _ _ rfl (rfl) (⟨rfl, rfl⟩) (hH)
        | 12, _ =>
          obtain rfl := Option.some.inj ho
          have e11 : f 11 = .pointer (some ⟨gL, k * 3, none⟩) := (hd ⟨11, .data⟩ (by simp) rfl).2.1
          clear hd ho
          have hH : Holds w0 (hs ++ ([] ++ R)) w1 := hH
          rw [show hs = ((gL, Obj.cells cur 51) :: ((d, rO m (.slice (some ⟨gL, 0, none⟩) m.fl.length c)) :: (hb ++ (rest ++ F)))) from hI] at hH
          clear hI
          unfold wpOp
          refine Or.inl ?_
          simp only [e11]
          unfold Oper.wp
          go_simp
          exact OwnBy.mk _ _ _ rfl (rfl) (⟨rfl, rfl⟩) (hH)
        | 13, _ =>
          obtain rfl := Option.some.inj ho
          have e12 : f 12 = .pointer (some ⟨gL, k * 3 + 1, none⟩) := (hd ⟨12, .data⟩ (by simp) rfl).2.1
          clear hd ho
          have hH : Holds w0 (hs ++ ([] ++ R)) w1 := hH
          rw [show hs = ((gL, Obj.cells cur 51) :: ((d, rO m (.slice (some ⟨gL, 0, none⟩) m.fl.length c)) :: (hb ++ (rest ++ F)))) from hI] at hH
          clear hI
          unfold wpOp
          refine Or.inl ?_
          simp only [e12]
          unfold Oper.wp
          have q : w1.cell? ⟨gL, k * 3 + 1, none⟩ = some (.slice B x.2.b.length cB) := (Holds.cell hH (k * 3 + 1)).trans HC1.out
          go_simp
          exact OwnBy.mk _ _ _ rfl (rfl) (⟨rfl, rfl⟩) (hH)
        | 14, _ =>
          obtain rfl := Option.some.inj ho
          clear hd ho
          have hH : Holds w0 (hs ++ ([] ++ R)) w1 := hH
          rw [show hs = ((gL, Obj.cells cur 51) :: ((d, rO m (.slice (some ⟨gL, 0, none⟩) m.fl.length c)) :: (hb ++ (rest ++ F)))) from hI] at hH
          clear hI
          unfold wpOp
          refine Or.inl ?_
          unfold Oper.wp
          go_simp
          exact OwnBy.mk _ _ _ rfl (rfl) (⟨rfl, rfl⟩) (hH)
        | 15, _ =>
          obtain rfl := Option.some.inj ho
          have e13 : f 13 = Value.slice B x.2.b.length cB := (hd ⟨13, .data⟩ (by simp) rfl).2.1
          have e14 : f 14 = .int .i64 (p : Nat) := (hd ⟨14, .data⟩ (by simp) rfl).2.1
          clear hd ho
          have hH : Holds w0 (hs ++ ([] ++ R)) w1 := hH
          rw [show hs = ((gL, Obj.cells cur 51) :: ((d, rO m (.slice (some ⟨gL, 0, none⟩) m.fl.length c)) :: (hb ++ (rest ++ F)))) from hI] at hH
          clear hI
          unfold wpOp
          refine Or.inl ?_
          simp only [e13, e14]
          unfold Oper.wp
          have hcut := cutHi Try.underlying28 sz5 B x.2.b.length cB p (by omega) (by omega) w1
          go_simp
          exact OwnBy.mk _ _ _ rfl (rfl) (⟨rfl, rfl⟩) (hH)
        | 16, _ =>
          obtain rfl := Option.some.inj ho
          have e5 := (hd ⟨5, .data⟩ (by simp) rfl).2
          have e15 : f 15 = .slice B p cB := (hd ⟨15, .data⟩ (by simp) rfl).2.1
          clear hd ho
          have hH : Holds w0 (hs ++ ((Hf 5 ++ ([])) ++ R)) w1 := hH
          simp only [List.append_nil, List.append_assoc] at hH
          rw [show hs = ((gL, Obj.cells cur 51) :: ((d, rO m (.slice (some ⟨gL, 0, none⟩) m.fl.length c)) :: (hb ++ (rest ++ F)))) from hI] at hH
          clear hI
          unfold wpOp
          refine Or.inl ?_
          simp only [e15]
          unfold Oper.wp
          obtain ⟨A0, c0, hv0, _, _, hrd⟩ := HRB.out.reads (hH.perm (k := hb ++ (((gL, Obj.cells cur 51) :: ((d, rO m (.slice (some ⟨gL, 0, none⟩) m.fl.length c)) :: (rest ++ F))) ++ (Hf 5 ++ R))) (by classical rw [List.perm_iff_count]; intro a; simp only [List.count_append, List.count_cons, List.count_nil] <;> omega))
          injection hv0 with hv0 _ hv0c
          subst hv0
          subst hv0c
          have hrd2 : Reads w1 B (x.2.b.take p).length 1 (bv (x.2.b.take p)) := by have := hrd.take (k := p) (by omega); rw [Nat.mul_one, bv_take] at this; rwa [List.length_take, Nat.min_eq_left hpl]
          obtain ⟨v8, h8, w8, r1, r2, r3⟩ := bytes_append (bs := []) e5 (hH.perm (k := Hf 5 ++ (((gL, Obj.cells cur 51) :: ((d, rO m (.slice (some ⟨gL, 0, none⟩) m.fl.length c)) :: (hb ++ (rest ++ F)))) ++ R)) (by classical rw [List.perm_iff_count]; intro a; simp only [List.count_append, List.count_cons, List.count_nil] <;> omega)) 28 (B) (cB) ((x.2.b.take p)) (HBN.out) (hrd2) (by simp only [List.length_nil, List.length_append, List.length_take]; omega)
          rw [List.length_take, Nat.min_eq_left hpl] at r1
          refine wpA (.tmp 38) (.tmp 48) rfl rfl rfl r1 ?_
          exact OwnBy.mk _ h8 _ rfl rfl r2 (r3.perm (by classical rw [List.perm_iff_count]; intro a; simp only [List.count_append, List.count_cons, List.count_nil] <;> omega))
        | _ + 17, h17 => exact absurd h17 (by omega)
      · intro Ls f Hf hs w1 hI hL hV hH
        have e0 : f 0 = .pointer (some ⟨d, 0, none⟩) := (hV 0 (by decide)).1
        have e1 : f 1 = .pointer (some ⟨d, 0, none⟩) := (hV 1 (by decide)).1
        have e2 : f 2 = .pointer (some ⟨d, 1, none⟩) := (hV 2 (by decide)).1
        have e3 : f 3 = .slice (some ⟨gL, 0, none⟩) m.fl.length c := (hV 3 (by decide)).1
        have e4 : f 4 = .int .i64 (k : Nat) := (hV 4 (by decide)).1
        have e5 := hV 5 (by decide)
        have e6 : f 6 = .pointer (some ⟨d, 0, none⟩) := (hV 6 (by decide)).1
        have e7 : f 7 = .pointer (some ⟨d, 0, none⟩) := (hV 7 (by decide)).1
        have e8 : f 8 = .pointer (some ⟨d, 1, none⟩) := (hV 8 (by decide)).1
        have e9 : f 9 = .slice (some ⟨gL, 0, none⟩) m.fl.length c := (hV 9 (by decide)).1
        have e10 : f 10 = .int .i64 (k : Nat) := (hV 10 (by decide)).1
        have e11 : f 11 = .pointer (some ⟨gL, k * 3, none⟩) := (hV 11 (by decide)).1
        have e12 : f 12 = .pointer (some ⟨gL, k * 3 + 1, none⟩) := (hV 12 (by decide)).1
        have e13 : f 13 = Value.slice B x.2.b.length cB := (hV 13 (by decide)).1
        have e14 : f 14 = .int .i64 (p : Nat) := (hV 14 (by decide)).1
        have e15 : f 15 = .slice B p cB := (hV 15 (by decide)).1
        have e16 := hV 16 (by decide)
        clear hV
        have hH : Holds w0 (hs ++ (Hf 16 ++ [])) w1 := hH
        simp only [List.append_nil, List.append_assoc] at hH
        simp only [fill, List.take_succ_cons, List.take_zero, List.drop_succ_cons, List.drop_zero, Act.put, List.setIfInBounds_toArray, List.set_cons_zero, List.set_cons_succ, e0, e1, e2, e3, e4, e6, e7, e8, e9, e10, e11, e12, e13, e14, e15]
        rw [show hs = ((gL, Obj.cells cur 51) :: ((d, rO m (.slice (some ⟨gL, 0, none⟩) m.fl.length c)) :: (hb ++ (rest ++ F)))) from hI] at hH
        clear hI
        rw [List.nil_append] at e16
        obtain ⟨A8, c8, hv8, _, _⟩ := RowB.form e16
        have elen : (x.2.b.take p).length = p := by rw [List.length_take, Nat.min_eq_left hpl]
        rw [hv8] at e16 ⊢
        rw [elen] at e16 ⊢
        have H9 : Holds w0 ((gL, Obj.cells cur 51) :: ((d, rO m (.slice (some ⟨gL, 0, none⟩) m.fl.length c)) :: (Hf 16 ++ (rest ++ F)) ++ hb)) w1 := hH.perm (by classical rw [List.perm_iff_count]; intro a; simp only [List.count_append, List.count_cons, List.count_nil] <;> omega)
        have q2 : w1.cell? ⟨gL, k * 3 + 1, none⟩ = some (.slice B x.2.b.length cB) := (H9.cell _).trans HC1.out
        have q3 : w1.frozen? ⟨gL, k * 3 + 1, none⟩ = false := H9.froz _
        have H10 : Holds w0 ((gL, Obj.cells (cur.setIfInBounds (k * 3 + 1) (.slice A8 p c8)) 51) :: ((d, rO m (.slice (some ⟨gL, 0, none⟩) m.fl.length c)) :: (Hf 16 ++ (rest ++ F)) ++ hb)) _ := H9.set (k * 3 + 1) (.slice A8 p c8)
        have q4 : (w1.setCell ⟨gL, k * 3 + 1, none⟩ (.slice A8 p c8)).cell? ⟨d, 1, none⟩ = some (.slice (some ⟨gL, 0, none⟩) m.fl.length c) := Holds.cell H10.tail 1
        have q5 : (w1.setCell ⟨gL, k * 3 + 1, none⟩ (.slice A8 p c8)).cell? ⟨gL, k * 3 + 2, none⟩ = some (.int .i64 x.2.safe) := by rw [Holds.cell H10, Array.getElem?_setIfInBounds_ne (by omega)]; exact HC2.out
        have q6 : (w1.setCell ⟨gL, k * 3 + 1, none⟩ (.slice A8 p c8)).frozen? ⟨gL, k * 3 + 2, none⟩ = false := Holds.froz H10 _
        have HR8 := Lib.hid e16
        have HH10 := Lib.hid H10
        have hne : ¬ gL = d := fun e => H9.mem_ne (x := (d, rO m (.slice (some ⟨gL, 0, none⟩) m.fl.length c))) (by simp) e.symm
        clear hL hH hv8
        by_cases hsf : (p : Int) < (x.2.safe : Int)
        · have H11 := H10.set (k * 3 + 2) (.int .i64 (p : Nat))
          have HH11 := Lib.hid H11
          clear H9 H10 H11
          go_wp2_with fail
          go_ret
          refine ⟨rfl, ?_⟩
          have hmn : min x.2.safe p = p := by omega
          rw [hmn, ← HAT.out]
          have hfin := HPUT.out (.slice A8 p c8) ⟨x.2.b.take p, p⟩ (Hf 16) _ (by show RowB 5 1 _ (x.2.b.take p).length _ _; rw [elen]; exact HR8.out) (HH11.out.perm (k := ((gL, _) :: ((d, rO m (.slice (some ⟨gL, 0, none⟩) m.fl.length c)) :: (Hf 16 ++ (rest ++ F)))) ++ hb) (by classical rw [List.perm_iff_count]; intro a; simp only [List.count_append, List.count_cons, List.count_nil] <;> omega)).left
          rw [HXS.out] at hfin
          exact hfin
        · have hsz2 : cur.size = cur.size := rfl
          have HSELF := Lib.hid (show (cur.setIfInBounds (k * 3 + 1) (.slice A8 p c8)).setIfInBounds (k * 3 + 2) (.int .i64 (x.2.safe : Nat)) = cur.setIfInBounds (k * 3 + 1) (.slice A8 p c8) from by
            refine set_same _ _ _ ?_
            rw [Array.getElem?_setIfInBounds_ne (by omega)]
            exact HC2.out)
          clear H9 H10 hsz2
          go_wp2_with fail
          go_ret
          refine ⟨rfl, ?_⟩
          have hmn : min x.2.safe p = x.2.safe := by omega
          rw [hmn, ← HAT.out]
          have hfin := HPUT.out (.slice A8 p c8) ⟨x.2.b.take p, x.2.safe⟩ (Hf 16) _ (by show RowB 5 1 _ (x.2.b.take p).length _ _; rw [elen]; exact HR8.out) (by rw [HSELF.out]; exact (HH10.out.perm (k := ((gL, _) :: ((d, rO m (.slice (some ⟨gL, 0, none⟩) m.fl.length c)) :: (Hf 16 ++ (rest ++ F)))) ++ hb) (by classical rw [List.perm_iff_count]; intro a; simp only [List.count_append, List.count_cons, List.count_nil] <;> omega)).left)
          rw [HXS.out] at hfin
          exact hfin
end Go.Proofs.Ytocpelkgiebkjaa
