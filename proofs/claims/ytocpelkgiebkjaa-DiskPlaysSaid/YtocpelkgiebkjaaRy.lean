/- Chapter 8's own answer: Sync: a contract for every world. Conditions: the theorem's own. -/
import Derived.Test.YtocpelkgiebkjaaRs
import Derived.Test.YtocpelkgiebkjaaRh
namespace Go.Proofs.Ytocpelkgiebkjaa
open Go.RowKit Go.Proofs.Ytocpelkgiebkjaa.Sp
set_option linter.unusedVariables false
set_option linter.unusedSimpArgs false
def SyI (w0 : World) (d gL k n : Nat) (cur : Array Value) (o : Obj) (b : Value) (rest : Hp) (L : Nat → Bool) (w' : World) : Prop :=
  ∃ cur' : Array Value, Holds w0 ((gL, .cells cur' 51 (0, 0)) :: (d, o) :: rest) w' ∧ cur'[k * 3 + 1]? = some b ∧ k * 3 + 2 < cur'.size ∧ (L 16 = false → cur' = cur) ∧ (L 16 = true → cur' = cur.setIfInBounds (k * 3 + 2) (.int .i64 n))
set_option maxRecDepth 100000 in
set_option maxHeartbeats 4000000 in
theorem rsync_calls (d : Nat) (m : DM) (h F : Hp) (s : ByteArray) (w0 w : World) (hcnt : m.fl.length ≤ 1000000000) (hap : m.fl.Pairwise fun x y => x.1 ≠ y.1) (hI : IsR d m h) (H : Holds w0 (h ++ F) w) :
    Calls Try.prog 21 #[.pointer (some ⟨d, 0, none⟩), .string s] w fun e w' => e = .returned (.int .i64 (syncM m s).1) ∧ ∃ h', IsR d (syncM m s).2 h' ∧ Holds w0 (h' ++ F) w' := by
  have HI := Lib.hid hI; have HH := Lib.hid H
  obtain ⟨A, c, hd, hn, hr⟩ := hI.cells H
  obtain ⟨v, hL, vs, hf, R, FR, rfl⟩ := hI
  have ho : w.cell? ⟨d, 2, none⟩ = some (.bool (!m.power)) := Holds.cell H 2
  have hv1 : w.cell? ⟨d, 1, none⟩ = some v := Holds.cell H 1
  rw [hd] at hv1
  injection hv1 with hv1
  subst hv1
  have HA := Lib.hid (rask_calls d (!m.power) m.fl A c s w hcnt hd ho (fun ad hA j x hj => by
    obtain ⟨gL, rfl, hcs⟩ := hr ad hA
    have e2 : (⟨gL, 0, none⟩ : Addr).add (j * 3) = ⟨gL, j * 3, none⟩ := by simp [Addr.add]; omega
    rw [e2]
    exact (hcs j x hj).1) hn)
  have HR := Lib.hid R; have HFR := Lib.hid FR; have HAP := Lib.hid hap; have HN := Lib.hid hn; have HRR := Lib.hid hr
  clear hn hr H ho R FR hap hd
  rcases ask_cases m s with ⟨er, he0, hq, hq2⟩ | ⟨k, x, hx, hxs, hq, hq2⟩
  · have hsy : syncM m s = (er, m) := by unfold syncM; rw [hq2]
    rw [hq] at HA
    rw [hsy]
    have her : (er == 0) = false := by simpa using he0
    clear hsy hq hq2 he0
    go_enter Try.func21, Try.ntmps21
    go_wp2_with fail
    refine HA.out.mono ?_
    rintro e w' ⟨rfl, rfl⟩
    go_wp2_with fail
    go_ret
    exact ⟨rfl, _, HI.out, HH.out⟩
  · have hsy : syncM m s = (0, { m with fl := setM s { x.2 with safe := x.2.b.length } m.fl }) := by unfold syncM; rw [hq2]
    rw [hq] at HA
    rw [hsy]
    have hlt : k < m.fl.length := (List.getElem?_eq_some_iff.mp hx).1
    cases A with
    | none => exact absurd (HN.out rfl) (fun e => by rw [e] at hlt; simp at hlt)
    | some ad =>
      obtain ⟨gL, rfl, hcs⟩ := HRR.out ad rfl
      obtain ⟨_, ⟨B, c', hc⟩, _⟩ := hcs k x hx
      obtain ⟨cur, rfl, hsz, hput⟩ := RowB.putn HR.out
      have H0 : Holds w0 ((gL, .cells cur 51 (0, 0)) :: (d, rO m (.slice (some ⟨gL, 0, none⟩) m.fl.length c)) :: (hf ++ F)) w := HH.out.perm (List.Perm.swap _ _ _)
      have hcu : cur[k * 3 + 1]? = some (.slice B x.2.b.length c') := (Holds.cell H0 (k * 3 + 1)).symm.trans hc
      have hks : k * 3 + 2 < cur.size := by omega
      have HP := Lib.hid (hput (k * 3 + 2) (.int .i64 x.2.b.length) (by omega))
      have HSET := Lib.hid (FRw.set_safe HFR.out k x x.2.b.length hx)
      have HAT := Lib.hid (set_at s { x.2 with safe := x.2.b.length } m.fl k x HAP.out hx hxs)
      have HX := Lib.hid hxs
      have H0' := Lib.hid H0
      have HCU := Lib.hid hcu
      clear hsy hq hq2 hcs hc hsz hput H0 hcu hx hxs
      go_enter Try.func21, Try.ntmps21
      go_wp2_with fail
      refine HA.out.mono ?_
      rintro e w' ⟨rfl, rfl⟩
      go_wp2_with fail
      refine wp_region_vals2 17 (by kernel_rfl) (by kernel_rfl) (by kernel_rfl) (fun Ls w' => SyI w0 d gL k x.2.b.length cur (rO m (.slice (some ⟨gL, 0, none⟩) m.fl.length c)) (.slice B x.2.b.length c') (hf ++ F) Ls w') (fun w1 w2 => True) (fun i w v => match i with | 0 => v = .pointer (some ⟨d, 0, none⟩) | 1 => v = .pointer (some ⟨d, 0, none⟩) | 2 => v = .pointer (some ⟨d, 1, none⟩) | 3 => v = .slice (some ⟨gL, 0, none⟩) m.fl.length c | 4 => v = .int .i64 k | 5 => v = .pointer (some ⟨d, 0, none⟩) | 6 => v = .pointer (some ⟨d, 0, none⟩) | 7 => v = .pointer (some ⟨d, 1, none⟩) | 8 => v = .slice (some ⟨gL, 0, none⟩) m.fl.length c | 9 => v = .int .i64 k | 10 => v = .pointer (some ⟨gL, k * 3, none⟩) | 11 => v = .pointer (some ⟨gL, k * 3 + 1, none⟩) | 12 => v = (Value.slice B x.2.b.length c') | 13 => v = .int .i64 x.2.b.length | 14 => v = .pointer (some ⟨gL, k * 3, none⟩) | 15 => v = .pointer (some ⟨gL, k * 3 + 2, none⟩) | 16 => True | _ => True) ⟨cur, H0'.out.drew, HCU.out, hks, fun _ => rfl, fun h => (by cases h)⟩ ?_ ?_ ?_
      · intro i v w1 w2 hS h
        match i, h with
        | 0, h => exact h
        | 1, h => exact h
        | 2, h => exact h
        | 3, h => exact h
        | 4, h => exact h
        | 5, h => exact h
        | 6, h => exact h
        | 7, h => exact h
        | 8, h => exact h
        | 9, h => exact h
        | 10, h => exact h
        | 11, h => exact h
        | 12, h => exact h
        | 13, h => exact h
        | 14, h => exact h
        | 15, h => exact h
        | 16, h => exact h
        | _ + 17, h => exact trivial
      · intro i o hi ho Ls f w1 hI hL hd
        match i, hi with
        | 0, _ =>
          obtain rfl := Option.some.inj ho
          have hI' := hI; obtain ⟨cur', hH, hb, hsz, h0, h1⟩ := hI'; have q1 : w1.cell? ⟨d, 1, none⟩ = some (.slice (some ⟨gL, 0, none⟩) m.fl.length c) := Holds.cell hH.tail 1; have q2 : w1.cell? ⟨gL, k * 3 + 1, none⟩ = some (.slice B x.2.b.length c') := (Holds.cell hH (k * 3 + 1)).trans hb
          clear hd ho
          unfold wpOp
          refine Or.inl ?_
          simp only [fill, List.take_succ_cons, List.take_zero, Act.put, List.setIfInBounds_toArray, List.set_cons_zero, List.set_cons_succ]
          unfold Oper.wp
          go_simp
          exact LeftBy.mk _ rfl (hI) (trivial) (rfl)
        | 1, _ =>
          obtain rfl := Option.some.inj ho
          have e0 : f 0 = .pointer (some ⟨d, 0, none⟩) := (hd ⟨0, .data⟩ (by simp) rfl).2
          have hI' := hI; obtain ⟨cur', hH, hb, hsz, h0, h1⟩ := hI'; have q1 : w1.cell? ⟨d, 1, none⟩ = some (.slice (some ⟨gL, 0, none⟩) m.fl.length c) := Holds.cell hH.tail 1; have q2 : w1.cell? ⟨gL, k * 3 + 1, none⟩ = some (.slice B x.2.b.length c') := (Holds.cell hH (k * 3 + 1)).trans hb
          clear hd ho
          unfold wpOp
          refine Or.inl ?_
          simp only [fill, List.take_succ_cons, List.take_zero, Act.put, List.setIfInBounds_toArray, List.set_cons_zero, List.set_cons_succ, e0]
          unfold Oper.wp
          go_simp
          exact LeftBy.mk _ rfl (hI) (trivial) (rfl)
        | 2, _ =>
          obtain rfl := Option.some.inj ho
          have e1 : f 1 = .pointer (some ⟨d, 0, none⟩) := (hd ⟨1, .data⟩ (by simp) rfl).2
          have hI' := hI; obtain ⟨cur', hH, hb, hsz, h0, h1⟩ := hI'; have q1 : w1.cell? ⟨d, 1, none⟩ = some (.slice (some ⟨gL, 0, none⟩) m.fl.length c) := Holds.cell hH.tail 1; have q2 : w1.cell? ⟨gL, k * 3 + 1, none⟩ = some (.slice B x.2.b.length c') := (Holds.cell hH (k * 3 + 1)).trans hb
          clear hd ho
          unfold wpOp
          refine Or.inl ?_
          simp only [fill, List.take_succ_cons, List.take_zero, Act.put, List.setIfInBounds_toArray, List.set_cons_zero, List.set_cons_succ, e1]
          unfold Oper.wp
          go_simp
          exact LeftBy.mk _ rfl (hI) (trivial) (rfl)
        | 3, _ =>
          obtain rfl := Option.some.inj ho
          have e2 : f 2 = .pointer (some ⟨d, 1, none⟩) := (hd ⟨2, .data⟩ (by simp) rfl).2
          have hI' := hI; obtain ⟨cur', hH, hb, hsz, h0, h1⟩ := hI'; have q1 : w1.cell? ⟨d, 1, none⟩ = some (.slice (some ⟨gL, 0, none⟩) m.fl.length c) := Holds.cell hH.tail 1; have q2 : w1.cell? ⟨gL, k * 3 + 1, none⟩ = some (.slice B x.2.b.length c') := (Holds.cell hH (k * 3 + 1)).trans hb
          clear hd ho
          unfold wpOp
          refine Or.inl ?_
          simp only [fill, List.take_succ_cons, List.take_zero, Act.put, List.setIfInBounds_toArray, List.set_cons_zero, List.set_cons_succ, e2]
          unfold Oper.wp
          go_simp
          exact LeftBy.mk _ rfl (hI) (trivial) (rfl)
        | 4, _ =>
          obtain rfl := Option.some.inj ho
          have hI' := hI; obtain ⟨cur', hH, hb, hsz, h0, h1⟩ := hI'; have q1 : w1.cell? ⟨d, 1, none⟩ = some (.slice (some ⟨gL, 0, none⟩) m.fl.length c) := Holds.cell hH.tail 1; have q2 : w1.cell? ⟨gL, k * 3 + 1, none⟩ = some (.slice B x.2.b.length c') := (Holds.cell hH (k * 3 + 1)).trans hb
          clear hd ho
          unfold wpOp
          refine Or.inl ?_
          simp only [fill, List.take_succ_cons, List.take_zero, Act.put, List.setIfInBounds_toArray, List.set_cons_zero, List.set_cons_succ]
          unfold Oper.wp
          go_simp
          exact LeftBy.mk _ rfl (hI) (trivial) (rfl)
        | 5, _ =>
          obtain rfl := Option.some.inj ho
          have hI' := hI; obtain ⟨cur', hH, hb, hsz, h0, h1⟩ := hI'; have q1 : w1.cell? ⟨d, 1, none⟩ = some (.slice (some ⟨gL, 0, none⟩) m.fl.length c) := Holds.cell hH.tail 1; have q2 : w1.cell? ⟨gL, k * 3 + 1, none⟩ = some (.slice B x.2.b.length c') := (Holds.cell hH (k * 3 + 1)).trans hb
          clear hd ho
          unfold wpOp
          refine Or.inl ?_
          simp only [fill, List.take_succ_cons, List.take_zero, Act.put, List.setIfInBounds_toArray, List.set_cons_zero, List.set_cons_succ]
          unfold Oper.wp
          go_simp
          exact LeftBy.mk _ rfl (hI) (trivial) (rfl)
        | 6, _ =>
          obtain rfl := Option.some.inj ho
          have e5 : f 5 = .pointer (some ⟨d, 0, none⟩) := (hd ⟨5, .data⟩ (by simp) rfl).2
          have hI' := hI; obtain ⟨cur', hH, hb, hsz, h0, h1⟩ := hI'; have q1 : w1.cell? ⟨d, 1, none⟩ = some (.slice (some ⟨gL, 0, none⟩) m.fl.length c) := Holds.cell hH.tail 1; have q2 : w1.cell? ⟨gL, k * 3 + 1, none⟩ = some (.slice B x.2.b.length c') := (Holds.cell hH (k * 3 + 1)).trans hb
          clear hd ho
          unfold wpOp
          refine Or.inl ?_
          simp only [fill, List.take_succ_cons, List.take_zero, Act.put, List.setIfInBounds_toArray, List.set_cons_zero, List.set_cons_succ, e5]
          unfold Oper.wp
          go_simp
          exact LeftBy.mk _ rfl (hI) (trivial) (rfl)
        | 7, _ =>
          obtain rfl := Option.some.inj ho
          have e6 : f 6 = .pointer (some ⟨d, 0, none⟩) := (hd ⟨6, .data⟩ (by simp) rfl).2
          have hI' := hI; obtain ⟨cur', hH, hb, hsz, h0, h1⟩ := hI'; have q1 : w1.cell? ⟨d, 1, none⟩ = some (.slice (some ⟨gL, 0, none⟩) m.fl.length c) := Holds.cell hH.tail 1; have q2 : w1.cell? ⟨gL, k * 3 + 1, none⟩ = some (.slice B x.2.b.length c') := (Holds.cell hH (k * 3 + 1)).trans hb
          clear hd ho
          unfold wpOp
          refine Or.inl ?_
          simp only [fill, List.take_succ_cons, List.take_zero, Act.put, List.setIfInBounds_toArray, List.set_cons_zero, List.set_cons_succ, e6]
          unfold Oper.wp
          go_simp
          exact LeftBy.mk _ rfl (hI) (trivial) (rfl)
        | 8, _ =>
          obtain rfl := Option.some.inj ho
          have e7 : f 7 = .pointer (some ⟨d, 1, none⟩) := (hd ⟨7, .data⟩ (by simp) rfl).2
          have hI' := hI; obtain ⟨cur', hH, hb, hsz, h0, h1⟩ := hI'; have q1 : w1.cell? ⟨d, 1, none⟩ = some (.slice (some ⟨gL, 0, none⟩) m.fl.length c) := Holds.cell hH.tail 1; have q2 : w1.cell? ⟨gL, k * 3 + 1, none⟩ = some (.slice B x.2.b.length c') := (Holds.cell hH (k * 3 + 1)).trans hb
          clear hd ho
          unfold wpOp
          refine Or.inl ?_
          simp only [fill, List.take_succ_cons, List.take_zero, Act.put, List.setIfInBounds_toArray, List.set_cons_zero, List.set_cons_succ, e7]
          unfold Oper.wp
          go_simp
          exact LeftBy.mk _ rfl (hI) (trivial) (rfl)
        | 9, _ =>
          obtain rfl := Option.some.inj ho
          have hI' := hI; obtain ⟨cur', hH, hb, hsz, h0, h1⟩ := hI'; have q1 : w1.cell? ⟨d, 1, none⟩ = some (.slice (some ⟨gL, 0, none⟩) m.fl.length c) := Holds.cell hH.tail 1; have q2 : w1.cell? ⟨gL, k * 3 + 1, none⟩ = some (.slice B x.2.b.length c') := (Holds.cell hH (k * 3 + 1)).trans hb
          clear hd ho
          unfold wpOp
          refine Or.inl ?_
          simp only [fill, List.take_succ_cons, List.take_zero, Act.put, List.setIfInBounds_toArray, List.set_cons_zero, List.set_cons_succ]
          unfold Oper.wp
          go_simp
          exact LeftBy.mk _ rfl (hI) (trivial) (rfl)
        | 10, _ =>
          obtain rfl := Option.some.inj ho
          have e8 : f 8 = .slice (some ⟨gL, 0, none⟩) m.fl.length c := (hd ⟨8, .data⟩ (by simp) rfl).2
          have e9 : f 9 = .int .i64 k := (hd ⟨9, .data⟩ (by simp) rfl).2
          have hI' := hI; obtain ⟨cur', hH, hb, hsz, h0, h1⟩ := hI'; have q1 : w1.cell? ⟨d, 1, none⟩ = some (.slice (some ⟨gL, 0, none⟩) m.fl.length c) := Holds.cell hH.tail 1; have q2 : w1.cell? ⟨gL, k * 3 + 1, none⟩ = some (.slice B x.2.b.length c') := (Holds.cell hH (k * 3 + 1)).trans hb
          clear hd ho
          unfold wpOp
          refine Or.inl ?_
          simp only [fill, List.take_succ_cons, List.take_zero, Act.put, List.setIfInBounds_toArray, List.set_cons_zero, List.set_cons_succ, e8, e9]
          unfold Oper.wp
          go_simp
          exact LeftBy.mk _ rfl (hI) (trivial) (rfl)
        | 11, _ =>
          obtain rfl := Option.some.inj ho
          have e10 : f 10 = .pointer (some ⟨gL, k * 3, none⟩) := (hd ⟨10, .data⟩ (by simp) rfl).2
          have hI' := hI; obtain ⟨cur', hH, hb, hsz, h0, h1⟩ := hI'; have q1 : w1.cell? ⟨d, 1, none⟩ = some (.slice (some ⟨gL, 0, none⟩) m.fl.length c) := Holds.cell hH.tail 1; have q2 : w1.cell? ⟨gL, k * 3 + 1, none⟩ = some (.slice B x.2.b.length c') := (Holds.cell hH (k * 3 + 1)).trans hb
          clear hd ho
          unfold wpOp
          refine Or.inl ?_
          simp only [fill, List.take_succ_cons, List.take_zero, Act.put, List.setIfInBounds_toArray, List.set_cons_zero, List.set_cons_succ, e10]
          unfold Oper.wp
          go_simp
          exact LeftBy.mk _ rfl (hI) (trivial) (rfl)
        | 12, _ =>
          obtain rfl := Option.some.inj ho
          have e11 : f 11 = .pointer (some ⟨gL, k * 3 + 1, none⟩) := (hd ⟨11, .data⟩ (by simp) rfl).2
          have hI' := hI; obtain ⟨cur', hH, hb, hsz, h0, h1⟩ := hI'; have q1 : w1.cell? ⟨d, 1, none⟩ = some (.slice (some ⟨gL, 0, none⟩) m.fl.length c) := Holds.cell hH.tail 1; have q2 : w1.cell? ⟨gL, k * 3 + 1, none⟩ = some (.slice B x.2.b.length c') := (Holds.cell hH (k * 3 + 1)).trans hb
          clear hd ho
          unfold wpOp
          refine Or.inl ?_
          simp only [fill, List.take_succ_cons, List.take_zero, Act.put, List.setIfInBounds_toArray, List.set_cons_zero, List.set_cons_succ, e11]
          unfold Oper.wp
          go_simp
          exact LeftBy.mk _ rfl (hI) (trivial) (rfl)
        | 13, _ =>
          obtain rfl := Option.some.inj ho
          have e12 : f 12 = (Value.slice B x.2.b.length c') := (hd ⟨12, .data⟩ (by simp) rfl).2
          have hI' := hI; obtain ⟨cur', hH, hb, hsz, h0, h1⟩ := hI'; have q1 : w1.cell? ⟨d, 1, none⟩ = some (.slice (some ⟨gL, 0, none⟩) m.fl.length c) := Holds.cell hH.tail 1; have q2 : w1.cell? ⟨gL, k * 3 + 1, none⟩ = some (.slice B x.2.b.length c') := (Holds.cell hH (k * 3 + 1)).trans hb
          clear hd ho
          unfold wpOp
          refine Or.inl ?_
          simp only [fill, List.take_succ_cons, List.take_zero, Act.put, List.setIfInBounds_toArray, List.set_cons_zero, List.set_cons_succ, e12]
          unfold Oper.wp
          go_simp
          exact LeftBy.mk _ rfl (hI) (trivial) (rfl)
        | 14, _ =>
          obtain rfl := Option.some.inj ho
          have e3 : f 3 = .slice (some ⟨gL, 0, none⟩) m.fl.length c := (hd ⟨3, .data⟩ (by simp) rfl).2
          have e4 : f 4 = .int .i64 k := (hd ⟨4, .data⟩ (by simp) rfl).2
          have hI' := hI; obtain ⟨cur', hH, hb, hsz, h0, h1⟩ := hI'; have q1 : w1.cell? ⟨d, 1, none⟩ = some (.slice (some ⟨gL, 0, none⟩) m.fl.length c) := Holds.cell hH.tail 1; have q2 : w1.cell? ⟨gL, k * 3 + 1, none⟩ = some (.slice B x.2.b.length c') := (Holds.cell hH (k * 3 + 1)).trans hb
          clear hd ho
          unfold wpOp
          refine Or.inl ?_
          simp only [fill, List.take_succ_cons, List.take_zero, Act.put, List.setIfInBounds_toArray, List.set_cons_zero, List.set_cons_succ, e3, e4]
          unfold Oper.wp
          go_simp
          exact LeftBy.mk _ rfl (hI) (trivial) (rfl)
        | 15, _ =>
          obtain rfl := Option.some.inj ho
          have e14 : f 14 = .pointer (some ⟨gL, k * 3, none⟩) := (hd ⟨14, .data⟩ (by simp) rfl).2
          have hI' := hI; obtain ⟨cur', hH, hb, hsz, h0, h1⟩ := hI'; have q1 : w1.cell? ⟨d, 1, none⟩ = some (.slice (some ⟨gL, 0, none⟩) m.fl.length c) := Holds.cell hH.tail 1; have q2 : w1.cell? ⟨gL, k * 3 + 1, none⟩ = some (.slice B x.2.b.length c') := (Holds.cell hH (k * 3 + 1)).trans hb
          clear hd ho
          unfold wpOp
          refine Or.inl ?_
          simp only [fill, List.take_succ_cons, List.take_zero, Act.put, List.setIfInBounds_toArray, List.set_cons_zero, List.set_cons_succ, e14]
          unfold Oper.wp
          go_simp
          exact LeftBy.mk _ rfl (hI) (trivial) (rfl)
        | 16, _ =>
          obtain rfl := Option.some.inj ho
          have e15 : f 15 = .pointer (some ⟨gL, k * 3 + 2, none⟩) := (hd ⟨15, .data⟩ (by simp) rfl).2
          have e13 : f 13 = .int .i64 x.2.b.length := (hd ⟨13, .data⟩ (by simp) rfl).2
          have hI' := hI; obtain ⟨cur', hH, hb, hsz, h0, h1⟩ := hI'; have q1 : w1.cell? ⟨d, 1, none⟩ = some (.slice (some ⟨gL, 0, none⟩) m.fl.length c) := Holds.cell hH.tail 1; have q2 : w1.cell? ⟨gL, k * 3 + 1, none⟩ = some (.slice B x.2.b.length c') := (Holds.cell hH (k * 3 + 1)).trans hb
          clear hd ho
          unfold wpOp
          refine Or.inl ?_
          simp only [fill, List.take_succ_cons, List.take_zero, Act.put, List.setIfInBounds_toArray, List.set_cons_zero, List.set_cons_succ, e15, e13]
          unfold Oper.wp
          have h16 : Ls 16 = false := hL
          obtain rfl := h0 h16
          have q3 : w1.cell? ⟨gL, k * 3 + 2, none⟩ = some cur'[k * 3 + 2] := (Holds.cell hH (k * 3 + 2)).trans (Array.getElem?_eq_getElem hsz)
          have q4 : w1.frozen? ⟨gL, k * 3 + 2, none⟩ = false := Holds.froz hH (k * 3 + 2)
          go_simp
          exact LeftBy.mk undef rfl ⟨_, Holds.set hH (k * 3 + 2) _, by rw [Array.getElem?_setIfInBounds_ne (by omega)]; exact hb, by simpa using hsz, fun h => (by cases h), fun _ => rfl⟩ trivial trivial
      · intro Ls f w1 hI hL hV
        have e0 : f 0 = .pointer (some ⟨d, 0, none⟩) := hV 0 (by decide) (by simp)
        have e1 : f 1 = .pointer (some ⟨d, 0, none⟩) := hV 1 (by decide) (by simp)
        have e2 : f 2 = .pointer (some ⟨d, 1, none⟩) := hV 2 (by decide) (by simp)
        have e3 : f 3 = .slice (some ⟨gL, 0, none⟩) m.fl.length c := hV 3 (by decide) (by simp)
        have e4 : f 4 = .int .i64 k := hV 4 (by decide) (by simp)
        have e5 : f 5 = .pointer (some ⟨d, 0, none⟩) := hV 5 (by decide) (by simp)
        have e6 : f 6 = .pointer (some ⟨d, 0, none⟩) := hV 6 (by decide) (by simp)
        have e7 : f 7 = .pointer (some ⟨d, 1, none⟩) := hV 7 (by decide) (by simp)
        have e8 : f 8 = .slice (some ⟨gL, 0, none⟩) m.fl.length c := hV 8 (by decide) (by simp)
        have e9 : f 9 = .int .i64 k := hV 9 (by decide) (by simp)
        have e10 : f 10 = .pointer (some ⟨gL, k * 3, none⟩) := hV 10 (by decide) (by simp)
        have e11 : f 11 = .pointer (some ⟨gL, k * 3 + 1, none⟩) := hV 11 (by decide) (by simp)
        have e12 : f 12 = (Value.slice B x.2.b.length c') := hV 12 (by decide) (by simp)
        have e13 : f 13 = .int .i64 x.2.b.length := hV 13 (by decide) (by simp)
        have e14 : f 14 = .pointer (some ⟨gL, k * 3, none⟩) := hV 14 (by decide) (by simp)
        have e15 : f 15 = .pointer (some ⟨gL, k * 3 + 2, none⟩) := hV 15 (by decide) (by simp)
        have e16 := hV 16 (by decide) (by simp)
        have hLL : ∀ i, i < 17 → Ls i = true := fun i hi => hL i hi (by simp at *; omega)
        clear hV hL
        simp only [fill, List.take_succ_cons, List.take_zero, List.drop_succ_cons, List.drop_zero, Act.put, List.setIfInBounds_toArray, List.set_cons_zero, List.set_cons_succ, e0, e1, e2, e3, e4, e5, e6, e7, e8, e9, e10, e11, e12, e13, e14, e15]
        obtain ⟨cur', hH, hb, hsz, h0, h1⟩ := hI
        obtain rfl := h1 (hLL 16 (by decide))
        have HHN := Lib.hid hH
        clear hH hb hsz h0 h1 hLL
        go_wp2_with fail
        go_ret
        refine ⟨rfl, (d, rO m (.slice (some ⟨gL, 0, none⟩) m.fl.length c)) :: ([(gL, .cells (cur.setIfInBounds (k * 3 + 2) (.int .i64 x.2.b.length)) 51 (0, 0))] ++ hf), ⟨.slice (some ⟨gL, 0, none⟩) m.fl.length c, [(gL, .cells (cur.setIfInBounds (k * 3 + 2) (.int .i64 x.2.b.length)) 51 (0, 0))], vs.set (k * 3 + 2) (.int .i64 x.2.b.length), hf, ?_, ?_, rfl⟩, HHN.out.perm (List.Perm.swap _ _ _)⟩
        · have := HP.out
          rw [show (setM s { x.2 with safe := x.2.b.length } m.fl).length = m.fl.length by simp [setM]]
          exact this
        · have := HSET.out
          rw [HX.out, HAT.out] at this
          exact this
end Go.Proofs.Ytocpelkgiebkjaa
