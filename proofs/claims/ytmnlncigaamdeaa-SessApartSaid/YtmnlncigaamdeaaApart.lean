/- What one client asks does not count for another one: the walk of SessApart. Conditions: each theorem's own. -/
import Derived.Test.YtmnlncigaamdeaaOnce
namespace Go.Proofs.Ytmnlncigaamdeaa
open Go.RowKit Go.Proofs.Ytmnlncigaamdeaa.Sp Go.Proofs.Ytmnlncigaamdeaa.K Go.Proofs.YtmnlncigaamdeaaW.PrintWords
set_option linter.unusedVariables false
set_option linter.unusedSimpArgs false
abbrev two (c1 c2 : Cli) : SM := ⟨5, 2, [(1, c1), (2, c2)]⟩
theorem wf2 : (Lit.int .i64 2).wf = true := by decide
theorem perm3 {α : Type} (a b c : List α) : (a ++ (b ++ c)).Perm (b ++ (a ++ c)) := by
  rw [← List.append_assoc, ← List.append_assoc]
  exact List.perm_append_comm.append_right c
theorem ask_1 (c1 c2 : Cli) (num : Int) (s : ByteArray) : ∃ r c, ask (two c1 c2) 1 num s = (r, two c c2) := by
  have hf : (two c1 c2).find 1 = some (1, c1) := rfl
  unfold ask
  rw [hf]
  simp only
  repeat' split
  all_goals first | exact ⟨_, c1, rfl⟩ | exact ⟨_, ⟨num, s, es, true⟩, rfl⟩
theorem answer_1 (c1 c2 : Cli) (num : Int) (s : ByteArray) : ∃ r c, answer (two c1 c2) 1 num s = (r, two c c2) := by
  have hf : (two c1 c2).find 1 = some (1, c1) := rfl
  unfold answer
  rw [hf]
  simp only
  split
  · exact ⟨_, ⟨c1.num, c1.what, s, false⟩, rfl⟩
  · exact ⟨_, c1, rfl⟩
theorem ask_2 (c2 : Cli) (num : Int) (s : ByteArray) : ∃ a b e c, ∀ c1, ask (two c1 c2) 2 num s = ((a, b, e), two c1 c) := by
  have hf : ∀ c1, (two c1 c2).find 2 = some (2, c2) := fun _ => rfl
  unfold ask
  simp only [hf]
  split
  · exact ⟨_, _, _, c2, fun _ => rfl⟩
  · split
    · exact ⟨_, _, _, c2, fun _ => rfl⟩
    · split
      · obtain ⟨⟨a, b, e⟩, h⟩ : ∃ r, r = again c2 s := ⟨_, rfl⟩
        exact ⟨a, b, e, c2, fun _ => by rw [h]⟩
      · split
        · exact ⟨_, _, _, c2, fun _ => rfl⟩
        · exact ⟨_, _, _, ⟨num, s, es, true⟩, fun _ => rfl⟩
theorem answer_2 (c2 : Cli) (num : Int) (s : ByteArray) : ∃ e c, ∀ c1, answer (two c1 c2) 2 num s = (e, two c1 c) := by
  have hf : ∀ c1, (two c1 c2).find 2 = some (2, c2) := fun _ => rfl
  unfold answer
  simp only [hf]
  split
  · exact ⟨_, ⟨c2.num, c2.what, s, false⟩, fun _ => rfl⟩
  · exact ⟨_, c2, fun _ => rfl⟩
def ApI (w : World) (g g2 wx : Nat) (x : S31) (c1 d1 c2 cs : Cli) (L : Nat → Bool) (w' : World) : Prop :=
  (L 11 = true → L 7 = true) ∧ ∃ hs ht, IsS g (two c1 (if L 7 then cs else c2)) hs ∧ IsS g2 (two d1 (if L 11 then cs else c2)) ht ∧ Holds w (hs ++ (ht ++ [(wx, xO x)])) w'
def RelA (w : World) (g g2 n : Nat) (i : Value) (wr : World) : Prop :=
  ∃ (k : Nat) (c1 d1 c2 : Cli) (h h' : Hp), k ≤ n ∧ i = .int .i64 k ∧ IsS g (two c1 c2) h ∧ IsS g2 (two d1 c2) h' ∧ Holds w (h ++ h') wr
set_option maxHeartbeats 4000000 in
set_option maxRecDepth 100000 in
theorem apart_walk (A : Option Addr) (cap : Nat) (l : List S31) (w : World) (hcap : l.length ≤ cap) (hl : Kd.C k31 w A l.length l) (hP : ∀ x ∈ l, P31 x) :
    Calls Try.prog 4 #[.slice A l.length cap] w fun e w' => e = .returned (.bool true) ∧ Below w.heap.size w w' := by
  by_cases hn : (60 : Int) < (l.length : Int)
  · go_enter Try.func4, Try.ntmps4
    go_wp2_with (go_at_call 7; refine (awake_calls _).mono ?_; rintro e w' ⟨rfl, hb⟩)
    go_ret
    exact ⟨rfl, by assumption⟩
  go_enter Try.func4, Try.ntmps4
  go_wp2_with fail
  refine (awake_calls _).mono ?_
  rintro e wa ⟨rfl, hb⟩
  have HA : Hid (Holds w [] wa) := Lib.hid (Holds.of_below hb)
  clear hb
  go_wp2_with fail
  refine (new_calls 5 (by omega) w wa [] HA.out).mono ?_
  rintro e w1 ⟨g, rfl, h, hI, hH⟩
  have HI := Lib.hid hI; have HH := Lib.hid hH
  clear hI hH HA
  go_wp2_with fail
  refine (new_calls 5 (by omega) w w1 (h ++ []) HH.out).mono ?_
  rintro e w2 ⟨g2, rfl, h', hI', hH⟩
  have HI' := Lib.hid hI'; have HH := Lib.hid (hH.perm (perm3 _ _ _))
  clear hI' hH
  go_wp2_with fail
  refine (open_calls g _ h _ w w2 (by decide) (by decide) HI.out HH.out).mono ?_
  rintro e w3 ⟨he, h3, hI, hH⟩
  have q : opened ⟨5, 0, []⟩ = ((1, 0), ⟨5, 1, [(1, z0)]⟩) := rfl
  rw [q] at he hI
  subst he
  have HI := Lib.hid hI; have HH := Lib.hid (hH.perm (perm3 _ _ _))
  clear q hI hH
  go_wp2_with fail
  refine (open_calls g2 _ h' _ w w3 (by decide) (by decide) HI'.out HH.out).mono ?_
  rintro e w4 ⟨he, h4, hI, hH⟩
  have q : opened ⟨5, 0, []⟩ = ((1, 0), ⟨5, 1, [(1, z0)]⟩) := rfl
  rw [q] at he hI
  subst he
  have HI' := Lib.hid hI; have HH := Lib.hid (hH.perm (perm3 _ _ _))
  clear q hI hH
  go_wp2_with fail
  refine (open_calls g _ h3 _ w w4 (by decide) (by decide) HI.out HH.out).mono ?_
  rintro e w5 ⟨he, h5, hI, hH⟩
  have q : opened ⟨5, 1, [(1, z0)]⟩ = ((2, 0), two z0 z0) := rfl
  rw [q] at he hI
  subst he
  have HI := Lib.hid hI; have HH := Lib.hid (hH.perm (perm3 _ _ _))
  clear q hI hH
  go_wp2_with fail
  refine (open_calls g2 _ h4 _ w w5 (by decide) (by decide) HI'.out HH.out).mono ?_
  rintro e w6 ⟨he, h6, hI, hH⟩
  have q : opened ⟨5, 1, [(1, z0)]⟩ = ((2, 0), two z0 z0) := rfl
  rw [q] at he hI
  subst he
  have HI' := Lib.hid hI; have HH := Lib.hid (hH.perm (perm3 _ _ _))
  clear q hI hH
  go_wp2_with fail
  go_loopw [7] (fun i wr => RelA w g g2 l.length i wr) (fun i _ => l.length - (intOf i).toNat)
  case atStart => exact ⟨0, z0, z0, z0, h5, h6, by omega, rfl, HI.out, HI'.out, by simpa using HH.out⟩
  case round =>
    obtain ⟨k, c1, d1, c2, hs, ht, hk, rfl, hI3, hI4, hH3⟩ := hrel
    have HI3 := Lib.hid hI3; have HI4 := Lib.hid hI4; have HH3 := Lib.hid hH3
    clear hI3 hI4 hH3 HI HI' HH
    by_cases hlt : k < l.length
    · obtain ⟨ad, rfl, q0, q1, q2, q3⟩ := at_T31 (Kd.C_below hl HH3.out.below) (k : Int) (by omega) (by omega)
      have hx : rd_T31 l (k : Int) ∈ l := by
        unfold rd_T31
        simp [hlt]
      have hPx := hP _ hx
      generalize rd_T31 l (k : Int) = x at q0 q1 q2 q3 hx hPx
      rw [Int.toNat_natCast] at q0 q1 q2 q3
      obtain ⟨xo, xi, xn, xs⟩ := x
      simp only at q0 q1 q2 q3
      have HX := Lib.hid (((HH3.out.alloc (xO ⟨xo, xi, xn, xs⟩)).perm (k := hs ++ (ht ++ [(wr.heap.size, xO ⟨xo, xi, xn, xs⟩)])) (by simpa using (List.perm_append_comm (l₁ := [(wr.heap.size, xO ⟨xo, xi, xn, xs⟩)]) (l₂ := hs ++ ht)))))
      by_cases hlen : 100 < (xs.size : Int)
      · go_wp2_with fail
        go_ret
        exact ⟨rfl, HX.out.below⟩
      by_cases hop : xo = 0
      · subst hop
        obtain ⟨r, c1', hq⟩ := ask_1 c1 c2 xn xs
        go_wp2_with fail
        refine (ask_calls g _ hs _ 1 xn xs w _ wf1 HI3.out HX.out).mono ?_
        rintro e w4 ⟨he, hs, hI, hH⟩
        rw [hq] at he hI
        simp only [ans] at he
        subst he
        have f1 : w4.cell? ⟨wr.heap.size, 1, none⟩ = some (.int .i64 xi) := hH.right.right.cell 1
        have f3 : w4.cell? ⟨wr.heap.size, 3, none⟩ = some (.string xs) := hH.right.right.cell 3
        have HI3 := Lib.hid hI; have HX := Lib.hid hH
        clear hq hI hH q0 q1 q2 q3
        obtain ⟨ra, rb, re, c2', hq⟩ := ask_2 c2 xi xs
        have HQ := Lib.hid hq
        clear hq
        go_wp2_with fail
        refine (ask_calls g _ hs _ 2 xi xs w _ wf2 HI3.out HX.out).mono ?_
        rintro e w5 ⟨he, hs, hI, hH⟩
        rw [HQ.out] at he hI
        simp only [ans] at he
        subst he
        have f1 : w5.cell? ⟨wr.heap.size, 1, none⟩ = some (.int .i64 xi) := hH.right.right.cell 1
        have f3 : w5.cell? ⟨wr.heap.size, 3, none⟩ = some (.string xs) := hH.right.right.cell 3
        have HI3 := Lib.hid hI; have HX := Lib.hid (hH.perm (perm3 _ _ _))
        clear hI hH
        go_wp2_with fail
        refine (ask_calls g2 _ ht _ 2 xi xs w _ wf2 HI4.out HX.out).mono ?_
        rintro e w6 ⟨he, ht, hI, hH⟩
        rw [HQ.out] at he hI
        simp only [ans] at he
        subst he
        have f0 : w6.cell? ⟨wr.heap.size, 0, none⟩ = some (.int .i64 0) := hH.right.right.cell 0
        have f1 : w6.cell? ⟨wr.heap.size, 1, none⟩ = some (.int .i64 xi) := hH.right.right.cell 1
        have HI4 := Lib.hid hI; have HX := Lib.hid (hH.perm (perm3 _ _ _))
        clear hI hH
        go_wp2_with fail
        go_quiet (fail)
        go_wp2_with fail
        go_roundw
        case rel => exact ⟨k + 1, c1', d1, c2', hs, ht, by omega, by go_num, HI3.out, HI4.out, (by have := HX.out.drewN nq; rw [← List.append_assoc] at this; exact this.left)⟩
        case measure => simp [intOf]; omega
      · have HOP := Lib.hid hop
        have hopb : (xo == 0) = false := by simpa using hop
        clear hop
        obtain ⟨r, c1', hq⟩ := answer_1 c1 c2 xn xs
        go_wp2_with fail
        refine (answer_calls g _ hs _ 1 xn xs w _ wf1 HI3.out HX.out).mono ?_
        rintro e w4 ⟨he, hs, hI, hH⟩
        rw [hq] at he hI
        subst he
        have f1 : w4.cell? ⟨wr.heap.size, 1, none⟩ = some (.int .i64 xi) := hH.right.right.cell 1
        have f3 : w4.cell? ⟨wr.heap.size, 3, none⟩ = some (.string xs) := hH.right.right.cell 3
        have HI3 := Lib.hid hI; have HX := Lib.hid hH
        clear hq hI hH q0 q1 q2 q3
        obtain ⟨ra, rb, re, c2', hq⟩ := ask_2 c2 xi xs
        have HQ := Lib.hid hq
        clear hq
        by_cases hop1 : xo = 1
        · subst hop1
          go_wp2_with fail
          refine (ask_calls g _ hs _ 2 xi xs w _ wf2 HI3.out HX.out).mono ?_
          rintro e w5 ⟨he, hs, hI, hH⟩
          rw [HQ.out] at he hI
          simp only [ans] at he
          subst he
          have f1 : w5.cell? ⟨wr.heap.size, 1, none⟩ = some (.int .i64 xi) := hH.right.right.cell 1
          have f3 : w5.cell? ⟨wr.heap.size, 3, none⟩ = some (.string xs) := hH.right.right.cell 3
          have HI3 := Lib.hid hI; have HX := Lib.hid (hH.perm (perm3 _ _ _))
          clear hI hH
          go_wp2_with fail
          refine (ask_calls g2 _ ht _ 2 xi xs w _ wf2 HI4.out HX.out).mono ?_
          rintro e w6 ⟨he, ht, hI, hH⟩
          rw [HQ.out] at he hI
          simp only [ans] at he
          subst he
          have f0 : w6.cell? ⟨wr.heap.size, 0, none⟩ = some (.int .i64 1) := hH.right.right.cell 0
          have f1 : w6.cell? ⟨wr.heap.size, 1, none⟩ = some (.int .i64 xi) := hH.right.right.cell 1
          have HI4 := Lib.hid hI; have HX := Lib.hid (hH.perm (perm3 _ _ _))
          clear hI hH
          go_wp2_with fail
          obtain ⟨er, cs, hq⟩ := answer_2 c2' xi ⟨#[114]⟩
          have HQ2 := Lib.hid hq
          clear hq f0 f1
          generalize wr.heap.size = wx at *
          refine wp_region_vals 14 (by kernel_rfl) (by kernel_rfl) (by kernel_rfl) (fun L w' => ApI w g g2 wx ⟨1, xi, xn, xs⟩ c1' d1 c2' cs L w') (fun w1 w2 => True) (fun i w v => match i with | 0 => v = .pointer (some ⟨wx, 0, none⟩) | 1 => v = .int .i64 1 | 2 => v = .bool true | 3 => v = .bool true | 4 => v = .pointer (some ⟨g, 0, none⟩) | 5 => v = .pointer (some ⟨wx, 1, none⟩) | 6 => v = .int .i64 xi | 7 => v = .int .i64 er | 8 => v = .pointer (some ⟨g2, 0, none⟩) | 9 => v = .pointer (some ⟨wx, 1, none⟩) | 10 => v = .int .i64 xi | 11 => v = .int .i64 er | 12 => v = .bool false | 13 => v = .bool false | _ => True) ⟨fun h => (by cases h), hs, ht, HI3.out, HI4.out, HX.out.drew⟩ ?_ ?_ ?_
          · intro i v w1 w2 hS h
            match i, h with
            | 0, h => exact h
            | 1, h => exact h
            | 2, h => exact h
            | 3, h => exact h
            | 4, h => exact h
            | 5, h => exact h
            | 6, h => exact h
            | 7, h => exact h
            | 8, h => exact h
            | 9, h => exact h
            | 10, h => exact h
            | 11, h => exact h
            | 12, h => exact h
            | 13, h => exact h
            | _ + 14, h => exact trivial
          · intro i o hi ho L f w1 hI hL hd
            match i, hi with
            | 0, _ =>
              obtain rfl := Option.some.inj ho
              have c0 : w1.cell? ⟨wx, 0, none⟩ = some (.int .i64 1) := (by obtain ⟨_, _, _, _, _, hH⟩ := hI; exact hH.right.right.cell 0); have c1' : w1.cell? ⟨wx, 1, none⟩ = some (.int .i64 xi) := (by obtain ⟨_, _, _, _, _, hH⟩ := hI; exact hH.right.right.cell 1)
              clear hd ho
              unfold wpOp
              refine Or.inl ?_
              simp only [fill, List.take_succ_cons, List.take_zero, Act.put, List.setIfInBounds_toArray, List.set_cons_zero, List.set_cons_succ]
              unfold Oper.wp
              go_simp
              exact LeftBy.mk _ rfl (hI) (trivial) (rfl)
            | 1, _ =>
              obtain rfl := Option.some.inj ho
              have e0 : f 0 = .pointer (some ⟨wx, 0, none⟩) := (hd ⟨0, .data⟩ (by simp) rfl).2
              have c0 : w1.cell? ⟨wx, 0, none⟩ = some (.int .i64 1) := (by obtain ⟨_, _, _, _, _, hH⟩ := hI; exact hH.right.right.cell 0); have c1' : w1.cell? ⟨wx, 1, none⟩ = some (.int .i64 xi) := (by obtain ⟨_, _, _, _, _, hH⟩ := hI; exact hH.right.right.cell 1)
              clear hd ho
              unfold wpOp
              refine Or.inl ?_
              simp only [fill, List.take_succ_cons, List.take_zero, Act.put, List.setIfInBounds_toArray, List.set_cons_zero, List.set_cons_succ, e0]
              unfold Oper.wp
              go_simp
              exact LeftBy.mk _ rfl (hI) (trivial) (rfl)
            | 2, _ =>
              obtain rfl := Option.some.inj ho
              have e1 : f 1 = .int .i64 1 := (hd ⟨1, .data⟩ (by simp) rfl).2
              have c0 : w1.cell? ⟨wx, 0, none⟩ = some (.int .i64 1) := (by obtain ⟨_, _, _, _, _, hH⟩ := hI; exact hH.right.right.cell 0); have c1' : w1.cell? ⟨wx, 1, none⟩ = some (.int .i64 xi) := (by obtain ⟨_, _, _, _, _, hH⟩ := hI; exact hH.right.right.cell 1)
              clear hd ho
              unfold wpOp
              refine Or.inl ?_
              simp only [fill, List.take_succ_cons, List.take_zero, Act.put, List.setIfInBounds_toArray, List.set_cons_zero, List.set_cons_succ, e1]
              unfold Oper.wp
              go_simp
              exact LeftBy.mk _ rfl (hI) (trivial) (rfl)
            | 3, _ =>
              obtain rfl := Option.some.inj ho
              have e2 : f 2 = .bool true := (hd ⟨2, .data⟩ (by simp) rfl).2
              have c0 : w1.cell? ⟨wx, 0, none⟩ = some (.int .i64 1) := (by obtain ⟨_, _, _, _, _, hH⟩ := hI; exact hH.right.right.cell 0); have c1' : w1.cell? ⟨wx, 1, none⟩ = some (.int .i64 xi) := (by obtain ⟨_, _, _, _, _, hH⟩ := hI; exact hH.right.right.cell 1)
              clear hd ho
              unfold wpOp
              refine Or.inl ?_
              simp only [fill, List.take_succ_cons, List.take_zero, Act.put, List.setIfInBounds_toArray, List.set_cons_zero, List.set_cons_succ, e2]
              unfold Oper.wp
              go_simp
              exact LeftBy.mk _ rfl (hI) (trivial) (rfl)
            | 4, _ =>
              obtain rfl := Option.some.inj ho
              have e3 : f 3 = .bool true := (hd ⟨3, .guard⟩ (by simp) rfl).2
              have c0 : w1.cell? ⟨wx, 0, none⟩ = some (.int .i64 1) := (by obtain ⟨_, _, _, _, _, hH⟩ := hI; exact hH.right.right.cell 0); have c1' : w1.cell? ⟨wx, 1, none⟩ = some (.int .i64 xi) := (by obtain ⟨_, _, _, _, _, hH⟩ := hI; exact hH.right.right.cell 1)
              clear hd ho
              unfold wpOp
              simp only [fill, List.take_succ_cons, List.take_zero, Act.put, List.setIfInBounds_toArray, List.set_cons_zero, List.set_cons_succ, e3]
              refine Or.inl ?_
              unfold Oper.wp
              go_simp
              exact LeftBy.mk _ rfl (hI) (trivial) (rfl)
            | 5, _ =>
              obtain rfl := Option.some.inj ho
              have e3 : f 3 = .bool true := (hd ⟨3, .guard⟩ (by simp) rfl).2
              have c0 : w1.cell? ⟨wx, 0, none⟩ = some (.int .i64 1) := (by obtain ⟨_, _, _, _, _, hH⟩ := hI; exact hH.right.right.cell 0); have c1' : w1.cell? ⟨wx, 1, none⟩ = some (.int .i64 xi) := (by obtain ⟨_, _, _, _, _, hH⟩ := hI; exact hH.right.right.cell 1)
              clear hd ho
              unfold wpOp
              simp only [fill, List.take_succ_cons, List.take_zero, Act.put, List.setIfInBounds_toArray, List.set_cons_zero, List.set_cons_succ, e3]
              refine Or.inl ?_
              unfold Oper.wp
              go_simp
              exact LeftBy.mk _ rfl (hI) (trivial) (rfl)
            | 6, _ =>
              obtain rfl := Option.some.inj ho
              have e5 : f 5 = .pointer (some ⟨wx, 1, none⟩) := (hd ⟨5, .data⟩ (by simp) rfl).2
              have e3 : f 3 = .bool true := (hd ⟨3, .guard⟩ (by simp) rfl).2
              have c0 : w1.cell? ⟨wx, 0, none⟩ = some (.int .i64 1) := (by obtain ⟨_, _, _, _, _, hH⟩ := hI; exact hH.right.right.cell 0); have c1' : w1.cell? ⟨wx, 1, none⟩ = some (.int .i64 xi) := (by obtain ⟨_, _, _, _, _, hH⟩ := hI; exact hH.right.right.cell 1)
              clear hd ho
              unfold wpOp
              simp only [fill, List.take_succ_cons, List.take_zero, Act.put, List.setIfInBounds_toArray, List.set_cons_zero, List.set_cons_succ, e5, e3]
              refine Or.inl ?_
              unfold Oper.wp
              go_simp
              exact LeftBy.mk _ rfl (hI) (trivial) (rfl)
            | 7, _ =>
              obtain rfl := Option.some.inj ho
              have e4 : f 4 = .pointer (some ⟨g, 0, none⟩) := (hd ⟨4, .data⟩ (by simp) rfl).2
              have e6 : f 6 = .int .i64 xi := (hd ⟨6, .data⟩ (by simp) rfl).2
              have e3 : f 3 = .bool true := (hd ⟨3, .guard⟩ (by simp) rfl).2
              have c0 : w1.cell? ⟨wx, 0, none⟩ = some (.int .i64 1) := (by obtain ⟨_, _, _, _, _, hH⟩ := hI; exact hH.right.right.cell 0); have c1' : w1.cell? ⟨wx, 1, none⟩ = some (.int .i64 xi) := (by obtain ⟨_, _, _, _, _, hH⟩ := hI; exact hH.right.right.cell 1)
              clear hd ho
              unfold wpOp
              simp only [fill, List.take_succ_cons, List.take_zero, Act.put, List.setIfInBounds_toArray, List.set_cons_zero, List.set_cons_succ, e4, e6, e3]
              refine Or.inl ?_
              unfold Oper.wp
              go_simp
              have h7 : L 7 = false := hL
              have h11 : L 11 = false := by cases hh : L 11; rfl; exact absurd (hI.1 hh) (by rw [h7]; decide)
              obtain ⟨hs, ht, hIs, hIt, hH⟩ := hI.2
              rw [h7, if_neg (by decide)] at hIs
              have hH2 := hH
              refine (answer_calls g _ hs (ht ++ [(wx, xO ⟨1, xi, xn, xs⟩)]) 2 xi ⟨#[114]⟩ w w1 wf2 hIs hH2).mono ?_
              rintro e w3 ⟨he, h3, hI3, hH3⟩
              rw [HQ2.out] at he hI3
              subst he
              exact LeftBy.mk _ rfl ⟨fun _ => rfl, h3, ht, hI3, hIt, hH3⟩ trivial rfl
            | 8, _ =>
              obtain rfl := Option.some.inj ho
              have e3 : f 3 = .bool true := (hd ⟨3, .guard⟩ (by simp) rfl).2
              have c0 : w1.cell? ⟨wx, 0, none⟩ = some (.int .i64 1) := (by obtain ⟨_, _, _, _, _, hH⟩ := hI; exact hH.right.right.cell 0); have c1' : w1.cell? ⟨wx, 1, none⟩ = some (.int .i64 xi) := (by obtain ⟨_, _, _, _, _, hH⟩ := hI; exact hH.right.right.cell 1)
              clear hd ho
              unfold wpOp
              simp only [fill, List.take_succ_cons, List.take_zero, Act.put, List.setIfInBounds_toArray, List.set_cons_zero, List.set_cons_succ, e3]
              refine Or.inl ?_
              unfold Oper.wp
              go_simp
              exact LeftBy.mk _ rfl (hI) (trivial) (rfl)
            | 9, _ =>
              obtain rfl := Option.some.inj ho
              have e3 : f 3 = .bool true := (hd ⟨3, .guard⟩ (by simp) rfl).2
              have c0 : w1.cell? ⟨wx, 0, none⟩ = some (.int .i64 1) := (by obtain ⟨_, _, _, _, _, hH⟩ := hI; exact hH.right.right.cell 0); have c1' : w1.cell? ⟨wx, 1, none⟩ = some (.int .i64 xi) := (by obtain ⟨_, _, _, _, _, hH⟩ := hI; exact hH.right.right.cell 1)
              clear hd ho
              unfold wpOp
              simp only [fill, List.take_succ_cons, List.take_zero, Act.put, List.setIfInBounds_toArray, List.set_cons_zero, List.set_cons_succ, e3]
              refine Or.inl ?_
              unfold Oper.wp
              go_simp
              exact LeftBy.mk _ rfl (hI) (trivial) (rfl)
            | 10, _ =>
              obtain rfl := Option.some.inj ho
              have e9 : f 9 = .pointer (some ⟨wx, 1, none⟩) := (hd ⟨9, .data⟩ (by simp) rfl).2
              have e3 : f 3 = .bool true := (hd ⟨3, .guard⟩ (by simp) rfl).2
              have c0 : w1.cell? ⟨wx, 0, none⟩ = some (.int .i64 1) := (by obtain ⟨_, _, _, _, _, hH⟩ := hI; exact hH.right.right.cell 0); have c1' : w1.cell? ⟨wx, 1, none⟩ = some (.int .i64 xi) := (by obtain ⟨_, _, _, _, _, hH⟩ := hI; exact hH.right.right.cell 1)
              clear hd ho
              unfold wpOp
              simp only [fill, List.take_succ_cons, List.take_zero, Act.put, List.setIfInBounds_toArray, List.set_cons_zero, List.set_cons_succ, e9, e3]
              refine Or.inl ?_
              unfold Oper.wp
              go_simp
              exact LeftBy.mk _ rfl (hI) (trivial) (rfl)
            | 11, _ =>
              obtain rfl := Option.some.inj ho
              have e8 : f 8 = .pointer (some ⟨g2, 0, none⟩) := (hd ⟨8, .data⟩ (by simp) rfl).2
              have e10 : f 10 = .int .i64 xi := (hd ⟨10, .data⟩ (by simp) rfl).2
              have e7 : f 7 = .int .i64 er := (hd ⟨7, .chain⟩ (by simp) rfl).2
              have h7L : L 7 = true := (hd ⟨7, .chain⟩ (by simp) rfl).1
              have e3 : f 3 = .bool true := (hd ⟨3, .guard⟩ (by simp) rfl).2
              have c0 : w1.cell? ⟨wx, 0, none⟩ = some (.int .i64 1) := (by obtain ⟨_, _, _, _, _, hH⟩ := hI; exact hH.right.right.cell 0); have c1' : w1.cell? ⟨wx, 1, none⟩ = some (.int .i64 xi) := (by obtain ⟨_, _, _, _, _, hH⟩ := hI; exact hH.right.right.cell 1)
              clear hd ho
              unfold wpOp
              simp only [fill, List.take_succ_cons, List.take_zero, Act.put, List.setIfInBounds_toArray, List.set_cons_zero, List.set_cons_succ, e8, e10, e7, e3]
              refine Or.inl ?_
              unfold Oper.wp
              go_simp
              have h11 : L 11 = false := hL
              have h7 : L 7 = true := h7L
              obtain ⟨hs, ht, hIs, hIt, hH⟩ := hI.2
              rw [h11, if_neg (by decide)] at hIt
              have hH2 : Holds w (ht ++ (hs ++ [(wx, xO ⟨1, xi, xn, xs⟩)])) w1 := hH.perm (perm3 _ _ _)
              refine (answer_calls g2 _ ht (hs ++ [(wx, xO ⟨1, xi, xn, xs⟩)]) 2 xi ⟨#[114]⟩ w w1 wf2 hIt hH2).mono ?_
              rintro e w3 ⟨he, h3, hI3, hH3⟩
              rw [HQ2.out] at he hI3
              subst he
              exact LeftBy.mk _ rfl ⟨fun _ => h7, hs, h3, hIs, hI3, hH3.perm (perm3 _ _ _)⟩ trivial rfl
            | 12, _ =>
              obtain rfl := Option.some.inj ho
              have e7 : f 7 = .int .i64 er := (hd ⟨7, .data⟩ (by simp) rfl).2
              have e11 : f 11 = .int .i64 er := (hd ⟨11, .data⟩ (by simp) rfl).2
              have e3 : f 3 = .bool true := (hd ⟨3, .guard⟩ (by simp) rfl).2
              have c0 : w1.cell? ⟨wx, 0, none⟩ = some (.int .i64 1) := (by obtain ⟨_, _, _, _, _, hH⟩ := hI; exact hH.right.right.cell 0); have c1' : w1.cell? ⟨wx, 1, none⟩ = some (.int .i64 xi) := (by obtain ⟨_, _, _, _, _, hH⟩ := hI; exact hH.right.right.cell 1)
              clear hd ho
              unfold wpOp
              simp only [fill, List.take_succ_cons, List.take_zero, Act.put, List.setIfInBounds_toArray, List.set_cons_zero, List.set_cons_succ, e7, e11, e3]
              refine Or.inl ?_
              unfold Oper.wp
              go_simp
              exact LeftBy.mk _ rfl (hI) (trivial) (rfl)
            | 13, _ =>
              obtain rfl := Option.some.inj ho
              have e3 : f 3 = .bool true := (hd ⟨3, .data⟩ (by simp) rfl).2
              have e12 : f 12 = .bool false := (hd ⟨12, .data⟩ (by simp) rfl).2
              have c0 : w1.cell? ⟨wx, 0, none⟩ = some (.int .i64 1) := (by obtain ⟨_, _, _, _, _, hH⟩ := hI; exact hH.right.right.cell 0); have c1' : w1.cell? ⟨wx, 1, none⟩ = some (.int .i64 xi) := (by obtain ⟨_, _, _, _, _, hH⟩ := hI; exact hH.right.right.cell 1)
              clear hd ho
              unfold wpOp
              refine Or.inl ?_
              simp only [fill, List.take_succ_cons, List.take_zero, Act.put, List.setIfInBounds_toArray, List.set_cons_zero, List.set_cons_succ, e3, e12]
              unfold Oper.wp
              go_simp
              exact LeftBy.mk _ rfl (hI) (trivial) (rfl)
          · intro L f w1 hI hL hV
            have e0 : f 0 = .pointer (some ⟨wx, 0, none⟩) := hV 0 (by decide) (by simp)
            have e1 : f 1 = .int .i64 1 := hV 1 (by decide) (by simp)
            have e2 : f 2 = .bool true := hV 2 (by decide) (by simp)
            have e3 : f 3 = .bool true := hV 3 (by decide) (by simp)
            have e4 : f 4 = .pointer (some ⟨g, 0, none⟩) := hV 4 (by decide) (by simp)
            have e5 : f 5 = .pointer (some ⟨wx, 1, none⟩) := hV 5 (by decide) (by simp)
            have e6 : f 6 = .int .i64 xi := hV 6 (by decide) (by simp)
            have e7 : f 7 = .int .i64 er := hV 7 (by decide) (by simp)
            have e8 : f 8 = .pointer (some ⟨g2, 0, none⟩) := hV 8 (by decide) (by simp)
            have e9 : f 9 = .pointer (some ⟨wx, 1, none⟩) := hV 9 (by decide) (by simp)
            have e10 : f 10 = .int .i64 xi := hV 10 (by decide) (by simp)
            have e11 : f 11 = .int .i64 er := hV 11 (by decide) (by simp)
            have e12 : f 12 = .bool false := hV 12 (by decide) (by simp)
            have e13 : f 13 = .bool false := hV 13 (by decide) (by simp)
            have hLL : ∀ i, i < 14 → L i = true := fun i hi => hL i hi (by simpa using hi)
            clear hV hL
            simp only [fill, List.take_succ_cons, List.take_zero, List.drop_succ_cons, List.drop_zero, Act.put, List.setIfInBounds_toArray, List.set_cons_zero, List.set_cons_succ, e0, e1, e2, e3, e4, e5, e6, e7, e8, e9, e10, e11, e12, e13]
            obtain ⟨_, hs, ht, hIs, hIt, hH⟩ := hI
            rw [hLL 7 (by decide), if_pos rfl] at hIs
            rw [hLL 11 (by decide), if_pos rfl] at hIt
            go_wp2_with fail
            go_roundw
            case rel => exact ⟨k + 1, c1', d1, cs, hs, ht, by omega, by go_num, hIs, hIt, (by rw [← List.append_assoc] at hH; exact hH.left)⟩
            case measure => simp [intOf]; omega
        
        · have hop1b : (xo == 1) = false := by simpa using hop1
          have HOP1 := Lib.hid hop1
          clear hop1
          go_wp2_with fail
          refine (ask_calls g _ hs _ 2 xi xs w _ wf2 HI3.out HX.out).mono ?_
          rintro e w5 ⟨he, hs, hI, hH⟩
          rw [HQ.out] at he hI
          simp only [ans] at he
          subst he
          have f1 : w5.cell? ⟨wr.heap.size, 1, none⟩ = some (.int .i64 xi) := hH.right.right.cell 1
          have f3 : w5.cell? ⟨wr.heap.size, 3, none⟩ = some (.string xs) := hH.right.right.cell 3
          have HI3 := Lib.hid hI; have HX := Lib.hid (hH.perm (perm3 _ _ _))
          clear hI hH
          go_wp2_with fail
          refine (ask_calls g2 _ ht _ 2 xi xs w _ wf2 HI4.out HX.out).mono ?_
          rintro e w6 ⟨he, ht, hI, hH⟩
          rw [HQ.out] at he hI
          simp only [ans] at he
          subst he
          have f0 : w6.cell? ⟨wr.heap.size, 0, none⟩ = some (.int .i64 xo) := hH.right.right.cell 0
          have f1 : w6.cell? ⟨wr.heap.size, 1, none⟩ = some (.int .i64 xi) := hH.right.right.cell 1
          have HI4 := Lib.hid hI; have HX := Lib.hid (hH.perm (perm3 _ _ _))
          clear hI hH
          go_wp2_with fail
          go_quiet (fail)
          go_wp2_with fail
          go_roundw
          case rel => exact ⟨k + 1, c1', d1, c2', hs, ht, by omega, by go_num, HI3.out, HI4.out, (by have := HX.out.drewN nq; rw [← List.append_assoc] at this; exact this.left)⟩
          case measure => simp [intOf]; omega
    · go_wp2
      go_ret
      exact ⟨rfl, HH3.out.below⟩
end Go.Proofs.Ytmnlncigaamdeaa
