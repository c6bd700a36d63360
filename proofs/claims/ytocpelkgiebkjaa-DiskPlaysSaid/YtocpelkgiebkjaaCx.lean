/- A disk's Cut: a contract for every world. Conditions: the theorem's own. -/
import Derived.Test.YtocpelkgiebkjaaAw
import Derived.Test.YtocpelkgiebkjaaRh
namespace Go.Proofs.Ytocpelkgiebkjaa
open Go.RowKit Go.Proofs.Ytocpelkgiebkjaa.Sp
set_option linter.unusedVariables false
set_option linter.unusedSimpArgs false
def cutM (m : DM) (s : ByteArray) (n : Int) : Int × DM := match findM m s with
  | (e, some f) => if n < 0 ∨ (f.b.length : Int) < n then (1, m) else (e, { m with fl := setM s ⟨f.b.take n.toNat, min f.safe n.toNat⟩ m.fl })
  | (e, none) => (e, m)
theorem mn_nat (a b : Nat) : mn (a : Int) (b : Int) = ((min a b : Nat) : Int) := by
  unfold mn
  split <;> omega
def flQ (v : Value) (s : Int) : Obj := .cells #[v, .int .i64 s] 59 (0, 0)
def NewRow (W : World) (n : Nat) (d : List UInt8) (v : Value) (w' : World) : Prop := ∃ hv, RowB 5 1 v n (bv d) hv ∧ ∀ x ∈ hv, w'.heap[x.1]? = some x.2 ∧ W.heap.size ≤ x.1
def CutS (fb : Nat) (w1 w2 : World) : Prop := w1.heap.size ≤ w2.heap.size ∧ ∀ k, k ≠ fb → k < w1.heap.size → w2.heap[k]? = w1.heap[k]?
theorem CutS.refl (fb : Nat) (w : World) : CutS fb w w := ⟨Nat.le_refl _, fun _ _ _ => rfl⟩
theorem CutS.below {fb : Nat} {w w' : World} (h : Below w.heap.size w w') : CutS fb w w' := ⟨h.size, fun k _ hk => h.block k hk⟩
theorem CutS.set {fb i : Nat} {w : World} {v : Value} : CutS fb w (w.setCell ⟨fb, i, none⟩ v) := ⟨by simp, fun k hk _ => heap_setCell_other w _ k v hk⟩
theorem NewRow.move {W w1 w2 : World} {n fb : Nat} {d : List UInt8} {v : Value} (h : NewRow W n d v w1) (S : CutS fb w1 w2) (hfb : fb < W.heap.size) : NewRow W n d v w2 := by
  obtain ⟨hv, R, hx⟩ := h
  exact ⟨hv, R, fun x hm => ⟨(S.2 _ (by have := (hx x hm).2; omega) (lt_of_block (hx x hm).1)).trans (hx x hm).1, (hx x hm).2⟩⟩
def CutI (w0 W : World) (fb n : Nat) (d : List UInt8) (old : Value) (safe snew : Int) (rest : Hp) (L : Nat → Bool) (w' : World) : Prop :=
  (L 17 = true → L 5 = true ∧ L 8 = true) ∧ (L 20 = true → L 12 = true) ∧ W.heap.size ≤ w'.heap.size ∧ ∃ r s, Holds w0 ((fb, flQ r s) :: rest) w' ∧ (L 17 = false → r = old) ∧ (L 20 = false → s = safe) ∧ (L 17 = true → NewRow W n d r w') ∧ (L 20 = true → s = snew)
set_option maxRecDepth 100000 in
set_option maxHeartbeats 4000000 in
theorem cut_calls (g : Nat) (m : DM) (h F : Hp) (s : ByteArray) (n : Int) (w0 w : World) (hs : s.size ≤ 9223372036854775807) (hI : IsD g m h) (H : Holds w0 (h ++ F) w) :
    Calls Try.prog 18 #[.pointer (some ⟨g, 0, none⟩), .string s, .int .i64 n] w fun e w' => e = .returned (.int .i64 (cutM m s n).1) ∧ ∃ h', IsD g (cutM m s n).2 h' ∧ Holds w0 (h' ++ F) w' := by
  obtain ⟨mb, o, L, hf, hM, hfl, hF, rfl, hok⟩ := hI
  have HM := Lib.hid hM; have HF := Lib.hid hF; have HOK := Lib.hid hok; have HFL := Lib.hid hfl
  have HA := Lib.hid (apart_abs (L := L) (by rw [← hfl]; exact hok.apart))
  have HI := Lib.hid (show IsD g m _ from ⟨mb, o, L, hf, hM, hfl, hF, rfl, hok⟩)
  have htm : tot L = totM m.fl := by rw [hfl]; exact tot_abs L
  have HT := Lib.hid (show tot L ≤ 1000000000 by have := hok.tot; have := hok.room; omega)
  have HH := Lib.hid H
  have hfd := found s hfl
  clear hM hfl hF hok H htm
  rcases hfd with ⟨er, he0, hq, hq2⟩ | ⟨x, hfx, hq, hq2⟩
  · have q : cutM m s n = (er, m) := by unfold cutM; rw [hq2]
    rw [q]
    clear q
    have her : (er == 0) = false := by simpa using he0
    go_enter Try.func18, Try.ntmps18
    go_wp2_with fail
    refine (find_calls g m.room m.lives m.power mb o L s (hf ++ F) w0 w hs HM.out HH.out).mono ?_
    rintro e w' ⟨he, hb⟩
    rw [hq] at he
    simp only [ptrOf] at he
    subst he
    have HH2 := Lib.hid (HH.out.grow hb)
    clear hb hq hq2
    go_wp2_with fail
    go_ret
    exact ⟨rfl, _, HI.out, HH2.out⟩
  have hq3 : cutM m s n = if n < 0 ∨ (x.2.2.b.length : Int) < n then (1, m) else (0, { m with fl := setM s ⟨x.2.2.b.take n.toNat, min x.2.2.safe n.toNat⟩ m.fl }) := by unfold cutM; rw [hq2]
  have HFX := Lib.hid hfx
  clear hfx hq2
  obtain ⟨L1, L2, hL, hxs, _⟩ := find_split HFX.out
  have hF2 := HF.out
  rw [hL] at hF2
  obtain ⟨f1, fx, f2, k1, ⟨v, hrw, hrow, rfl⟩, k2, hfeq⟩ := FilesR.mid.mp hF2
  have hlen : x.2.2.b.length ≤ 1000000000 := by
    have := tot_mid L1 L2 x
    rw [← hL] at this
    have := HT.out
    omega
  obtain ⟨A2, c2, hv2, hlc, hc2⟩ := RowB.form hrow
  subst hv2
  have HR := Lib.hid hrow; have HL := Lib.hid hL; have HXS := Lib.hid hxs; have K1 := Lib.hid k1; have K2 := Lib.hid k2; have HFE := Lib.hid hfeq
  clear hL hxs hF2 hfeq hrow k1 k2
  have hH3 : ∀ w', Below w.heap.size w w' → Holds w0 ((x.2.1, flQ (.slice A2 x.2.2.b.length c2) x.2.2.safe) :: (hrw ++ ((g, dskO m.room m.lives m.power mb) :: (mb, o) :: (f1 ++ (f2 ++ F))))) w' := fun w' hb => (HH.out.grow hb).perm (by rw [HFE.out]; exact (by classical rw [List.perm_iff_count]; intro a; simp only [flQ, flO, flC, List.count_append, List.count_cons, List.count_nil]; omega))
  have HH3 := Lib.hid hH3
  clear hH3
  by_cases hn0 : n < 0
  · rw [hq3, if_pos (.inl hn0)]
    clear hq3
    go_enter Try.func18, Try.ntmps18
    go_wp2_with fail
    refine (find_calls g m.room m.lives m.power mb o L s (hf ++ F) w0 w hs HM.out HH.out).mono ?_
    rintro e w' ⟨he, hb⟩
    rw [hq] at he
    simp only [ptrOf] at he
    subst he
    have HH2 := Lib.hid (HH.out.grow hb)
    have d0 : w'.cell? ⟨x.2.1, 0, none⟩ = some (.slice A2 x.2.2.b.length c2) := Holds.cell (HH3.out w' hb) 0
    clear hb hq
    go_wp2_with fail
    go_ret
    exact ⟨rfl, _, HI.out, HH2.out⟩
  by_cases hn1 : (x.2.2.b.length : Int) < n
  · rw [hq3, if_pos (.inr hn1)]
    clear hq3
    go_enter Try.func18, Try.ntmps18
    go_wp2_with fail
    refine (find_calls g m.room m.lives m.power mb o L s (hf ++ F) w0 w hs HM.out HH.out).mono ?_
    rintro e w' ⟨he, hb⟩
    rw [hq] at he
    simp only [ptrOf] at he
    subst he
    have HH2 := Lib.hid (HH.out.grow hb)
    have d0 : w'.cell? ⟨x.2.1, 0, none⟩ = some (.slice A2 x.2.2.b.length c2) := Holds.cell (HH3.out w' hb) 0
    clear hb hq
    go_wp2_with fail
    go_ret
    exact ⟨rfl, _, HI.out, HH2.out⟩
  rw [hq3, if_neg (by omega)]
  clear hq3
  obtain ⟨k, rfl⟩ : ∃ k : Nat, (k : Int) = n := ⟨n.toNat, by omega⟩
  have hk : k ≤ x.2.2.b.length := by omega
  have hkc : (k : Int) ≤ c2 := by omega
  rw [Int.toNat_natCast]
  cases A2 with
  | none =>
    have hc0 : c2 = 0 := hc2 rfl
    have hb0 : x.2.2.b.length = 0 := by omega
    have hs0' : x.2.2.safe = 0 := by
      have := HOK.out.safe (x.1, x.2.2) (by rw [HFL.out, HL.out]; simp [absL])
      simp only at this
      omega
    obtain rfl : k = 0 := by omega
    have hk0 : 0 ≤ x.2.2.b.length := Nat.zero_le _
    go_enter Try.func18, Try.ntmps18
    go_wp2_with fail
    refine (find_calls g m.room m.lives m.power mb o L s (hf ++ F) w0 w hs HM.out HH.out).mono ?_
    rintro e w5 ⟨he, hb⟩
    rw [hq] at he
    simp only [ptrOf] at he
    subst he
    have H4 := HH3.out w5 hb
    have e0 : flQ (.slice none x.2.2.b.length c2) (x.2.2.safe : Int) = flQ (.slice none 0 0) 0 := by rw [hb0, hc0, hs0']; rfl
    rw [e0] at H4
    have d0 : w5.cell? ⟨x.2.1, 0, none⟩ = some (.slice none 0 0) := Holds.cell H4 0
    have HH4 := Lib.hid H4
    have HZ := Lib.hid hb0
    clear hb hq H4 e0 hs0' hb0 hk hkc hlc hn1 hlen
    go_wp2_with fail
    have hfb : x.2.1 < w5.heap.size := HH4.out.lt
    refine wp_region_vals2 21 (by kernel_rfl) (by kernel_rfl) (by kernel_rfl) (fun Ls w' => CutI w0 w5 x.2.1 0 (x.2.2.b.take 0) (.slice none 0 0) 0 0 (hrw ++ ((g, dskO m.room m.lives m.power mb) :: (mb, o) :: (f1 ++ (f2 ++ F)))) Ls w') (fun w1 w2 => CutS x.2.1 w1 w2) (fun i w v => match i with | 0 => v = .pointer (some ⟨x.2.1, 0, none⟩) | 1 => v = .pointer (some ⟨x.2.1, 0, none⟩) | 2 => v = .pointer (some ⟨x.2.1, 0, none⟩) | 3 => v = .pointer (some ⟨x.2.1, 0, none⟩) | 4 => v = .pointer (some ⟨x.2.1, 0, none⟩) | 5 => v = .slice none 0 0 | 6 => v = .int .i64 0 | 7 => v = .slice none 0 0 | 8 => NewRow w5 0 (x.2.2.b.take 0) v w | 9 => v = .pointer (some ⟨x.2.1, 0, none⟩) | 10 => v = .pointer (some ⟨x.2.1, 0, none⟩) | 11 => v = .pointer (some ⟨x.2.1, 1, none⟩) | 12 => v = .int .i64 0 | 13 => v = .int .i64 0 | 14 => v = .int .i64 0 | 15 => v = .pointer (some ⟨x.2.1, 0, none⟩) | 16 => v = .pointer (some ⟨x.2.1, 0, none⟩) | 17 => True | 18 => v = .pointer (some ⟨x.2.1, 0, none⟩) | 19 => v = .pointer (some ⟨x.2.1, 1, none⟩) | 20 => True | _ => True) ⟨fun h => (by cases h), fun h => (by cases h), Nat.le_refl _, _, _, HH4.out.drew, fun _ => rfl, fun _ => rfl, fun h => (by cases h), fun h => (by cases h)⟩ ?_ ?_ ?_
    · intro i v w1 w2 hS h
      match i, h with
      | 0, h => exact h
      | 1, h => exact h
      | 2, h => exact h
      | 3, h => exact h
      | 4, h => exact h
      | 5, h => exact h
      | 6, h => exact h
      | 7, h => exact h
      | 8, h => exact NewRow.move h hS hfb
      | 9, h => exact h
      | 10, h => exact h
      | 11, h => exact h
      | 12, h => exact h
      | 13, h => exact h
      | 14, h => exact h
      | 15, h => exact h
      | 16, h => exact h
      | 17, h => exact trivial
      | 18, h => exact h
      | 19, h => exact h
      | 20, h => exact trivial
      | _ + 21, h => exact trivial
    · intro i o hi ho Ls f w1 hI hL hd
      match i, hi with
      | 0, _ =>
        obtain rfl := Option.some.inj ho
        clear hd ho
        unfold wpOp
        refine Or.inl ?_
        simp only [fill, List.take_succ_cons, List.take_zero, Act.put, List.setIfInBounds_toArray, List.set_cons_zero, List.set_cons_succ]
        unfold Oper.wp
        go_simp
        exact LeftBy.mk _ rfl (hI) (CutS.refl _ _) (rfl)
      | 1, _ =>
        obtain rfl := Option.some.inj ho
        clear hd ho
        unfold wpOp
        refine Or.inl ?_
        simp only [fill, List.take_succ_cons, List.take_zero, Act.put, List.setIfInBounds_toArray, List.set_cons_zero, List.set_cons_succ]
        unfold Oper.wp
        go_simp
        exact LeftBy.mk _ rfl (hI) (CutS.refl _ _) (rfl)
      | 2, _ =>
        obtain rfl := Option.some.inj ho
        clear hd ho
        unfold wpOp
        refine Or.inl ?_
        simp only [fill, List.take_succ_cons, List.take_zero, Act.put, List.setIfInBounds_toArray, List.set_cons_zero, List.set_cons_succ]
        unfold Oper.wp
        go_simp
        exact LeftBy.mk _ rfl (hI) (CutS.refl _ _) (rfl)
      | 3, _ =>
        obtain rfl := Option.some.inj ho
        have e2 : f 2 = .pointer (some ⟨x.2.1, 0, none⟩) := (hd ⟨2, .data⟩ (by simp) rfl).2
        clear hd ho
        unfold wpOp
        refine Or.inl ?_
        simp only [fill, List.take_succ_cons, List.take_zero, Act.put, List.setIfInBounds_toArray, List.set_cons_zero, List.set_cons_succ, e2]
        unfold Oper.wp
        go_simp
        exact LeftBy.mk _ rfl (hI) (CutS.refl _ _) (rfl)
      | 4, _ =>
        obtain rfl := Option.some.inj ho
        have e3 : f 3 = .pointer (some ⟨x.2.1, 0, none⟩) := (hd ⟨3, .data⟩ (by simp) rfl).2
        clear hd ho
        unfold wpOp
        refine Or.inl ?_
        simp only [fill, List.take_succ_cons, List.take_zero, Act.put, List.setIfInBounds_toArray, List.set_cons_zero, List.set_cons_succ, e3]
        unfold Oper.wp
        go_simp
        exact LeftBy.mk _ rfl (hI) (CutS.refl _ _) (rfl)
      | 5, _ =>
        obtain rfl := Option.some.inj ho
        have e4 : f 4 = .pointer (some ⟨x.2.1, 0, none⟩) := (hd ⟨4, .data⟩ (by simp) rfl).2
        clear hd ho
        unfold wpOp
        refine Or.inl ?_
        simp only [fill, List.take_succ_cons, List.take_zero, Act.put, List.setIfInBounds_toArray, List.set_cons_zero, List.set_cons_succ, e4]
        unfold Oper.wp
        have h17 : Ls 17 = false := by
          cases hh : Ls 17
          · rfl
          · exact absurd (hI.1 hh).1 (by rw [hL]; decide)
        obtain ⟨hi1, hi2, hi3, r, sf, hH, hr0, hs0, hr1, hs1⟩ := hI
        obtain rfl := hr0 h17
        have q0 : w1.cell? ⟨x.2.1, 0, none⟩ = some (.slice none 0 0) := Holds.cell hH 0
        go_simp
        exact LeftBy.mk _ rfl (⟨fun h => ⟨rfl, (hi1 h).2⟩, hi2, hi3, _, sf, hH, hr0, hs0, hr1, hs1⟩) (CutS.refl _ _) (rfl)
      | 6, _ =>
        obtain rfl := Option.some.inj ho
        clear hd ho
        unfold wpOp
        refine Or.inl ?_
        simp only [fill, List.take_succ_cons, List.take_zero, Act.put, List.setIfInBounds_toArray, List.set_cons_zero, List.set_cons_succ]
        unfold Oper.wp
        go_simp
        exact LeftBy.mk _ rfl (hI) (CutS.refl _ _) (rfl)
      | 7, _ =>
        obtain rfl := Option.some.inj ho
        have e5 : f 5 = .slice none 0 0 := (hd ⟨5, .data⟩ (by simp) rfl).2
        have e6 : f 6 = .int .i64 0 := (hd ⟨6, .data⟩ (by simp) rfl).2
        clear hd ho
        unfold wpOp
        refine Or.inl ?_
        simp only [fill, List.take_succ_cons, List.take_zero, Act.put, List.setIfInBounds_toArray, List.set_cons_zero, List.set_cons_succ, e5, e6]
        unfold Oper.wp
        go_simp
        exact LeftBy.mk _ rfl (hI) (CutS.refl _ _) (rfl)
      | 8, _ =>
        obtain rfl := Option.some.inj ho
        have e7 : f 7 = .slice none 0 0 := (hd ⟨7, .data⟩ (by simp) rfl).2
        clear hd ho
        unfold wpOp
        refine Or.inl ?_
        simp only [fill, List.take_succ_cons, List.take_zero, Act.put, List.setIfInBounds_toArray, List.set_cons_zero, List.set_cons_succ, e7]
        unfold Oper.wp
        obtain ⟨hi1, hi2, hi3, r, sf, hH, hr0, hs0, hr1, hs1⟩ := hI
        go_simp
        have h17 : Ls 17 = false := by
          cases hh : Ls 17
          · rfl
          · exact absurd (hi1 hh).2 (by rw [hL]; decide)
        obtain ⟨A9, c9, hv9, _, _, hrd⟩ := RowB.reads HR.out (Holds.perm hH (List.Perm.trans (List.Perm.symm (List.perm_middle (l₁ := hrw))) (List.Perm.refl _)))
        obtain ⟨rfl, _, rfl⟩ := Value.slice.inj hv9
        have hrd2 := hrd.take hk0
        rw [Nat.mul_one, bv_take] at hrd2
        have hbl : (x.2.2.b.take 0).length = 0 := by simp
        have hcl := clone_calls none 0 (x.2.2.b.take 0) w1 w1 [] (fun _ => rfl) (by rw [hbl]; exact hrd2) (by omega) (Holds.nil w1)
        rw [hbl] at hcl
        refine hcl.mono ?_
        rintro e w3 ⟨v, rfl, hv, R, hHv⟩
        exact LeftBy.mk _ rfl ⟨fun h => ⟨(hi1 h).1, rfl⟩, hi2, Nat.le_trans hi3 hHv.size, r, sf, hH.grow hHv.below, hr0, hs0, fun h => absurd (show Ls 17 = true from h) (by rw [h17]; decide), hs1⟩ (CutS.below hHv.below) ⟨hv, R, fun y hy => ⟨hHv.mem (List.mem_append_left _ hy), Nat.le_trans hi3 (hHv.at_ y (List.mem_append_left _ hy)).2⟩⟩
      | 9, _ =>
        obtain rfl := Option.some.inj ho
        clear hd ho
        unfold wpOp
        refine Or.inl ?_
        simp only [fill, List.take_succ_cons, List.take_zero, Act.put, List.setIfInBounds_toArray, List.set_cons_zero, List.set_cons_succ]
        unfold Oper.wp
        go_simp
        exact LeftBy.mk _ rfl (hI) (CutS.refl _ _) (rfl)
      | 10, _ =>
        obtain rfl := Option.some.inj ho
        have e9 : f 9 = .pointer (some ⟨x.2.1, 0, none⟩) := (hd ⟨9, .data⟩ (by simp) rfl).2
        clear hd ho
        unfold wpOp
        refine Or.inl ?_
        simp only [fill, List.take_succ_cons, List.take_zero, Act.put, List.setIfInBounds_toArray, List.set_cons_zero, List.set_cons_succ, e9]
        unfold Oper.wp
        go_simp
        exact LeftBy.mk _ rfl (hI) (CutS.refl _ _) (rfl)
      | 11, _ =>
        obtain rfl := Option.some.inj ho
        have e10 : f 10 = .pointer (some ⟨x.2.1, 0, none⟩) := (hd ⟨10, .data⟩ (by simp) rfl).2
        clear hd ho
        unfold wpOp
        refine Or.inl ?_
        simp only [fill, List.take_succ_cons, List.take_zero, Act.put, List.setIfInBounds_toArray, List.set_cons_zero, List.set_cons_succ, e10]
        unfold Oper.wp
        go_simp
        exact LeftBy.mk _ rfl (hI) (CutS.refl _ _) (rfl)
      | 12, _ =>
        obtain rfl := Option.some.inj ho
        have e11 : f 11 = .pointer (some ⟨x.2.1, 1, none⟩) := (hd ⟨11, .data⟩ (by simp) rfl).2
        clear hd ho
        unfold wpOp
        refine Or.inl ?_
        simp only [fill, List.take_succ_cons, List.take_zero, Act.put, List.setIfInBounds_toArray, List.set_cons_zero, List.set_cons_succ, e11]
        unfold Oper.wp
        have h20 : Ls 20 = false := by
          cases hh : Ls 20
          · rfl
          · exact absurd (hI.2.1 hh) (by rw [hL]; decide)
        obtain ⟨hi1, hi2, hi3, r, sf, hH, hr0, hs0, hr1, hs1⟩ := hI
        obtain rfl := hs0 h20
        have q1 : w1.cell? ⟨x.2.1, 1, none⟩ = some (.int .i64 0) := Holds.cell hH 1
        go_simp
        exact LeftBy.mk _ rfl (⟨hi1, fun _ => rfl, hi3, r, _, hH, hr0, hs0, hr1, hs1⟩) (CutS.refl _ _) (rfl)
      | 13, _ =>
        obtain rfl := Option.some.inj ho
        clear hd ho
        unfold wpOp
        refine Or.inl ?_
        simp only [fill, List.take_succ_cons, List.take_zero, Act.put, List.setIfInBounds_toArray, List.set_cons_zero, List.set_cons_succ]
        unfold Oper.wp
        go_simp
        exact LeftBy.mk _ rfl (hI) (CutS.refl _ _) (rfl)
      | 14, _ =>
        obtain rfl := Option.some.inj ho
        have e12 : f 12 = .int .i64 0 := (hd ⟨12, .data⟩ (by simp) rfl).2
        have e13 : f 13 = .int .i64 0 := (hd ⟨13, .data⟩ (by simp) rfl).2
        clear hd ho
        unfold wpOp
        refine Or.inl ?_
        simp only [fill, List.take_succ_cons, List.take_zero, Act.put, List.setIfInBounds_toArray, List.set_cons_zero, List.set_cons_succ, e12, e13]
        unfold Oper.wp
        have hsn := trivial
        go_simp
        exact LeftBy.mk _ rfl (hI) (CutS.refl _ _) (rfl)
      | 15, _ =>
        obtain rfl := Option.some.inj ho
        have e0 : f 0 = .pointer (some ⟨x.2.1, 0, none⟩) := (hd ⟨0, .data⟩ (by simp) rfl).2
        clear hd ho
        unfold wpOp
        refine Or.inl ?_
        simp only [fill, List.take_succ_cons, List.take_zero, Act.put, List.setIfInBounds_toArray, List.set_cons_zero, List.set_cons_succ, e0]
        unfold Oper.wp
        go_simp
        exact LeftBy.mk _ rfl (hI) (CutS.refl _ _) (rfl)
      | 16, _ =>
        obtain rfl := Option.some.inj ho
        have e15 : f 15 = .pointer (some ⟨x.2.1, 0, none⟩) := (hd ⟨15, .data⟩ (by simp) rfl).2
        clear hd ho
        unfold wpOp
        refine Or.inl ?_
        simp only [fill, List.take_succ_cons, List.take_zero, Act.put, List.setIfInBounds_toArray, List.set_cons_zero, List.set_cons_succ, e15]
        unfold Oper.wp
        go_simp
        exact LeftBy.mk _ rfl (hI) (CutS.refl _ _) (rfl)
      | 17, _ =>
        obtain rfl := Option.some.inj ho
        have e16 : f 16 = .pointer (some ⟨x.2.1, 0, none⟩) := (hd ⟨16, .data⟩ (by simp) rfl).2
        have e8 := (hd ⟨8, .data⟩ (by simp) rfl).2
        have e5 : f 5 = .slice none 0 0 := (hd ⟨5, .phase⟩ (by simp) rfl).2
        have hL5 : Ls 5 = true := (hd ⟨5, .phase⟩ (by simp) rfl).1
        have hL8 : Ls 8 = true := (hd ⟨8, .data⟩ (by simp) rfl).1
        clear hd ho
        unfold wpOp
        refine Or.inl ?_
        simp only [fill, List.take_succ_cons, List.take_zero, Act.put, List.setIfInBounds_toArray, List.set_cons_zero, List.set_cons_succ, e16, e5]
        unfold Oper.wp
        obtain ⟨hi1, hi2, hi3, r, sf, hH, hr0, hs0, hr1, hs1⟩ := hI
        obtain ⟨hv, R, hx⟩ := e8
        obtain ⟨A7, c7, hv7, _⟩ := RowB.form R
        rw [hv7] at R ⊢
        have q0 : w1.cell? ⟨x.2.1, 0, none⟩ = some r := Holds.cell hH 0
        have q1 : w1.frozen? ⟨x.2.1, 0, none⟩ = false := Holds.froz hH 0
        go_simp
        exact LeftBy.mk undef rfl ⟨fun _ => ⟨hL5, hL8⟩, hi2, Nat.le_trans hi3 (CutS.set (fb := x.2.1) (i := 0)).1, _, sf, Holds.set hH 0 _, fun h => (by cases h), hs0, fun _ => NewRow.move (w1 := w1) ⟨hv, R, hx⟩ CutS.set hfb, hs1⟩ CutS.set trivial
      | 18, _ =>
        obtain rfl := Option.some.inj ho
        have e1 : f 1 = .pointer (some ⟨x.2.1, 0, none⟩) := (hd ⟨1, .data⟩ (by simp) rfl).2
        clear hd ho
        unfold wpOp
        refine Or.inl ?_
        simp only [fill, List.take_succ_cons, List.take_zero, Act.put, List.setIfInBounds_toArray, List.set_cons_zero, List.set_cons_succ, e1]
        unfold Oper.wp
        go_simp
        exact LeftBy.mk _ rfl (hI) (CutS.refl _ _) (rfl)
      | 19, _ =>
        obtain rfl := Option.some.inj ho
        have e18 : f 18 = .pointer (some ⟨x.2.1, 0, none⟩) := (hd ⟨18, .data⟩ (by simp) rfl).2
        clear hd ho
        unfold wpOp
        refine Or.inl ?_
        simp only [fill, List.take_succ_cons, List.take_zero, Act.put, List.setIfInBounds_toArray, List.set_cons_zero, List.set_cons_succ, e18]
        unfold Oper.wp
        go_simp
        exact LeftBy.mk _ rfl (hI) (CutS.refl _ _) (rfl)
      | 20, _ =>
        obtain rfl := Option.some.inj ho
        have e19 : f 19 = .pointer (some ⟨x.2.1, 1, none⟩) := (hd ⟨19, .data⟩ (by simp) rfl).2
        have e14 : f 14 = .int .i64 0 := (hd ⟨14, .data⟩ (by simp) rfl).2
        have e12 : f 12 = .int .i64 0 := (hd ⟨12, .phase⟩ (by simp) rfl).2
        have hL12 : Ls 12 = true := (hd ⟨12, .phase⟩ (by simp) rfl).1
        clear hd ho
        unfold wpOp
        refine Or.inl ?_
        simp only [fill, List.take_succ_cons, List.take_zero, Act.put, List.setIfInBounds_toArray, List.set_cons_zero, List.set_cons_succ, e19, e14, e12]
        unfold Oper.wp
        obtain ⟨hi1, hi2, hi3, r, sf, hH, hr0, hs0, hr1, hs1⟩ := hI
        have q0 : w1.cell? ⟨x.2.1, 1, none⟩ = some (.int .i64 sf) := Holds.cell hH 1
        have q1 : w1.frozen? ⟨x.2.1, 1, none⟩ = false := Holds.froz hH 1
        go_simp
        exact LeftBy.mk undef rfl ⟨hi1, fun _ => hL12, Nat.le_trans hi3 (CutS.set (fb := x.2.1) (i := 1)).1, r, _, Holds.set hH 1 _, hr0, fun h => (by cases h), fun h => NewRow.move (hr1 h) CutS.set hfb, fun _ => rfl⟩ CutS.set trivial
    · intro Ls f w1 hI hL hV
      have e0 : f 0 = .pointer (some ⟨x.2.1, 0, none⟩) := hV 0 (by decide) (by simp)
      have e1 : f 1 = .pointer (some ⟨x.2.1, 0, none⟩) := hV 1 (by decide) (by simp)
      have e2 : f 2 = .pointer (some ⟨x.2.1, 0, none⟩) := hV 2 (by decide) (by simp)
      have e3 : f 3 = .pointer (some ⟨x.2.1, 0, none⟩) := hV 3 (by decide) (by simp)
      have e4 : f 4 = .pointer (some ⟨x.2.1, 0, none⟩) := hV 4 (by decide) (by simp)
      have e5 : f 5 = .slice none 0 0 := hV 5 (by decide) (by simp)
      have e6 : f 6 = .int .i64 0 := hV 6 (by decide) (by simp)
      have e7 : f 7 = .slice none 0 0 := hV 7 (by decide) (by simp)
      have e8 := hV 8 (by decide) (by simp)
      have e9 : f 9 = .pointer (some ⟨x.2.1, 0, none⟩) := hV 9 (by decide) (by simp)
      have e10 : f 10 = .pointer (some ⟨x.2.1, 0, none⟩) := hV 10 (by decide) (by simp)
      have e11 : f 11 = .pointer (some ⟨x.2.1, 1, none⟩) := hV 11 (by decide) (by simp)
      have e12 : f 12 = .int .i64 0 := hV 12 (by decide) (by simp)
      have e13 : f 13 = .int .i64 0 := hV 13 (by decide) (by simp)
      have e14 : f 14 = .int .i64 0 := hV 14 (by decide) (by simp)
      have e15 : f 15 = .pointer (some ⟨x.2.1, 0, none⟩) := hV 15 (by decide) (by simp)
      have e16 : f 16 = .pointer (some ⟨x.2.1, 0, none⟩) := hV 16 (by decide) (by simp)
      have e17 := hV 17 (by decide) (by simp)
      have e18 : f 18 = .pointer (some ⟨x.2.1, 0, none⟩) := hV 18 (by decide) (by simp)
      have e19 : f 19 = .pointer (some ⟨x.2.1, 1, none⟩) := hV 19 (by decide) (by simp)
      have e20 := hV 20 (by decide) (by simp)
      have hLL : ∀ i, i < 21 → Ls i = true := fun i hi => hL i hi (by simp at *; omega)
      clear hV hL
      simp only [fill, List.take_succ_cons, List.take_zero, List.drop_succ_cons, List.drop_zero, Act.put, List.setIfInBounds_toArray, List.set_cons_zero, List.set_cons_succ, e0, e1, e2, e3, e4, e5, e6, e7, e9, e10, e11, e12, e13, e14, e15, e16, e18, e19]
      obtain ⟨hi1, hi2, hi3, r, sf, hH, hr0, hs0, hr1, hs1⟩ := hI
      obtain rfl := hs1 (hLL 20 (by decide))
      obtain ⟨hv, R, hx⟩ := hr1 (hLL 17 (by decide))
      have HX := Lib.hid hx; have HRN := Lib.hid R; have HHN := Lib.hid hH
      clear hi1 hi2 hi3 hr0 hs0 hr1 hs1 hLL hx R hH
      go_wp2_with fail
      go_ret
      have hsn : (0 : Int) = ((min x.2.2.safe 0 : Nat) : Int) := by
        simp
      have hbl : (x.2.2.b.take 0).length = 0 := by simp
      have hfl2 := HFL.out
      rw [HL.out] at hfl2
      have hA2 := HA.out
      rw [HL.out] at hA2
      have hM2 := HM.out
      rw [HL.out] at hM2
      obtain ⟨f', hf'⟩ : ∃ f' : Fl, f' = ⟨x.2.2.b.take 0, min x.2.2.safe 0⟩ := ⟨_, rfl⟩
      have hfl' : f'.b.length = 0 := by rw [hf']; exact hbl
      have H6 : Holds w0 (hv ++ ((x.2.1, flO r f') :: ((g, dskO m.room m.lives m.power mb) :: (mb, o) :: (f1 ++ (f2 ++ F))))) w1 := by
        have h0 : Holds w0 ((x.2.1, flO r f') :: ((g, dskO m.room m.lives m.power mb) :: (mb, o) :: (f1 ++ (f2 ++ F)))) w1 := by
          have h1 := HHN.out
          rw [hsn] at h1
          have e : flQ r ((min x.2.2.safe 0 : Nat) : Int) = flO r f' := by rw [hf']; rfl
          rw [e] at h1
          exact h1.sub ((List.sublist_append_right _ _).cons_cons _)
        obtain ⟨h1, ⟨rfl, h00, rfl⟩ | ⟨gq, cap, cur, rfl, rfl, h2, h3, h4, h5⟩⟩ := HRN.out
        · exact h0
        · have hx := HX.out _ List.mem_cons_self
          refine h0.cons (Nat.le_trans HH4.out.size hx.2) hx.1 (fun y hy e => ?_)
          have hlt : y.1 < w5.heap.size := by
            rcases List.mem_cons.mp hy with rfl | hy
            · exact hfb
            · exact lt_of_block (HH4.out.mem (List.mem_cons_of_mem _ (List.mem_append_right _ hy)))
          have := hx.2
          simp only at this e
          omega
      have hg' : f' = ⟨[], 0⟩ := by rw [hf']; simp
      rw [← hg']
      refine ⟨rfl, _, ⟨mb, o, L1 ++ (x.1, x.2.1, f') :: L2, f1 ++ (((x.2.1, flO r f') :: hv) ++ f2), ?_, ?_, ?_, rfl, ?_⟩, ?_⟩
      · have e : Es (L1 ++ (x.1, x.2.1, f') :: L2) = Es (L1 ++ x :: L2) := by simp [Es]
        rw [e]
        exact hM2
      · show setM s _ m.fl = _
        rw [hfl2, ← HXS.out]
        exact set_abs hA2
      · refine FilesR.mid.mpr ⟨f1, _, f2, K1.out, ⟨_, hv, ?_, rfl⟩, K2.out, rfl⟩
        rw [hfl', hf']
        exact HRN.out
      · have := ok_mid (f := f') HOK.out hfl2 (by rw [hfl', hf']; exact Nat.min_le_right _ _) (by have := HOK.out.tot; rw [hfl']; omega)
        rw [← set_abs hA2, HXS.out, ← hfl2] at this
        exact this
      · exact H6.perm (by classical rw [List.perm_iff_count]; intro a; simp only [List.count_append, List.count_cons, List.count_nil]; omega)
  | some ad =>
    go_enter Try.func18, Try.ntmps18
    go_wp2_with fail
    refine (find_calls g m.room m.lives m.power mb o L s (hf ++ F) w0 w hs HM.out HH.out).mono ?_
    rintro e w5 ⟨he, hb⟩
    rw [hq] at he
    simp only [ptrOf] at he
    subst he
    have H4 := HH3.out w5 hb
    have d0 : w5.cell? ⟨x.2.1, 0, none⟩ = some (.slice (some ad) x.2.2.b.length c2) := Holds.cell H4 0
    have HH4 := Lib.hid H4
    clear hb hq H4
    go_wp2_with fail
    have hfb : x.2.1 < w5.heap.size := HH4.out.lt
    obtain ⟨sn, hsn⟩ : ∃ sn : Int, (if k < x.2.2.safe then (k : Int) else (x.2.2.safe : Int)) = sn := ⟨_, rfl⟩
    have HSN := Lib.hid hsn
    clear hsn
    refine wp_region_vals2 21 (by kernel_rfl) (by kernel_rfl) (by kernel_rfl) (fun Ls w' => CutI w0 w5 x.2.1 k (x.2.2.b.take k) (.slice (some ad) x.2.2.b.length c2) x.2.2.safe sn (hrw ++ ((g, dskO m.room m.lives m.power mb) :: (mb, o) :: (f1 ++ (f2 ++ F)))) Ls w') (fun w1 w2 => CutS x.2.1 w1 w2) (fun i w v => match i with | 0 => v = .pointer (some ⟨x.2.1, 0, none⟩) | 1 => v = .pointer (some ⟨x.2.1, 0, none⟩) | 2 => v = .pointer (some ⟨x.2.1, 0, none⟩) | 3 => v = .pointer (some ⟨x.2.1, 0, none⟩) | 4 => v = .pointer (some ⟨x.2.1, 0, none⟩) | 5 => v = .slice (some ad) x.2.2.b.length c2 | 6 => v = .int .i64 k | 7 => v = .slice (some ad) k c2 | 8 => NewRow w5 k (x.2.2.b.take k) v w | 9 => v = .pointer (some ⟨x.2.1, 0, none⟩) | 10 => v = .pointer (some ⟨x.2.1, 0, none⟩) | 11 => v = .pointer (some ⟨x.2.1, 1, none⟩) | 12 => v = .int .i64 x.2.2.safe | 13 => v = .int .i64 k | 14 => v = .int .i64 sn | 15 => v = .pointer (some ⟨x.2.1, 0, none⟩) | 16 => v = .pointer (some ⟨x.2.1, 0, none⟩) | 17 => True | 18 => v = .pointer (some ⟨x.2.1, 0, none⟩) | 19 => v = .pointer (some ⟨x.2.1, 1, none⟩) | 20 => True | _ => True) ⟨fun h => (by cases h), fun h => (by cases h), Nat.le_refl _, _, _, HH4.out.drew, fun _ => rfl, fun _ => rfl, fun h => (by cases h), fun h => (by cases h)⟩ ?_ ?_ ?_
    · intro i v w1 w2 hS h
      match i, h with
      | 0, h => exact h
      | 1, h => exact h
      | 2, h => exact h
      | 3, h => exact h
      | 4, h => exact h
      | 5, h => exact h
      | 6, h => exact h
      | 7, h => exact h
      | 8, h => exact NewRow.move h hS hfb
      | 9, h => exact h
      | 10, h => exact h
      | 11, h => exact h
      | 12, h => exact h
      | 13, h => exact h
      | 14, h => exact h
      | 15, h => exact h
      | 16, h => exact h
      | 17, h => exact trivial
      | 18, h => exact h
      | 19, h => exact h
      | 20, h => exact trivial
      | _ + 21, h => exact trivial
    · intro i o hi ho Ls f w1 hI hL hd
      match i, hi with
      | 0, _ =>
        obtain rfl := Option.some.inj ho
        clear hd ho
        unfold wpOp
        refine Or.inl ?_
        simp only [fill, List.take_succ_cons, List.take_zero, Act.put, List.setIfInBounds_toArray, List.set_cons_zero, List.set_cons_succ]
        unfold Oper.wp
        go_simp
        exact LeftBy.mk _ rfl (hI) (CutS.refl _ _) (rfl)
      | 1, _ =>
        obtain rfl := Option.some.inj ho
        clear hd ho
        unfold wpOp
        refine Or.inl ?_
        simp only [fill, List.take_succ_cons, List.take_zero, Act.put, List.setIfInBounds_toArray, List.set_cons_zero, List.set_cons_succ]
        unfold Oper.wp
        go_simp
        exact LeftBy.mk _ rfl (hI) (CutS.refl _ _) (rfl)
      | 2, _ =>
        obtain rfl := Option.some.inj ho
        clear hd ho
        unfold wpOp
        refine Or.inl ?_
        simp only [fill, List.take_succ_cons, List.take_zero, Act.put, List.setIfInBounds_toArray, List.set_cons_zero, List.set_cons_succ]
        unfold Oper.wp
        go_simp
        exact LeftBy.mk _ rfl (hI) (CutS.refl _ _) (rfl)
      | 3, _ =>
        obtain rfl := Option.some.inj ho
        have e2 : f 2 = .pointer (some ⟨x.2.1, 0, none⟩) := (hd ⟨2, .data⟩ (by simp) rfl).2
        clear hd ho
        unfold wpOp
        refine Or.inl ?_
        simp only [fill, List.take_succ_cons, List.take_zero, Act.put, List.setIfInBounds_toArray, List.set_cons_zero, List.set_cons_succ, e2]
        unfold Oper.wp
        go_simp
        exact LeftBy.mk _ rfl (hI) (CutS.refl _ _) (rfl)
      | 4, _ =>
        obtain rfl := Option.some.inj ho
        have e3 : f 3 = .pointer (some ⟨x.2.1, 0, none⟩) := (hd ⟨3, .data⟩ (by simp) rfl).2
        clear hd ho
        unfold wpOp
        refine Or.inl ?_
        simp only [fill, List.take_succ_cons, List.take_zero, Act.put, List.setIfInBounds_toArray, List.set_cons_zero, List.set_cons_succ, e3]
        unfold Oper.wp
        go_simp
        exact LeftBy.mk _ rfl (hI) (CutS.refl _ _) (rfl)
      | 5, _ =>
        obtain rfl := Option.some.inj ho
        have e4 : f 4 = .pointer (some ⟨x.2.1, 0, none⟩) := (hd ⟨4, .data⟩ (by simp) rfl).2
        clear hd ho
        unfold wpOp
        refine Or.inl ?_
        simp only [fill, List.take_succ_cons, List.take_zero, Act.put, List.setIfInBounds_toArray, List.set_cons_zero, List.set_cons_succ, e4]
        unfold Oper.wp
        have h17 : Ls 17 = false := by
          cases hh : Ls 17
          · rfl
          · exact absurd (hI.1 hh).1 (by rw [hL]; decide)
        obtain ⟨hi1, hi2, hi3, r, sf, hH, hr0, hs0, hr1, hs1⟩ := hI
        obtain rfl := hr0 h17
        have q0 : w1.cell? ⟨x.2.1, 0, none⟩ = some (.slice (some ad) x.2.2.b.length c2) := Holds.cell hH 0
        go_simp
        exact LeftBy.mk _ rfl (⟨fun h => ⟨rfl, (hi1 h).2⟩, hi2, hi3, _, sf, hH, hr0, hs0, hr1, hs1⟩) (CutS.refl _ _) (rfl)
      | 6, _ =>
        obtain rfl := Option.some.inj ho
        clear hd ho
        unfold wpOp
        refine Or.inl ?_
        simp only [fill, List.take_succ_cons, List.take_zero, Act.put, List.setIfInBounds_toArray, List.set_cons_zero, List.set_cons_succ]
        unfold Oper.wp
        go_simp
        exact LeftBy.mk _ rfl (hI) (CutS.refl _ _) (rfl)
      | 7, _ =>
        obtain rfl := Option.some.inj ho
        have e5 : f 5 = .slice (some ad) x.2.2.b.length c2 := (hd ⟨5, .data⟩ (by simp) rfl).2
        have e6 : f 6 = .int .i64 k := (hd ⟨6, .data⟩ (by simp) rfl).2
        clear hd ho
        unfold wpOp
        refine Or.inl ?_
        simp only [fill, List.take_succ_cons, List.take_zero, Act.put, List.setIfInBounds_toArray, List.set_cons_zero, List.set_cons_succ, e5, e6]
        unfold Oper.wp
        go_simp
        exact LeftBy.mk _ rfl (hI) (CutS.refl _ _) (rfl)
      | 8, _ =>
        obtain rfl := Option.some.inj ho
        have e7 : f 7 = .slice (some ad) k c2 := (hd ⟨7, .data⟩ (by simp) rfl).2
        clear hd ho
        unfold wpOp
        refine Or.inl ?_
        simp only [fill, List.take_succ_cons, List.take_zero, Act.put, List.setIfInBounds_toArray, List.set_cons_zero, List.set_cons_succ, e7]
        unfold Oper.wp
        obtain ⟨hi1, hi2, hi3, r, sf, hH, hr0, hs0, hr1, hs1⟩ := hI
        go_simp
        have h17 : Ls 17 = false := by
          cases hh : Ls 17
          · rfl
          · exact absurd (hi1 hh).2 (by rw [hL]; decide)
        obtain ⟨A9, c9, hv9, _, _, hrd⟩ := RowB.reads HR.out (Holds.perm hH (List.Perm.trans (List.Perm.symm (List.perm_middle (l₁ := hrw))) (List.Perm.refl _)))
        obtain ⟨rfl, _, rfl⟩ := Value.slice.inj hv9
        have hrd2 := hrd.take hk
        rw [Nat.mul_one, bv_take] at hrd2
        have hbl : (x.2.2.b.take k).length = k := by simp; omega
        have hcl := clone_calls (some ad) c2 (x.2.2.b.take k) w1 w1 [] (fun h => by cases h) (by rw [hbl]; exact hrd2) (by omega) (Holds.nil w1)
        rw [hbl] at hcl
        refine hcl.mono ?_
        rintro e w3 ⟨v, rfl, hv, R, hHv⟩
        exact LeftBy.mk _ rfl ⟨fun h => ⟨(hi1 h).1, rfl⟩, hi2, Nat.le_trans hi3 hHv.size, r, sf, hH.grow hHv.below, hr0, hs0, fun h => absurd (show Ls 17 = true from h) (by rw [h17]; decide), hs1⟩ (CutS.below hHv.below) ⟨hv, R, fun y hy => ⟨hHv.mem (List.mem_append_left _ hy), Nat.le_trans hi3 (hHv.at_ y (List.mem_append_left _ hy)).2⟩⟩
      | 9, _ =>
        obtain rfl := Option.some.inj ho
        clear hd ho
        unfold wpOp
        refine Or.inl ?_
        simp only [fill, List.take_succ_cons, List.take_zero, Act.put, List.setIfInBounds_toArray, List.set_cons_zero, List.set_cons_succ]
        unfold Oper.wp
        go_simp
        exact LeftBy.mk _ rfl (hI) (CutS.refl _ _) (rfl)
      | 10, _ =>
        obtain rfl := Option.some.inj ho
        have e9 : f 9 = .pointer (some ⟨x.2.1, 0, none⟩) := (hd ⟨9, .data⟩ (by simp) rfl).2
        clear hd ho
        unfold wpOp
        refine Or.inl ?_
        simp only [fill, List.take_succ_cons, List.take_zero, Act.put, List.setIfInBounds_toArray, List.set_cons_zero, List.set_cons_succ, e9]
        unfold Oper.wp
        go_simp
        exact LeftBy.mk _ rfl (hI) (CutS.refl _ _) (rfl)
      | 11, _ =>
        obtain rfl := Option.some.inj ho
        have e10 : f 10 = .pointer (some ⟨x.2.1, 0, none⟩) := (hd ⟨10, .data⟩ (by simp) rfl).2
        clear hd ho
        unfold wpOp
        refine Or.inl ?_
        simp only [fill, List.take_succ_cons, List.take_zero, Act.put, List.setIfInBounds_toArray, List.set_cons_zero, List.set_cons_succ, e10]
        unfold Oper.wp
        go_simp
        exact LeftBy.mk _ rfl (hI) (CutS.refl _ _) (rfl)
      | 12, _ =>
        obtain rfl := Option.some.inj ho
        have e11 : f 11 = .pointer (some ⟨x.2.1, 1, none⟩) := (hd ⟨11, .data⟩ (by simp) rfl).2
        clear hd ho
        unfold wpOp
        refine Or.inl ?_
        simp only [fill, List.take_succ_cons, List.take_zero, Act.put, List.setIfInBounds_toArray, List.set_cons_zero, List.set_cons_succ, e11]
        unfold Oper.wp
        have h20 : Ls 20 = false := by
          cases hh : Ls 20
          · rfl
          · exact absurd (hI.2.1 hh) (by rw [hL]; decide)
        obtain ⟨hi1, hi2, hi3, r, sf, hH, hr0, hs0, hr1, hs1⟩ := hI
        obtain rfl := hs0 h20
        have q1 : w1.cell? ⟨x.2.1, 1, none⟩ = some (.int .i64 x.2.2.safe) := Holds.cell hH 1
        go_simp
        exact LeftBy.mk _ rfl (⟨hi1, fun _ => rfl, hi3, r, _, hH, hr0, hs0, hr1, hs1⟩) (CutS.refl _ _) (rfl)
      | 13, _ =>
        obtain rfl := Option.some.inj ho
        clear hd ho
        unfold wpOp
        refine Or.inl ?_
        simp only [fill, List.take_succ_cons, List.take_zero, Act.put, List.setIfInBounds_toArray, List.set_cons_zero, List.set_cons_succ]
        unfold Oper.wp
        go_simp
        exact LeftBy.mk _ rfl (hI) (CutS.refl _ _) (rfl)
      | 14, _ =>
        obtain rfl := Option.some.inj ho
        have e12 : f 12 = .int .i64 x.2.2.safe := (hd ⟨12, .data⟩ (by simp) rfl).2
        have e13 : f 13 = .int .i64 k := (hd ⟨13, .data⟩ (by simp) rfl).2
        clear hd ho
        unfold wpOp
        refine Or.inl ?_
        simp only [fill, List.take_succ_cons, List.take_zero, Act.put, List.setIfInBounds_toArray, List.set_cons_zero, List.set_cons_succ, e12, e13]
        unfold Oper.wp
        have hsn := HSN.out
        go_simp
        exact LeftBy.mk _ rfl (hI) (CutS.refl _ _) (rfl)
      | 15, _ =>
        obtain rfl := Option.some.inj ho
        have e0 : f 0 = .pointer (some ⟨x.2.1, 0, none⟩) := (hd ⟨0, .data⟩ (by simp) rfl).2
        clear hd ho
        unfold wpOp
        refine Or.inl ?_
        simp only [fill, List.take_succ_cons, List.take_zero, Act.put, List.setIfInBounds_toArray, List.set_cons_zero, List.set_cons_succ, e0]
        unfold Oper.wp
        go_simp
        exact LeftBy.mk _ rfl (hI) (CutS.refl _ _) (rfl)
      | 16, _ =>
        obtain rfl := Option.some.inj ho
        have e15 : f 15 = .pointer (some ⟨x.2.1, 0, none⟩) := (hd ⟨15, .data⟩ (by simp) rfl).2
        clear hd ho
        unfold wpOp
        refine Or.inl ?_
        simp only [fill, List.take_succ_cons, List.take_zero, Act.put, List.setIfInBounds_toArray, List.set_cons_zero, List.set_cons_succ, e15]
        unfold Oper.wp
        go_simp
        exact LeftBy.mk _ rfl (hI) (CutS.refl _ _) (rfl)
      | 17, _ =>
        obtain rfl := Option.some.inj ho
        have e16 : f 16 = .pointer (some ⟨x.2.1, 0, none⟩) := (hd ⟨16, .data⟩ (by simp) rfl).2
        have e8 := (hd ⟨8, .data⟩ (by simp) rfl).2
        have e5 : f 5 = .slice (some ad) x.2.2.b.length c2 := (hd ⟨5, .phase⟩ (by simp) rfl).2
        have hL5 : Ls 5 = true := (hd ⟨5, .phase⟩ (by simp) rfl).1
        have hL8 : Ls 8 = true := (hd ⟨8, .data⟩ (by simp) rfl).1
        clear hd ho
        unfold wpOp
        refine Or.inl ?_
        simp only [fill, List.take_succ_cons, List.take_zero, Act.put, List.setIfInBounds_toArray, List.set_cons_zero, List.set_cons_succ, e16, e5]
        unfold Oper.wp
        obtain ⟨hi1, hi2, hi3, r, sf, hH, hr0, hs0, hr1, hs1⟩ := hI
        obtain ⟨hv, R, hx⟩ := e8
        obtain ⟨A7, c7, hv7, _⟩ := RowB.form R
        rw [hv7] at R ⊢
        have q0 : w1.cell? ⟨x.2.1, 0, none⟩ = some r := Holds.cell hH 0
        have q1 : w1.frozen? ⟨x.2.1, 0, none⟩ = false := Holds.froz hH 0
        go_simp
        exact LeftBy.mk undef rfl ⟨fun _ => ⟨hL5, hL8⟩, hi2, Nat.le_trans hi3 (CutS.set (fb := x.2.1) (i := 0)).1, _, sf, Holds.set hH 0 _, fun h => (by cases h), hs0, fun _ => NewRow.move (w1 := w1) ⟨hv, R, hx⟩ CutS.set hfb, hs1⟩ CutS.set trivial
      | 18, _ =>
        obtain rfl := Option.some.inj ho
        have e1 : f 1 = .pointer (some ⟨x.2.1, 0, none⟩) := (hd ⟨1, .data⟩ (by simp) rfl).2
        clear hd ho
        unfold wpOp
        refine Or.inl ?_
        simp only [fill, List.take_succ_cons, List.take_zero, Act.put, List.setIfInBounds_toArray, List.set_cons_zero, List.set_cons_succ, e1]
        unfold Oper.wp
        go_simp
        exact LeftBy.mk _ rfl (hI) (CutS.refl _ _) (rfl)
      | 19, _ =>
        obtain rfl := Option.some.inj ho
        have e18 : f 18 = .pointer (some ⟨x.2.1, 0, none⟩) := (hd ⟨18, .data⟩ (by simp) rfl).2
        clear hd ho
        unfold wpOp
        refine Or.inl ?_
        simp only [fill, List.take_succ_cons, List.take_zero, Act.put, List.setIfInBounds_toArray, List.set_cons_zero, List.set_cons_succ, e18]
        unfold Oper.wp
        go_simp
        exact LeftBy.mk _ rfl (hI) (CutS.refl _ _) (rfl)
      | 20, _ =>
        obtain rfl := Option.some.inj ho
        have e19 : f 19 = .pointer (some ⟨x.2.1, 1, none⟩) := (hd ⟨19, .data⟩ (by simp) rfl).2
        have e14 : f 14 = .int .i64 sn := (hd ⟨14, .data⟩ (by simp) rfl).2
        have e12 : f 12 = .int .i64 x.2.2.safe := (hd ⟨12, .phase⟩ (by simp) rfl).2
        have hL12 : Ls 12 = true := (hd ⟨12, .phase⟩ (by simp) rfl).1
        clear hd ho
        unfold wpOp
        refine Or.inl ?_
        simp only [fill, List.take_succ_cons, List.take_zero, Act.put, List.setIfInBounds_toArray, List.set_cons_zero, List.set_cons_succ, e19, e14, e12]
        unfold Oper.wp
        obtain ⟨hi1, hi2, hi3, r, sf, hH, hr0, hs0, hr1, hs1⟩ := hI
        have q0 : w1.cell? ⟨x.2.1, 1, none⟩ = some (.int .i64 sf) := Holds.cell hH 1
        have q1 : w1.frozen? ⟨x.2.1, 1, none⟩ = false := Holds.froz hH 1
        go_simp
        exact LeftBy.mk undef rfl ⟨hi1, fun _ => hL12, Nat.le_trans hi3 (CutS.set (fb := x.2.1) (i := 1)).1, r, _, Holds.set hH 1 _, hr0, fun h => (by cases h), fun h => NewRow.move (hr1 h) CutS.set hfb, fun _ => rfl⟩ CutS.set trivial
    · intro Ls f w1 hI hL hV
      have e0 : f 0 = .pointer (some ⟨x.2.1, 0, none⟩) := hV 0 (by decide) (by simp)
      have e1 : f 1 = .pointer (some ⟨x.2.1, 0, none⟩) := hV 1 (by decide) (by simp)
      have e2 : f 2 = .pointer (some ⟨x.2.1, 0, none⟩) := hV 2 (by decide) (by simp)
      have e3 : f 3 = .pointer (some ⟨x.2.1, 0, none⟩) := hV 3 (by decide) (by simp)
      have e4 : f 4 = .pointer (some ⟨x.2.1, 0, none⟩) := hV 4 (by decide) (by simp)
      have e5 : f 5 = .slice (some ad) x.2.2.b.length c2 := hV 5 (by decide) (by simp)
      have e6 : f 6 = .int .i64 k := hV 6 (by decide) (by simp)
      have e7 : f 7 = .slice (some ad) k c2 := hV 7 (by decide) (by simp)
      have e8 := hV 8 (by decide) (by simp)
      have e9 : f 9 = .pointer (some ⟨x.2.1, 0, none⟩) := hV 9 (by decide) (by simp)
      have e10 : f 10 = .pointer (some ⟨x.2.1, 0, none⟩) := hV 10 (by decide) (by simp)
      have e11 : f 11 = .pointer (some ⟨x.2.1, 1, none⟩) := hV 11 (by decide) (by simp)
      have e12 : f 12 = .int .i64 x.2.2.safe := hV 12 (by decide) (by simp)
      have e13 : f 13 = .int .i64 k := hV 13 (by decide) (by simp)
      have e14 : f 14 = .int .i64 sn := hV 14 (by decide) (by simp)
      have e15 : f 15 = .pointer (some ⟨x.2.1, 0, none⟩) := hV 15 (by decide) (by simp)
      have e16 : f 16 = .pointer (some ⟨x.2.1, 0, none⟩) := hV 16 (by decide) (by simp)
      have e17 := hV 17 (by decide) (by simp)
      have e18 : f 18 = .pointer (some ⟨x.2.1, 0, none⟩) := hV 18 (by decide) (by simp)
      have e19 : f 19 = .pointer (some ⟨x.2.1, 1, none⟩) := hV 19 (by decide) (by simp)
      have e20 := hV 20 (by decide) (by simp)
      have hLL : ∀ i, i < 21 → Ls i = true := fun i hi => hL i hi (by simp at *; omega)
      clear hV hL
      simp only [fill, List.take_succ_cons, List.take_zero, List.drop_succ_cons, List.drop_zero, Act.put, List.setIfInBounds_toArray, List.set_cons_zero, List.set_cons_succ, e0, e1, e2, e3, e4, e5, e6, e7, e9, e10, e11, e12, e13, e14, e15, e16, e18, e19]
      obtain ⟨hi1, hi2, hi3, r, sf, hH, hr0, hs0, hr1, hs1⟩ := hI
      obtain rfl := hs1 (hLL 20 (by decide))
      obtain ⟨hv, R, hx⟩ := hr1 (hLL 17 (by decide))
      have HX := Lib.hid hx; have HRN := Lib.hid R; have HHN := Lib.hid hH
      clear hi1 hi2 hi3 hr0 hs0 hr1 hs1 hLL hx R hH
      go_wp2_with fail
      go_ret
      have hsn : sf = ((min x.2.2.safe k : Nat) : Int) := by
        rw [← HSN.out]
        split <;> omega
      have hbl : (x.2.2.b.take k).length = k := by simp; omega
      have hfl2 := HFL.out
      rw [HL.out] at hfl2
      have hA2 := HA.out
      rw [HL.out] at hA2
      have hM2 := HM.out
      rw [HL.out] at hM2
      obtain ⟨f', hf'⟩ : ∃ f' : Fl, f' = ⟨x.2.2.b.take k, min x.2.2.safe k⟩ := ⟨_, rfl⟩
      have hfl' : f'.b.length = k := by rw [hf']; exact hbl
      have H6 : Holds w0 (hv ++ ((x.2.1, flO r f') :: ((g, dskO m.room m.lives m.power mb) :: (mb, o) :: (f1 ++ (f2 ++ F))))) w1 := by
        have h0 : Holds w0 ((x.2.1, flO r f') :: ((g, dskO m.room m.lives m.power mb) :: (mb, o) :: (f1 ++ (f2 ++ F)))) w1 := by
          have h1 := HHN.out
          rw [hsn] at h1
          have e : flQ r ((min x.2.2.safe k : Nat) : Int) = flO r f' := by rw [hf']; rfl
          rw [e] at h1
          exact h1.sub ((List.sublist_append_right _ _).cons_cons _)
        obtain ⟨h1, ⟨rfl, h00, rfl⟩ | ⟨gq, cap, cur, rfl, rfl, h2, h3, h4, h5⟩⟩ := HRN.out
        · exact h0
        · have hx := HX.out _ List.mem_cons_self
          refine h0.cons (Nat.le_trans HH4.out.size hx.2) hx.1 (fun y hy e => ?_)
          have hlt : y.1 < w5.heap.size := by
            rcases List.mem_cons.mp hy with rfl | hy
            · exact hfb
            · exact lt_of_block (HH4.out.mem (List.mem_cons_of_mem _ (List.mem_append_right _ hy)))
          have := hx.2
          simp only at this e
          omega
      rw [← hf']
      refine ⟨rfl, _, ⟨mb, o, L1 ++ (x.1, x.2.1, f') :: L2, f1 ++ (((x.2.1, flO r f') :: hv) ++ f2), ?_, ?_, ?_, rfl, ?_⟩, ?_⟩
      · have e : Es (L1 ++ (x.1, x.2.1, f') :: L2) = Es (L1 ++ x :: L2) := by simp [Es]
        rw [e]
        exact hM2
      · show setM s _ m.fl = _
        rw [hfl2, ← HXS.out]
        exact set_abs hA2
      · refine FilesR.mid.mpr ⟨f1, _, f2, K1.out, ⟨_, hv, ?_, rfl⟩, K2.out, rfl⟩
        rw [hfl', hf']
        exact HRN.out
      · have := ok_mid (f := f') HOK.out hfl2 (by rw [hfl', hf']; exact Nat.min_le_right _ _) (by have := HOK.out.tot; rw [hfl']; omega)
        rw [← set_abs hA2, HXS.out, ← hfl2] at this
        exact this
      · exact H6.perm (by classical rw [List.perm_iff_count]; intro a; simp only [List.count_append, List.count_cons, List.count_nil]; omega)
end Go.Proofs.Ytocpelkgiebkjaa
