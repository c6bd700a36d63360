/- Chapter 8's own answer: Crash: a contract for every world. Conditions: the theorem's own. -/
import Derived.Test.YtocpelkgiebkjaaRw2
namespace Go.Proofs.Ytocpelkgiebkjaa
open Go.RowKit Go.Proofs.Ytocpelkgiebkjaa.Sp
set_option linter.unusedVariables false
set_option linter.unusedSimpArgs false
theorem crN_lo {keep : Int} {f : Fl} {K : Int} {p : Nat} (hK : mx keep 0 = K) (hlt : K < (f.b.length : Int) - f.safe) (h0 : 0 ≤ K) (hp : (p : Int) = f.safe + K) : crN keep f = p := by
  unfold crN mn
  rw [hK, if_neg (by omega)]
  omega
theorem crN_hi {keep : Int} {f : Fl} {K : Int} (hK : mx keep 0 = K) (hge : ¬ K < (f.b.length : Int) - f.safe) (hs : f.safe ≤ f.b.length) : crN keep f = f.b.length := by
  unfold crN mn
  rw [hK]
  split <;> omega
theorem map_set (g : ByteArray × Fl → ByteArray × Fl) : ∀ (L : List (ByteArray × Fl)) (k : Nat) (x : ByteArray × Fl), L[k]? = some x → ((L.take k).map g ++ L.drop k).set k (g x) = (L.take (k + 1)).map g ++ L.drop (k + 1)
  | [], k, x, h => by simp at h
  | y :: L, 0, x, h => by
    obtain rfl : y = x := by simpa using h
    simp
  | y :: L, k + 1, x, h => by
    have := map_set g L k x (by simpa using h)
    simpa using this
def crK (m : DM) (keep : Int) (torn : UInt8) (k : Nat) : DM := { m with power := false, fl := (m.fl.take k).map (fun x => (x.1, crF keep torn x.2)) ++ m.fl.drop k }
theorem crK_at (m : DM) (keep : Int) (torn : UInt8) (k : Nat) (x : ByteArray × Fl) (h : m.fl[k]? = some x) : (crK m keep torn k).fl[k]? = some x := by
  have hlt := (List.getElem?_eq_some_iff.mp h).1
  unfold crK
  rw [List.getElem?_append_right (by simp; omega)]
  simp only [List.length_map, List.length_take, Nat.min_eq_left (Nat.le_of_lt hlt), Nat.sub_self, List.getElem?_drop, Nat.add_zero]
  exact h
theorem crK_len (m : DM) (keep : Int) (torn : UInt8) (k : Nat) : (crK m keep torn k).fl.length = m.fl.length := by
  unfold crK
  simp only [List.length_append, List.length_map, List.length_take, List.length_drop]
  omega
def CrJ (REST h10 : Hp) (Ls : Nat → Bool) (hs : Hp) : Prop := ∃ X, hs = REST ++ X ∧ (Ls 16 = false → X = h10)
theorem reads_z {w0 w : World} {F : Hp} {g : Nat} {z : UInt8} (H : Holds w0 ((g, .cells #[.int .u8 (z.toNat : Nat)] 5) :: F) w) : Reads w (some ⟨g, 0, none⟩) [z].length 1 (bv [z]) := by
  refine ⟨rfl, (fun h => by cases h), fun ad had j u hj => ?_⟩
  injection had with had
  subst had
  have e : (⟨g, 0, none⟩ : Addr).add j = ⟨g, j, none⟩ := by simp [Addr.add]; omega
  rw [e, H.cell j, ← Array.getElem?_toList]
  exact hj
set_option maxRecDepth 100000 in
set_option maxHeartbeats 8000000 in
theorem rcrash_neg (d : Nat) (m0 : DM) (h F : Hp) (keep : Int) (torn : UInt8) (w0 w : World) (hcnt : m0.fl.length ≤ 9000) (hok : m0.ok) (hneg : keep < 0) (hI : IsR d m0 h) (H : Holds w0 (h ++ F) w) :
    Calls Try.prog 25 #[.pointer (some ⟨d, 0, none⟩), .int .i64 keep, .int .u8 (torn.toNat : Nat)] w fun e w' => e = .returned (.tuple #[]) ∧ ∃ h', IsR d (crM m0 keep torn) h' ∧ Holds w0 (h' ++ F) w' := by
  obtain ⟨v, hrw, vs, hf, hR, hF, rfl⟩ := hI
  have c2 : w.cell? ⟨d, 2, none⟩ = some (.bool (!m0.power)) := Holds.cell H 2
  have f2 : w.frozen? ⟨d, 2, none⟩ = false := Holds.froz H 2
  have HH1 := Lib.hid (show Holds w0 (((d, rO (crK m0 keep torn 0) v) :: (hrw ++ hf)) ++ F) _ from Holds.set H 2 (.bool true))
  have HI1 := Lib.hid (show IsR d (crK m0 keep torn 0) ((d, rO (crK m0 keep torn 0) v) :: (hrw ++ hf)) from ⟨v, hrw, vs, hf, by rw [crK_len]; exact hR, hF, rfl⟩)
  have HSAFE := Lib.hid hok.safe
  have HTOT := Lib.hid (show ∀ x ∈ m0.fl, x.2.b.length ≤ 1048576 from fun x hx => by have := mem_tot _ x hx; have := hok.tot; have := hok.room; omega)
  obtain ⟨nf, hnf⟩ : ∃ nf, nf = m0.fl.length := ⟨_, rfl⟩
  have HNF := Lib.hid hnf
  have hnf9 : nf ≤ 9000 := by omega
  have HNEG := Lib.hid hneg
  clear H hR hF hok hnf
  go_enter Try.func25, Try.ntmps25
  go_wp2_with fail
  go_loopw [6] (fun i wr => ∃ k : Nat, k ≤ nf ∧ i = .int .i64 k ∧ ∃ h', IsR d (crK m0 keep torn k) h' ∧ Holds w0 (h' ++ F) wr) (fun i _ => nf - (intOf i).toNat)
  case atStart => exact ⟨0, by omega, rfl, _, HI1.out, HH1.out⟩
  case round =>
    obtain ⟨k, hk, rfl, h', hI', hH'⟩ := hrel
    obtain ⟨m, hm⟩ : ∃ m, m = crK m0 keep torn k := ⟨_, rfl⟩
    have hml : m.fl.length = nf := by rw [hm, crK_len, HNF.out]
    have hIm : IsR d m h' := by rw [hm]; exact hI'
    by_cases hlt : k < nf
    · obtain ⟨x, hx0⟩ : ∃ x, m0.fl[k]? = some x := ⟨_, List.getElem?_eq_getElem (by rw [← HNF.out]; exact hlt)⟩
      have hx : m.fl[k]? = some x := by rw [hm]; exact crK_at _ _ _ _ _ hx0
      have HMS := Lib.hid (show ({ m with fl := m.fl.set k (x.1, crF keep torn x.2) } : DM) = crK m0 keep torn (k + 1) by
        rw [hm]
        unfold crK
        simp only
        rw [map_set (fun x => (x.1, crF keep torn x.2)) m0.fl k x hx0])
      have hsf := HSAFE.out x (List.mem_of_getElem? hx0)
      have hxl := HTOT.out x (List.mem_of_getElem? hx0)
      have HXL := Lib.hid hxl
      obtain ⟨gL, c, cur, B, cB, hb, rest, H0, hc0, hrb, hcb, hBn, hks, hc1, hc2, hput⟩ := hIm.file hH' k x hx
      have HRB := Lib.hid hrb; have HBN := Lib.hid hBn; have HC1 := Lib.hid hc1; have HC2 := Lib.hid hc2; have HPUT := Lib.hid hput; have HH := Lib.hid H0
      have hki : (k : Int) < (m.fl.length : Int) := by omega
      clear hml
      have qd : wr.cell? ⟨d, 1, none⟩ = some (.slice (some ⟨gL, 0, none⟩) m.fl.length c) := Holds.cell H0.tail 1
      have HQF := Lib.hid (fun w2 (hb : Below wr.heap.size wr w2) => show w2.cell? ⟨gL, k * 3 + 1, none⟩ = some (.slice B x.2.b.length cB) from (Holds.cell (H0.grow hb) _).trans hc1)
      have HQS := Lib.hid (fun w2 (hb : Below wr.heap.size wr w2) => show w2.cell? ⟨gL, k * 3 + 2, none⟩ = some (.int .i64 x.2.safe) from (Holds.cell (H0.grow hb) _).trans hc2)
      obtain ⟨dn, hdn⟩ : ∃ dn : Int, dn = (x.2.b.length : Int) - (x.2.safe : Int) := ⟨_, rfl⟩
      have hwd : IntKind.i64.wrap ((x.2.b.length : Int) - (x.2.safe : Int)) = dn := by rw [IntKind.wrap_i64]; omega
      have HDN := Lib.hid hdn
      clear hI' hH' hIm hx hx0 hc1 hc2 hput hrb hBn H0 hdn hm
      go_wp2_with fail
      refine region_quiet_lit (C := fun w' => Below wr.heap.size wr w') (by kernel_rfl) (by kernel_rfl) (Below.refl _ _).drew ?_
      go_big_quiet_step (exact fun _ => rfl)
      go_big_quiet_step (exact fun _ => rfl)
      go_big_quiet_step (exact fun _ => rfl)
      refine BigFrame.wpQuiet_want rfl (fun K hK => ?_)
      refine quiet_val (.slice B x.2.b.length cB) (fun w2 hw => by have q := HQF.out w2 hw; simp [go_sem, q]) (hK _ ?_)
      clear hK K
      simp only [Act.put, List.setIfInBounds_toArray, List.set_cons_zero, List.set_cons_succ]
      go_big_quiet_step (exact fun _ => rfl)
      go_big_quiet_step (exact fun _ => rfl)
      go_big_quiet_step (exact fun _ => rfl)
      go_big_quiet_step (exact fun _ => rfl)
      refine BigFrame.wpQuiet_want rfl (fun K hK => ?_)
      refine quiet_val (.int .i64 x.2.safe) (fun w2 hw => by have q := HQS.out w2 hw; simp [go_sem, q]) (hK _ ?_)
      clear hK K
      simp only [Act.put, List.setIfInBounds_toArray, List.set_cons_zero, List.set_cons_succ]
      refine BigFrame.wpQuiet_want rfl (fun K hK => ?_)
      refine quiet_val (.int .i64 dn) (fun w2 hw => by simp [go_sem, hwd]) (hK _ ?_)
      clear hK K
      simp only [Act.put, List.setIfInBounds_toArray, List.set_cons_zero, List.set_cons_succ]
      go_big_quiet_step (exact fun _ => rfl)
      refine wpQuiet_nil ?_
      intro w4 hw4
      have HH4 := Lib.hid (HH.out.grow hw4)
      clear hw4
      by_cases hkd : (0 : Int) < dn
      · obtain ⟨p, hp⟩ : ∃ p : Nat, (p : Int) = (x.2.safe : Int) + (0 : Int) := ⟨x.2.safe + ((0 : Int)).toNat, by omega⟩
        have HP := Lib.hid hp
        have hdn := HDN.out
        have HPL := Lib.hid (show p ≤ x.2.b.length by omega)
        have HPLT := Lib.hid (show p < x.2.b.length by omega)
        have HADD := Lib.hid (show IntKind.i64.wrap ((x.2.safe : Int)) = (p : Int) by rw [IntKind.wrap_i64]; omega)
        have HTK := Lib.hid (show (x.2.b.take p).length = p by rw [List.length_take]; omega)
        have hcn : crN keep x.2 = p := crN_lo (K := (0 : Int)) (by unfold mx; rw [if_pos HNEG.out]) (by omega) (by omega) hp
        by_cases ht : torn = 0
        · have ht1 : ((torn.toNat : Int) != 0) = false := by rw [ht]; rfl
          have ht2 : ((torn.toNat : Int) = 0) := by rw [ht]; rfl
          have HCRB := Lib.hid (show crB keep torn x.2 = x.2.b.take p by unfold crB; rw [hcn, if_neg (by simp [ht])])
          clear hp hdn hcn ht
          go_wp2_with fail
          refine wp_region_own 13 (fun k => match k with | 12 => [0] | 13 => [12] | _ => []) (by kernel_rfl) (by kernel_rfl) (by kernel_rfl) (by kernel_rfl) (Nat.le_of_ble_eq_true (by kernel_rfl)) w0 (fun Ls hs => hs = ((gL, Obj.cells cur 51) :: ((d, rO m (.slice (some ⟨gL, 0, none⟩) m.fl.length c)) :: (hb ++ (rest ++ F))))) (fun i v h => match i with | 0 => RowB 5 1 v 0 (bv []) h | 1 => v = .pointer (some ⟨gL, k * 3, none⟩) ∧ h = [] | 2 => v = .pointer (some ⟨gL, k * 3, none⟩) ∧ h = [] | 3 => v = .pointer (some ⟨gL, k * 3 + 1, none⟩) ∧ h = [] | 4 => v = Value.slice B x.2.b.length cB ∧ h = [] | 5 => v = .pointer (some ⟨gL, k * 3, none⟩) ∧ h = [] | 6 => v = .pointer (some ⟨gL, k * 3, none⟩) ∧ h = [] | 7 => v = .pointer (some ⟨gL, k * 3 + 2, none⟩) ∧ h = [] | 8 => v = .int .i64 x.2.safe ∧ h = [] | 9 => v = .int .i64 0 ∧ h = [] | 10 => v = .int .i64 (p : Nat) ∧ h = [] | 11 => v = .slice B p cB ∧ h = [] | 12 => RowB 5 1 v ([] ++ (x.2.b.take p)).length (bv ([] ++ (x.2.b.take p))) h | _ => True) (((gL, Obj.cells cur 51) :: ((d, rO m (.slice (some ⟨gL, 0, none⟩) m.fl.length c)) :: (hb ++ (rest ++ F))))) (rfl) (HH4.out.drew) ?_ ?_
          · intro i o hi ho Ls f Hf hs R w1 hI hL hd hH
            simp only [fill, List.take_succ_cons, List.take_zero, Act.put, List.setIfInBounds_toArray, List.set_cons_zero, List.set_cons_succ]
            match i, hi with
            | 0, _ =>
              obtain rfl := Option.some.inj ho
              clear hd ho
              have hH : Holds w0 (hs ++ ([] ++ R)) w1 := hH
              rw [show hs = ((gL, Obj.cells cur 51) :: ((d, rO m (.slice (some ⟨gL, 0, none⟩) m.fl.length c)) :: (hb ++ (rest ++ F)))) from hI] at hH
              clear hI
              unfold wpOp
              refine Or.inl ?_
              unfold Oper.wp
              go_simp
              exact OwnBy.mk _ [(w1.heap.size, .cells #[] 5)] _ rfl rfl (RowB.lit hH #[] 0 (by decide) rfl) ((hH.alloc (.cells #[] 5)).perm (by classical rw [List.perm_iff_count]; intro a; simp only [List.count_append, List.count_cons, List.count_nil] <;> omega))
            | 1, _ =>
              obtain rfl := Option.some.inj ho
              clear hd ho
              have hH : Holds w0 (hs ++ ([] ++ R)) w1 := hH
              rw [show hs = ((gL, Obj.cells cur 51) :: ((d, rO m (.slice (some ⟨gL, 0, none⟩) m.fl.length c)) :: (hb ++ (rest ++ F)))) from hI] at hH
              clear hI
              unfold wpOp
              refine Or.inl ?_
              unfold Oper.wp
              go_simp
              exact OwnBy.mk _ _ _ rfl (rfl) (⟨rfl, rfl⟩) (hH)
            | 2, _ =>
              obtain rfl := Option.some.inj ho
              have e1 : f 1 = .pointer (some ⟨gL, k * 3, none⟩) := (hd ⟨1, .data⟩ (by simp) rfl).2.1
              clear hd ho
              have hH : Holds w0 (hs ++ ([] ++ R)) w1 := hH
              rw [show hs = ((gL, Obj.cells cur 51) :: ((d, rO m (.slice (some ⟨gL, 0, none⟩) m.fl.length c)) :: (hb ++ (rest ++ F)))) from hI] at hH
              clear hI
              unfold wpOp
              refine Or.inl ?_
              simp only [e1]
              unfold Oper.wp
              go_simp
              exact OwnBy.mk _ _ _ rfl (rfl) (⟨rfl, rfl⟩) (hH)
            | 3, _ =>
              obtain rfl := Option.some.inj ho
              have e2 : f 2 = .pointer (some ⟨gL, k * 3, none⟩) := (hd ⟨2, .data⟩ (by simp) rfl).2.1
              clear hd ho
              have hH : Holds w0 (hs ++ ([] ++ R)) w1 := hH
              rw [show hs = ((gL, Obj.cells cur 51) :: ((d, rO m (.slice (some ⟨gL, 0, none⟩) m.fl.length c)) :: (hb ++ (rest ++ F)))) from hI] at hH
              clear hI
              unfold wpOp
              refine Or.inl ?_
              simp only [e2]
              unfold Oper.wp
              go_simp
              exact OwnBy.mk _ _ _ rfl (rfl) (⟨rfl, rfl⟩) (hH)
            | 4, _ =>
              obtain rfl := Option.some.inj ho
              have e3 : f 3 = .pointer (some ⟨gL, k * 3 + 1, none⟩) := (hd ⟨3, .data⟩ (by simp) rfl).2.1
              clear hd ho
              have hH : Holds w0 (hs ++ ([] ++ R)) w1 := hH
              rw [show hs = ((gL, Obj.cells cur 51) :: ((d, rO m (.slice (some ⟨gL, 0, none⟩) m.fl.length c)) :: (hb ++ (rest ++ F)))) from hI] at hH
              clear hI
              unfold wpOp
              refine Or.inl ?_
              simp only [e3]
              unfold Oper.wp
              have q : w1.cell? ⟨gL, k * 3 + 1, none⟩ = some (.slice B x.2.b.length cB) := (Holds.cell hH (k * 3 + 1)).trans HC1.out
              go_simp
              exact OwnBy.mk _ _ _ rfl (rfl) (⟨rfl, rfl⟩) (hH)
            | 5, _ =>
              obtain rfl := Option.some.inj ho
              clear hd ho
              have hH : Holds w0 (hs ++ ([] ++ R)) w1 := hH
              rw [show hs = ((gL, Obj.cells cur 51) :: ((d, rO m (.slice (some ⟨gL, 0, none⟩) m.fl.length c)) :: (hb ++ (rest ++ F)))) from hI] at hH
              clear hI
              unfold wpOp
              refine Or.inl ?_
              unfold Oper.wp
              go_simp
              exact OwnBy.mk _ _ _ rfl (rfl) (⟨rfl, rfl⟩) (hH)
            | 6, _ =>
              obtain rfl := Option.some.inj ho
              have e5 : f 5 = .pointer (some ⟨gL, k * 3, none⟩) := (hd ⟨5, .data⟩ (by simp) rfl).2.1
              clear hd ho
              have hH : Holds w0 (hs ++ ([] ++ R)) w1 := hH
              rw [show hs = ((gL, Obj.cells cur 51) :: ((d, rO m (.slice (some ⟨gL, 0, none⟩) m.fl.length c)) :: (hb ++ (rest ++ F)))) from hI] at hH
              clear hI
              unfold wpOp
              refine Or.inl ?_
              simp only [e5]
              unfold Oper.wp
              go_simp
              exact OwnBy.mk _ _ _ rfl (rfl) (⟨rfl, rfl⟩) (hH)
            | 7, _ =>
              obtain rfl := Option.some.inj ho
              have e6 : f 6 = .pointer (some ⟨gL, k * 3, none⟩) := (hd ⟨6, .data⟩ (by simp) rfl).2.1
              clear hd ho
              have hH : Holds w0 (hs ++ ([] ++ R)) w1 := hH
              rw [show hs = ((gL, Obj.cells cur 51) :: ((d, rO m (.slice (some ⟨gL, 0, none⟩) m.fl.length c)) :: (hb ++ (rest ++ F)))) from hI] at hH
              clear hI
              unfold wpOp
              refine Or.inl ?_
              simp only [e6]
              unfold Oper.wp
              go_simp
              exact OwnBy.mk _ _ _ rfl (rfl) (⟨rfl, rfl⟩) (hH)
            | 8, _ =>
              obtain rfl := Option.some.inj ho
              have e7 : f 7 = .pointer (some ⟨gL, k * 3 + 2, none⟩) := (hd ⟨7, .data⟩ (by simp) rfl).2.1
              clear hd ho
              have hH : Holds w0 (hs ++ ([] ++ R)) w1 := hH
              rw [show hs = ((gL, Obj.cells cur 51) :: ((d, rO m (.slice (some ⟨gL, 0, none⟩) m.fl.length c)) :: (hb ++ (rest ++ F)))) from hI] at hH
              clear hI
              unfold wpOp
              refine Or.inl ?_
              simp only [e7]
              unfold Oper.wp
              have q : w1.cell? ⟨gL, k * 3 + 2, none⟩ = some (.int .i64 x.2.safe) := (Holds.cell hH (k * 3 + 2)).trans HC2.out
              go_simp
              exact OwnBy.mk _ _ _ rfl (rfl) (⟨rfl, rfl⟩) (hH)
            | 9, _ =>
              obtain rfl := Option.some.inj ho
              clear hd ho
              have hH : Holds w0 (hs ++ ([] ++ R)) w1 := hH
              rw [show hs = ((gL, Obj.cells cur 51) :: ((d, rO m (.slice (some ⟨gL, 0, none⟩) m.fl.length c)) :: (hb ++ (rest ++ F)))) from hI] at hH
              clear hI
              unfold wpOp
              refine Or.inl ?_
              unfold Oper.wp
              go_simp
              exact OwnBy.mk _ _ _ rfl (rfl) (⟨rfl, rfl⟩) (hH)
            | 10, _ =>
              obtain rfl := Option.some.inj ho
              have e8 : f 8 = .int .i64 x.2.safe := (hd ⟨8, .data⟩ (by simp) rfl).2.1
              have e9 : f 9 = .int .i64 0 := (hd ⟨9, .data⟩ (by simp) rfl).2.1
              clear hd ho
              have hH : Holds w0 (hs ++ ([] ++ R)) w1 := hH
              rw [show hs = ((gL, Obj.cells cur 51) :: ((d, rO m (.slice (some ⟨gL, 0, none⟩) m.fl.length c)) :: (hb ++ (rest ++ F)))) from hI] at hH
              clear hI
              unfold wpOp
              refine Or.inl ?_
              simp only [e8, e9]
              unfold Oper.wp
              have qa := HADD.out
              go_simp
              exact OwnBy.mk _ _ _ rfl (rfl) (⟨rfl, rfl⟩) (hH)
            | 11, _ =>
              obtain rfl := Option.some.inj ho
              have e4 : f 4 = Value.slice B x.2.b.length cB := (hd ⟨4, .data⟩ (by simp) rfl).2.1
              have e10 : f 10 = .int .i64 (p : Nat) := (hd ⟨10, .data⟩ (by simp) rfl).2.1
              clear hd ho
              have hH : Holds w0 (hs ++ ([] ++ R)) w1 := hH
              rw [show hs = ((gL, Obj.cells cur 51) :: ((d, rO m (.slice (some ⟨gL, 0, none⟩) m.fl.length c)) :: (hb ++ (rest ++ F)))) from hI] at hH
              clear hI
              unfold wpOp
              refine Or.inl ?_
              simp only [e4, e10]
              unfold Oper.wp
              have hcut := cutHi Try.underlying28 sz5 B x.2.b.length cB p HPL.out hcb w1
              go_simp
              exact OwnBy.mk _ _ _ rfl (rfl) (⟨rfl, rfl⟩) (hH)
            | 12, _ =>
              obtain rfl := Option.some.inj ho
              have e0 := (hd ⟨0, .data⟩ (by simp) rfl).2
              have e11 : f 11 = .slice B p cB := (hd ⟨11, .data⟩ (by simp) rfl).2.1
              clear hd ho
              have hH : Holds w0 (hs ++ ((Hf 0 ++ ([])) ++ R)) w1 := hH
              simp only [List.append_nil, List.append_assoc] at hH
              rw [show hs = ((gL, Obj.cells cur 51) :: ((d, rO m (.slice (some ⟨gL, 0, none⟩) m.fl.length c)) :: (hb ++ (rest ++ F)))) from hI] at hH
              clear hI
              unfold wpOp
              refine Or.inl ?_
              simp only [e11]
              unfold Oper.wp
              obtain ⟨A0, c0, hv0, _, _, hrd⟩ := HRB.out.reads (hH.perm (k := hb ++ (((gL, Obj.cells cur 51) :: ((d, rO m (.slice (some ⟨gL, 0, none⟩) m.fl.length c)) :: (rest ++ F))) ++ (Hf 0 ++ R))) (by classical rw [List.perm_iff_count]; intro a; simp only [List.count_append, List.count_cons, List.count_nil] <;> omega))
              injection hv0 with hv0 _ hv0c
              subst hv0
              subst hv0c
              have hrd2 : Reads w1 B (x.2.b.take p).length 1 (bv (x.2.b.take p)) := by have := hrd.take (k := p) HPL.out; rw [Nat.mul_one, bv_take] at this; rw [HTK.out]; exact this
              have hxl := HXL.out
              have htk := HTK.out
              obtain ⟨v8, h8, w8, r1, r2, r3⟩ := bytes_append (bs := []) e0 (hH.perm (k := Hf 0 ++ (((gL, Obj.cells cur 51) :: ((d, rO m (.slice (some ⟨gL, 0, none⟩) m.fl.length c)) :: (hb ++ (rest ++ F)))) ++ R)) (by classical rw [List.perm_iff_count]; intro a; simp only [List.count_append, List.count_cons, List.count_nil] <;> omega)) 28 (B) (cB) ((x.2.b.take p)) (HBN.out) (hrd2) (by rw [htk]; simp only [List.length_nil]; have := HPL.out; omega)
              rw [HTK.out] at r1
              refine wpA (.tmp 52) (.tmp 63) rfl rfl rfl r1 ?_
              exact OwnBy.mk _ h8 _ rfl rfl r2 (r3.perm (by classical rw [List.perm_iff_count]; intro a; simp only [List.count_append, List.count_cons, List.count_nil] <;> omega))
          · intro Ls f Hf hs w1 hI hL hV hH
            have e0 := hV 0 (by decide)
            have e1 : f 1 = .pointer (some ⟨gL, k * 3, none⟩) := (hV 1 (by decide)).1
            have e2 : f 2 = .pointer (some ⟨gL, k * 3, none⟩) := (hV 2 (by decide)).1
            have e3 : f 3 = .pointer (some ⟨gL, k * 3 + 1, none⟩) := (hV 3 (by decide)).1
            have e4 : f 4 = Value.slice B x.2.b.length cB := (hV 4 (by decide)).1
            have e5 : f 5 = .pointer (some ⟨gL, k * 3, none⟩) := (hV 5 (by decide)).1
            have e6 : f 6 = .pointer (some ⟨gL, k * 3, none⟩) := (hV 6 (by decide)).1
            have e7 : f 7 = .pointer (some ⟨gL, k * 3 + 2, none⟩) := (hV 7 (by decide)).1
            have e8 : f 8 = .int .i64 x.2.safe := (hV 8 (by decide)).1
            have e9 : f 9 = .int .i64 0 := (hV 9 (by decide)).1
            have e10 : f 10 = .int .i64 (p : Nat) := (hV 10 (by decide)).1
            have e11 : f 11 = .slice B p cB := (hV 11 (by decide)).1
            have e12 := hV 12 (by decide)
            clear hV
            have hH : Holds w0 (hs ++ (Hf 12 ++ [])) w1 := hH
            simp only [List.append_nil, List.append_assoc] at hH
            simp only [fill, List.take_succ_cons, List.take_zero, List.drop_succ_cons, List.drop_zero, Act.put, List.setIfInBounds_toArray, List.set_cons_zero, List.set_cons_succ, e1, e2, e3, e4, e5, e6, e7, e8, e9, e10, e11]
            rw [show hs = ((gL, Obj.cells cur 51) :: ((d, rO m (.slice (some ⟨gL, 0, none⟩) m.fl.length c)) :: (hb ++ (rest ++ F)))) from hI] at hH
            clear hI
            rw [List.nil_append] at e12
            obtain ⟨A8, c8, hv8, _, _⟩ := RowB.form e12
            rw [hv8] at e12 ⊢
            obtain ⟨n8, hn8⟩ : ∃ n8, n8 = (x.2.b.take p).length := ⟨_, rfl⟩
            rw [← hn8] at e12 ⊢
            have HR8 := Lib.hid e12
            have HN8 := Lib.hid (show (x.2.b.take p).length = n8 from hn8.symm)
            have HCR := Lib.hid (show crF keep torn x.2 = ⟨x.2.b.take p, n8⟩ by have e := HCRB.out; unfold crF; rw [e, hn8])
            have hH2 := hH
            clear hL hH hv8 hn8
            have H9 : Holds w0 ((gL, Obj.cells cur 51) :: ((d, rO m (.slice (some ⟨gL, 0, none⟩) m.fl.length c)) :: (Hf 12 ++ (rest ++ F)) ++ hb)) w1 := hH2.perm (by classical rw [List.perm_iff_count]; intro a; simp only [List.count_append, List.count_cons, List.count_nil] <;> omega)
            have q2 : w1.cell? ⟨gL, k * 3 + 1, none⟩ = some (.slice B x.2.b.length cB) := (H9.cell _).trans HC1.out
            have q3 : w1.frozen? ⟨gL, k * 3 + 1, none⟩ = false := H9.froz _
            have H10 : Holds w0 ((gL, Obj.cells (cur.setIfInBounds (k * 3 + 1) (.slice A8 n8 c8)) 51) :: ((d, rO m (.slice (some ⟨gL, 0, none⟩) m.fl.length c)) :: (Hf 12 ++ (rest ++ F)) ++ hb)) _ := H9.set (k * 3 + 1) (.slice A8 n8 c8)
            have q5 : (w1.setCell ⟨gL, k * 3 + 1, none⟩ (.slice A8 n8 c8)).cell? ⟨gL, k * 3 + 2, none⟩ = some (.int .i64 x.2.safe) := by rw [Holds.cell H10, Array.getElem?_setIfInBounds_ne (by omega)]; exact HC2.out
            have q6 : (w1.setCell ⟨gL, k * 3 + 1, none⟩ (.slice A8 n8 c8)).frozen? ⟨gL, k * 3 + 2, none⟩ = false := Holds.froz H10 _
            have HH11 := Lib.hid (H10.set (k * 3 + 2) (.int .i64 (n8 : Nat)))
            clear H9 H10
            go_wp2_with fail
            go_roundw
            case rel =>
              have hfin := HPUT.out (.slice A8 n8 c8) ⟨x.2.b.take p, n8⟩ (Hf 12) _ (by show RowB 5 1 _ (x.2.b.take p).length _ _; rw [HN8.out]; exact HR8.out) (HH11.out.perm (k := ((gL, _) :: ((d, rO m (.slice (some ⟨gL, 0, none⟩) m.fl.length c)) :: (Hf 12 ++ (rest ++ F)))) ++ hb) (by classical rw [List.perm_iff_count]; intro a; simp only [List.count_append, List.count_cons, List.count_nil] <;> omega)).left
              have e8 : (x.1, (⟨x.2.b.take p, n8⟩ : Fl)) = (x.1, crF keep torn x.2) := by rw [HCR.out]
              rw [e8, HMS.out] at hfin
              exact ⟨k + 1, by omega, by go_num, hfin⟩
            case measure => simp [intOf]; omega
        · have ht0 : torn.toNat ≠ 0 := fun h => ht (UInt8.toNat_inj.1 (by simpa using h))
          have ht1 : ((torn.toNat : Int) != 0) = true := by simpa using ht0
          have ht2 : ¬ ((torn.toNat : Int) = 0) := by omega
          have HCRB := Lib.hid (show crB keep torn x.2 = x.2.b.take p ++ [x.2.b.getD p 0 ^^^ torn] by unfold crB; rw [hcn, if_pos ⟨HPLT.out, ht⟩])
          clear hp hdn hcn ht ht0
          go_wp2_with fail
          refine wp_region_own 13 (fun k => match k with | 12 => [0] | 13 => [12] | _ => []) (by kernel_rfl) (by kernel_rfl) (by kernel_rfl) (by kernel_rfl) (Nat.le_of_ble_eq_true (by kernel_rfl)) w0 (fun Ls hs => hs = ((gL, Obj.cells cur 51) :: ((d, rO m (.slice (some ⟨gL, 0, none⟩) m.fl.length c)) :: (hb ++ (rest ++ F))))) (fun i v h => match i with | 0 => RowB 5 1 v 0 (bv []) h | 1 => v = .pointer (some ⟨gL, k * 3, none⟩) ∧ h = [] | 2 => v = .pointer (some ⟨gL, k * 3, none⟩) ∧ h = [] | 3 => v = .pointer (some ⟨gL, k * 3 + 1, none⟩) ∧ h = [] | 4 => v = Value.slice B x.2.b.length cB ∧ h = [] | 5 => v = .pointer (some ⟨gL, k * 3, none⟩) ∧ h = [] | 6 => v = .pointer (some ⟨gL, k * 3, none⟩) ∧ h = [] | 7 => v = .pointer (some ⟨gL, k * 3 + 2, none⟩) ∧ h = [] | 8 => v = .int .i64 x.2.safe ∧ h = [] | 9 => v = .int .i64 0 ∧ h = [] | 10 => v = .int .i64 (p : Nat) ∧ h = [] | 11 => v = .slice B p cB ∧ h = [] | 12 => RowB 5 1 v ([] ++ (x.2.b.take p)).length (bv ([] ++ (x.2.b.take p))) h | _ => True) (((gL, Obj.cells cur 51) :: ((d, rO m (.slice (some ⟨gL, 0, none⟩) m.fl.length c)) :: (hb ++ (rest ++ F))))) (rfl) (HH4.out.drew) ?_ ?_
          · intro i o hi ho Ls f Hf hs R w1 hI hL hd hH
            simp only [fill, List.take_succ_cons, List.take_zero, Act.put, List.setIfInBounds_toArray, List.set_cons_zero, List.set_cons_succ]
            match i, hi with
            | 0, _ =>
              obtain rfl := Option.some.inj ho
              clear hd ho
              have hH : Holds w0 (hs ++ ([] ++ R)) w1 := hH
              rw [show hs = ((gL, Obj.cells cur 51) :: ((d, rO m (.slice (some ⟨gL, 0, none⟩) m.fl.length c)) :: (hb ++ (rest ++ F)))) from hI] at hH
              clear hI
              unfold wpOp
              refine Or.inl ?_
              unfold Oper.wp
              go_simp
              exact OwnBy.mk _ [(w1.heap.size, .cells #[] 5)] _ rfl rfl (RowB.lit hH #[] 0 (by decide) rfl) ((hH.alloc (.cells #[] 5)).perm (by classical rw [List.perm_iff_count]; intro a; simp only [List.count_append, List.count_cons, List.count_nil] <;> omega))
            | 1, _ =>
              obtain rfl := Option.some.inj ho
              clear hd ho
              have hH : Holds w0 (hs ++ ([] ++ R)) w1 := hH
              rw [show hs = ((gL, Obj.cells cur 51) :: ((d, rO m (.slice (some ⟨gL, 0, none⟩) m.fl.length c)) :: (hb ++ (rest ++ F)))) from hI] at hH
              clear hI
              unfold wpOp
              refine Or.inl ?_
              unfold Oper.wp
              go_simp
              exact OwnBy.mk _ _ _ rfl (rfl) (⟨rfl, rfl⟩) (hH)
            | 2, _ =>
              obtain rfl := Option.some.inj ho
              have e1 : f 1 = .pointer (some ⟨gL, k * 3, none⟩) := (hd ⟨1, .data⟩ (by simp) rfl).2.1
              clear hd ho
              have hH : Holds w0 (hs ++ ([] ++ R)) w1 := hH
              rw [show hs = ((gL, Obj.cells cur 51) :: ((d, rO m (.slice (some ⟨gL, 0, none⟩) m.fl.length c)) :: (hb ++ (rest ++ F)))) from hI] at hH
              clear hI
              unfold wpOp
              refine Or.inl ?_
              simp only [e1]
              unfold Oper.wp
              go_simp
              exact OwnBy.mk _ _ _ rfl (rfl) (⟨rfl, rfl⟩) (hH)
            | 3, _ =>
              obtain rfl := Option.some.inj ho
              have e2 : f 2 = .pointer (some ⟨gL, k * 3, none⟩) := (hd ⟨2, .data⟩ (by simp) rfl).2.1
              clear hd ho
              have hH : Holds w0 (hs ++ ([] ++ R)) w1 := hH
              rw [show hs = ((gL, Obj.cells cur 51) :: ((d, rO m (.slice (some ⟨gL, 0, none⟩) m.fl.length c)) :: (hb ++ (rest ++ F)))) from hI] at hH
              clear hI
              unfold wpOp
              refine Or.inl ?_
              simp only [e2]
              unfold Oper.wp
              go_simp
              exact OwnBy.mk _ _ _ rfl (rfl) (⟨rfl, rfl⟩) (hH)
            | 4, _ =>
              obtain rfl := Option.some.inj ho
              have e3 : f 3 = .pointer (some ⟨gL, k * 3 + 1, none⟩) := (hd ⟨3, .data⟩ (by simp) rfl).2.1
              clear hd ho
              have hH : Holds w0 (hs ++ ([] ++ R)) w1 := hH
              rw [show hs = ((gL, Obj.cells cur 51) :: ((d, rO m (.slice (some ⟨gL, 0, none⟩) m.fl.length c)) :: (hb ++ (rest ++ F)))) from hI] at hH
              clear hI
              unfold wpOp
              refine Or.inl ?_
              simp only [e3]
              unfold Oper.wp
              have q : w1.cell? ⟨gL, k * 3 + 1, none⟩ = some (.slice B x.2.b.length cB) := (Holds.cell hH (k * 3 + 1)).trans HC1.out
              go_simp
              exact OwnBy.mk _ _ _ rfl (rfl) (⟨rfl, rfl⟩) (hH)
            | 5, _ =>
              obtain rfl := Option.some.inj ho
              clear hd ho
              have hH : Holds w0 (hs ++ ([] ++ R)) w1 := hH
              rw [show hs = ((gL, Obj.cells cur 51) :: ((d, rO m (.slice (some ⟨gL, 0, none⟩) m.fl.length c)) :: (hb ++ (rest ++ F)))) from hI] at hH
              clear hI
              unfold wpOp
              refine Or.inl ?_
              unfold Oper.wp
              go_simp
              exact OwnBy.mk _ _ _ rfl (rfl) (⟨rfl, rfl⟩) (hH)
            | 6, _ =>
              obtain rfl := Option.some.inj ho
              have e5 : f 5 = .pointer (some ⟨gL, k * 3, none⟩) := (hd ⟨5, .data⟩ (by simp) rfl).2.1
              clear hd ho
              have hH : Holds w0 (hs ++ ([] ++ R)) w1 := hH
              rw [show hs = ((gL, Obj.cells cur 51) :: ((d, rO m (.slice (some ⟨gL, 0, none⟩) m.fl.length c)) :: (hb ++ (rest ++ F)))) from hI] at hH
              clear hI
              unfold wpOp
              refine Or.inl ?_
              simp only [e5]
              unfold Oper.wp
              go_simp
              exact OwnBy.mk _ _ _ rfl (rfl) (⟨rfl, rfl⟩) (hH)
            | 7, _ =>
              obtain rfl := Option.some.inj ho
              have e6 : f 6 = .pointer (some ⟨gL, k * 3, none⟩) := (hd ⟨6, .data⟩ (by simp) rfl).2.1
              clear hd ho
              have hH : Holds w0 (hs ++ ([] ++ R)) w1 := hH
              rw [show hs = ((gL, Obj.cells cur 51) :: ((d, rO m (.slice (some ⟨gL, 0, none⟩) m.fl.length c)) :: (hb ++ (rest ++ F)))) from hI] at hH
              clear hI
              unfold wpOp
              refine Or.inl ?_
              simp only [e6]
              unfold Oper.wp
              go_simp
              exact OwnBy.mk _ _ _ rfl (rfl) (⟨rfl, rfl⟩) (hH)
            | 8, _ =>
              obtain rfl := Option.some.inj ho
              have e7 : f 7 = .pointer (some ⟨gL, k * 3 + 2, none⟩) := (hd ⟨7, .data⟩ (by simp) rfl).2.1
              clear hd ho
              have hH : Holds w0 (hs ++ ([] ++ R)) w1 := hH
              rw [show hs = ((gL, Obj.cells cur 51) :: ((d, rO m (.slice (some ⟨gL, 0, none⟩) m.fl.length c)) :: (hb ++ (rest ++ F)))) from hI] at hH
              clear hI
              unfold wpOp
              refine Or.inl ?_
              simp only [e7]
              unfold Oper.wp
              have q : w1.cell? ⟨gL, k * 3 + 2, none⟩ = some (.int .i64 x.2.safe) := (Holds.cell hH (k * 3 + 2)).trans HC2.out
              go_simp
              exact OwnBy.mk _ _ _ rfl (rfl) (⟨rfl, rfl⟩) (hH)
            | 9, _ =>
              obtain rfl := Option.some.inj ho
              clear hd ho
              have hH : Holds w0 (hs ++ ([] ++ R)) w1 := hH
              rw [show hs = ((gL, Obj.cells cur 51) :: ((d, rO m (.slice (some ⟨gL, 0, none⟩) m.fl.length c)) :: (hb ++ (rest ++ F)))) from hI] at hH
              clear hI
              unfold wpOp
              refine Or.inl ?_
              unfold Oper.wp
              go_simp
              exact OwnBy.mk _ _ _ rfl (rfl) (⟨rfl, rfl⟩) (hH)
            | 10, _ =>
              obtain rfl := Option.some.inj ho
              have e8 : f 8 = .int .i64 x.2.safe := (hd ⟨8, .data⟩ (by simp) rfl).2.1
              have e9 : f 9 = .int .i64 0 := (hd ⟨9, .data⟩ (by simp) rfl).2.1
              clear hd ho
              have hH : Holds w0 (hs ++ ([] ++ R)) w1 := hH
              rw [show hs = ((gL, Obj.cells cur 51) :: ((d, rO m (.slice (some ⟨gL, 0, none⟩) m.fl.length c)) :: (hb ++ (rest ++ F)))) from hI] at hH
              clear hI
              unfold wpOp
              refine Or.inl ?_
              simp only [e8, e9]
              unfold Oper.wp
              have qa := HADD.out
              go_simp
              exact OwnBy.mk _ _ _ rfl (rfl) (⟨rfl, rfl⟩) (hH)
            | 11, _ =>
              obtain rfl := Option.some.inj ho
              have e4 : f 4 = Value.slice B x.2.b.length cB := (hd ⟨4, .data⟩ (by simp) rfl).2.1
              have e10 : f 10 = .int .i64 (p : Nat) := (hd ⟨10, .data⟩ (by simp) rfl).2.1
              clear hd ho
              have hH : Holds w0 (hs ++ ([] ++ R)) w1 := hH
              rw [show hs = ((gL, Obj.cells cur 51) :: ((d, rO m (.slice (some ⟨gL, 0, none⟩) m.fl.length c)) :: (hb ++ (rest ++ F)))) from hI] at hH
              clear hI
              unfold wpOp
              refine Or.inl ?_
              simp only [e4, e10]
              unfold Oper.wp
              have hcut := cutHi Try.underlying28 sz5 B x.2.b.length cB p HPL.out hcb w1
              go_simp
              exact OwnBy.mk _ _ _ rfl (rfl) (⟨rfl, rfl⟩) (hH)
            | 12, _ =>
              obtain rfl := Option.some.inj ho
              have e0 := (hd ⟨0, .data⟩ (by simp) rfl).2
              have e11 : f 11 = .slice B p cB := (hd ⟨11, .data⟩ (by simp) rfl).2.1
              clear hd ho
              have hH : Holds w0 (hs ++ ((Hf 0 ++ ([])) ++ R)) w1 := hH
              simp only [List.append_nil, List.append_assoc] at hH
              rw [show hs = ((gL, Obj.cells cur 51) :: ((d, rO m (.slice (some ⟨gL, 0, none⟩) m.fl.length c)) :: (hb ++ (rest ++ F)))) from hI] at hH
              clear hI
              unfold wpOp
              refine Or.inl ?_
              simp only [e11]
              unfold Oper.wp
              obtain ⟨A0, c0, hv0, _, _, hrd⟩ := HRB.out.reads (hH.perm (k := hb ++ (((gL, Obj.cells cur 51) :: ((d, rO m (.slice (some ⟨gL, 0, none⟩) m.fl.length c)) :: (rest ++ F))) ++ (Hf 0 ++ R))) (by classical rw [List.perm_iff_count]; intro a; simp only [List.count_append, List.count_cons, List.count_nil] <;> omega))
              injection hv0 with hv0 _ hv0c
              subst hv0
              subst hv0c
              have hrd2 : Reads w1 B (x.2.b.take p).length 1 (bv (x.2.b.take p)) := by have := hrd.take (k := p) HPL.out; rw [Nat.mul_one, bv_take] at this; rw [HTK.out]; exact this
              have hxl := HXL.out
              have htk := HTK.out
              obtain ⟨v8, h8, w8, r1, r2, r3⟩ := bytes_append (bs := []) e0 (hH.perm (k := Hf 0 ++ (((gL, Obj.cells cur 51) :: ((d, rO m (.slice (some ⟨gL, 0, none⟩) m.fl.length c)) :: (hb ++ (rest ++ F)))) ++ R)) (by classical rw [List.perm_iff_count]; intro a; simp only [List.count_append, List.count_cons, List.count_nil] <;> omega)) 28 (B) (cB) ((x.2.b.take p)) (HBN.out) (hrd2) (by rw [htk]; simp only [List.length_nil]; have := HPL.out; omega)
              rw [HTK.out] at r1
              refine wpA (.tmp 52) (.tmp 63) rfl rfl rfl r1 ?_
              exact OwnBy.mk _ h8 _ rfl rfl r2 (r3.perm (by classical rw [List.perm_iff_count]; intro a; simp only [List.count_append, List.count_cons, List.count_nil] <;> omega))
          · intro Ls f Hf hs w1 hI hL hV hH
            have e0 := hV 0 (by decide)
            have e1 : f 1 = .pointer (some ⟨gL, k * 3, none⟩) := (hV 1 (by decide)).1
            have e2 : f 2 = .pointer (some ⟨gL, k * 3, none⟩) := (hV 2 (by decide)).1
            have e3 : f 3 = .pointer (some ⟨gL, k * 3 + 1, none⟩) := (hV 3 (by decide)).1
            have e4 : f 4 = Value.slice B x.2.b.length cB := (hV 4 (by decide)).1
            have e5 : f 5 = .pointer (some ⟨gL, k * 3, none⟩) := (hV 5 (by decide)).1
            have e6 : f 6 = .pointer (some ⟨gL, k * 3, none⟩) := (hV 6 (by decide)).1
            have e7 : f 7 = .pointer (some ⟨gL, k * 3 + 2, none⟩) := (hV 7 (by decide)).1
            have e8 : f 8 = .int .i64 x.2.safe := (hV 8 (by decide)).1
            have e9 : f 9 = .int .i64 0 := (hV 9 (by decide)).1
            have e10 : f 10 = .int .i64 (p : Nat) := (hV 10 (by decide)).1
            have e11 : f 11 = .slice B p cB := (hV 11 (by decide)).1
            have e12 := hV 12 (by decide)
            clear hV
            have hH : Holds w0 (hs ++ (Hf 12 ++ [])) w1 := hH
            simp only [List.append_nil, List.append_assoc] at hH
            simp only [fill, List.take_succ_cons, List.take_zero, List.drop_succ_cons, List.drop_zero, Act.put, List.setIfInBounds_toArray, List.set_cons_zero, List.set_cons_succ, e1, e2, e3, e4, e5, e6, e7, e8, e9, e10, e11]
            rw [show hs = ((gL, Obj.cells cur 51) :: ((d, rO m (.slice (some ⟨gL, 0, none⟩) m.fl.length c)) :: (hb ++ (rest ++ F)))) from hI] at hH
            clear hI
            rw [List.nil_append] at e12
            obtain ⟨A8, c8, hv8, _, _⟩ := RowB.form e12
            rw [hv8] at e12 ⊢
            rw [HTK.out] at e12 ⊢
            have HR7 := Lib.hid e12
            obtain ⟨gB, hgB⟩ : ∃ gB, B = some ⟨gB, 0, none⟩ := by
              obtain ⟨A0, c0, hv0, _, _, hrd⟩ := HRB.out.reads ((show Holds w0 (((gL, Obj.cells cur 51) :: ((d, rO m (.slice (some ⟨gL, 0, none⟩) m.fl.length c)) :: (hb ++ (rest ++ F)))) ++ Hf 12) w1 from by simpa using hH).perm (k := hb ++ (((gL, Obj.cells cur 51) :: ((d, rO m (.slice (some ⟨gL, 0, none⟩) m.fl.length c)) :: (rest ++ F))) ++ Hf 12)) (by classical rw [List.perm_iff_count]; intro a; simp only [List.count_append, List.count_cons, List.count_nil] <;> omega))
              obtain ⟨_, ⟨_, h0, _⟩ | ⟨g, cap', cur', hv, _⟩⟩ := HRB.out
              · have := HPLT.out; omega
              · injection hv with e1
                exact ⟨g, e1⟩
            subst hgB
            obtain ⟨z0, hz0⟩ : ∃ z0, x.2.b[p]? = some z0 := ⟨_, List.getElem?_eq_getElem HPLT.out⟩
            have HZ0 := Lib.hid hz0
            have HCEL := Lib.hid (fun w2 (G : Hp) (hG : Holds w0 (((gL, Obj.cells cur 51) :: ((d, rO m (.slice (some ⟨gL, 0, none⟩) m.fl.length c)) :: (hb ++ (rest ++ F)))) ++ G) w2) => show w2.cell? ⟨gB, p, none⟩ = some (.int .u8 (z0.toNat : Nat)) from by
              obtain ⟨A0, c0, hv0, _, _, hrd⟩ := HRB.out.reads (hG.perm (k := hb ++ (((gL, Obj.cells cur 51) :: ((d, rO m (.slice (some ⟨gL, 0, none⟩) m.fl.length c)) :: (rest ++ F))) ++ G)) (by classical rw [List.perm_iff_count]; intro a; simp only [List.count_append, List.count_cons, List.count_nil] <;> omega))
              injection hv0 with hv0 _ _
              have := hrd.2.2 ⟨gB, 0, none⟩ hv0.symm p (.int .u8 (z0.toNat : Nat)) (by simp [bv, HZ0.out])
              have e2 : (⟨gB, 0, none⟩ : Addr).add p = ⟨gB, p, none⟩ := by simp [Addr.add]; omega
              rwa [e2] at this)
            have HG0 := Lib.hid (show Holds w0 (((gL, Obj.cells cur 51) :: ((d, rO m (.slice (some ⟨gL, 0, none⟩) m.fl.length c)) :: (hb ++ (rest ++ F)))) ++ Hf 12) w1 from by simpa using hH)
            have hxor := xorB z0 torn
            have hpi : (p : Int) < (x.2.b.length : Int) := by have := HPLT.out; omega
            have HXOR := Lib.hid hxor
            have HPI := Lib.hid hpi
            clear hL hH hv8 hz0 hxor hpi
            obtain ⟨Hf12, hHf12⟩ : ∃ z, z = Hf 12 := ⟨_, rfl⟩
            rw [← hHf12] at HR7 HG0
            clear hHf12
            go_wp2_with fail
            refine wp_region_own 17 (fun k => match k with | 16 => [15] | 17 => [16] | _ => []) (by kernel_rfl) (by kernel_rfl) (by kernel_rfl) (by kernel_rfl) (Nat.le_of_ble_eq_true (by kernel_rfl)) w0 (fun Ls hs => CrJ ((gL, Obj.cells cur 51) :: ((d, rO m (.slice (some ⟨gL, 0, none⟩) m.fl.length c)) :: (hb ++ (rest ++ F)))) Hf12 Ls hs) (fun i v h => match i with | 0 => v = .slice A8 p c8 ∧ h = [] | 1 => v = .pointer (some ⟨gL, k * 3, none⟩) ∧ h = [] | 2 => v = .pointer (some ⟨gL, k * 3, none⟩) ∧ h = [] | 3 => v = .pointer (some ⟨gL, k * 3 + 1, none⟩) ∧ h = [] | 4 => v = Value.slice (some ⟨gB, 0, none⟩) x.2.b.length cB ∧ h = [] | 5 => v = .pointer (some ⟨gL, k * 3, none⟩) ∧ h = [] | 6 => v = .pointer (some ⟨gL, k * 3, none⟩) ∧ h = [] | 7 => v = .pointer (some ⟨gL, k * 3 + 2, none⟩) ∧ h = [] | 8 => v = .int .i64 x.2.safe ∧ h = [] | 9 => v = .int .i64 0 ∧ h = [] | 10 => v = .int .i64 (p : Nat) ∧ h = [] | 11 => v = .pointer (some ⟨gB, p, none⟩) ∧ h = [] | 12 => v = .int .u8 (z0.toNat : Nat) ∧ h = [] | 13 => v = .int .u8 (torn.toNat : Nat) ∧ h = [] | 14 => v = .int .u8 ((z0 ^^^ torn).toNat : Nat) ∧ h = [] | 15 => ∃ g, v = .slice (some ⟨g, 0, none⟩) 1 1 ∧ h = [(g, .cells #[.int .u8 ((z0 ^^^ torn).toNat : Nat)] 5)] | 16 => RowB 5 1 v (x.2.b.take p ++ [z0 ^^^ torn]).length (bv (x.2.b.take p ++ [z0 ^^^ torn])) h | _ => True) ((((gL, Obj.cells cur 51) :: ((d, rO m (.slice (some ⟨gL, 0, none⟩) m.fl.length c)) :: (hb ++ (rest ++ F)))) ++ Hf12)) (⟨Hf12, rfl, fun _ => rfl⟩) (HG0.out.drew) ?_ ?_
            · intro i o hi ho Ls f Hf hs R w1 hI hL hd hH
              simp only [fill, List.take_succ_cons, List.take_zero, Act.put, List.setIfInBounds_toArray, List.set_cons_zero, List.set_cons_succ]
              match i, hi with
              | 0, _ =>
                obtain rfl := Option.some.inj ho
                clear hd ho
                have hH : Holds w0 (hs ++ ([] ++ R)) w1 := hH
                obtain ⟨X, rfl, hX⟩ := hI
                unfold wpOp
                refine Or.inl ?_
                unfold Oper.wp
                go_simp
                exact OwnBy.mk _ _ _ rfl (⟨X, rfl, hX⟩) (⟨rfl, rfl⟩) (hH)
              | 1, _ =>
                obtain rfl := Option.some.inj ho
                clear hd ho
                have hH : Holds w0 (hs ++ ([] ++ R)) w1 := hH
                obtain ⟨X, rfl, hX⟩ := hI
                unfold wpOp
                refine Or.inl ?_
                unfold Oper.wp
                go_simp
                exact OwnBy.mk _ _ _ rfl (⟨X, rfl, hX⟩) (⟨rfl, rfl⟩) (hH)
              | 2, _ =>
                obtain rfl := Option.some.inj ho
                have e1 : f 1 = .pointer (some ⟨gL, k * 3, none⟩) := (hd ⟨1, .data⟩ (by simp) rfl).2.1
                clear hd ho
                have hH : Holds w0 (hs ++ ([] ++ R)) w1 := hH
                obtain ⟨X, rfl, hX⟩ := hI
                unfold wpOp
                refine Or.inl ?_
                simp only [e1]
                unfold Oper.wp
                go_simp
                exact OwnBy.mk _ _ _ rfl (⟨X, rfl, hX⟩) (⟨rfl, rfl⟩) (hH)
              | 3, _ =>
                obtain rfl := Option.some.inj ho
                have e2 : f 2 = .pointer (some ⟨gL, k * 3, none⟩) := (hd ⟨2, .data⟩ (by simp) rfl).2.1
                clear hd ho
                have hH : Holds w0 (hs ++ ([] ++ R)) w1 := hH
                obtain ⟨X, rfl, hX⟩ := hI
                unfold wpOp
                refine Or.inl ?_
                simp only [e2]
                unfold Oper.wp
                go_simp
                exact OwnBy.mk _ _ _ rfl (⟨X, rfl, hX⟩) (⟨rfl, rfl⟩) (hH)
              | 4, _ =>
                obtain rfl := Option.some.inj ho
                have e3 : f 3 = .pointer (some ⟨gL, k * 3 + 1, none⟩) := (hd ⟨3, .data⟩ (by simp) rfl).2.1
                clear hd ho
                have hH : Holds w0 (hs ++ ([] ++ R)) w1 := hH
                obtain ⟨X, rfl, hX⟩ := hI
                unfold wpOp
                refine Or.inl ?_
                simp only [e3]
                unfold Oper.wp
                have q : w1.cell? ⟨gL, k * 3 + 1, none⟩ = some (.slice (some ⟨gB, 0, none⟩) x.2.b.length cB) := (Holds.cell hH (k * 3 + 1)).trans HC1.out
                go_simp
                exact OwnBy.mk _ _ _ rfl (⟨X, rfl, hX⟩) (⟨rfl, rfl⟩) (hH)
              | 5, _ =>
                obtain rfl := Option.some.inj ho
                clear hd ho
                have hH : Holds w0 (hs ++ ([] ++ R)) w1 := hH
                obtain ⟨X, rfl, hX⟩ := hI
                unfold wpOp
                refine Or.inl ?_
                unfold Oper.wp
                go_simp
                exact OwnBy.mk _ _ _ rfl (⟨X, rfl, hX⟩) (⟨rfl, rfl⟩) (hH)
              | 6, _ =>
                obtain rfl := Option.some.inj ho
                have e5 : f 5 = .pointer (some ⟨gL, k * 3, none⟩) := (hd ⟨5, .data⟩ (by simp) rfl).2.1
                clear hd ho
                have hH : Holds w0 (hs ++ ([] ++ R)) w1 := hH
                obtain ⟨X, rfl, hX⟩ := hI
                unfold wpOp
                refine Or.inl ?_
                simp only [e5]
                unfold Oper.wp
                go_simp
                exact OwnBy.mk _ _ _ rfl (⟨X, rfl, hX⟩) (⟨rfl, rfl⟩) (hH)
              | 7, _ =>
                obtain rfl := Option.some.inj ho
                have e6 : f 6 = .pointer (some ⟨gL, k * 3, none⟩) := (hd ⟨6, .data⟩ (by simp) rfl).2.1
                clear hd ho
                have hH : Holds w0 (hs ++ ([] ++ R)) w1 := hH
                obtain ⟨X, rfl, hX⟩ := hI
                unfold wpOp
                refine Or.inl ?_
                simp only [e6]
                unfold Oper.wp
                go_simp
                exact OwnBy.mk _ _ _ rfl (⟨X, rfl, hX⟩) (⟨rfl, rfl⟩) (hH)
              | 8, _ =>
                obtain rfl := Option.some.inj ho
                have e7 : f 7 = .pointer (some ⟨gL, k * 3 + 2, none⟩) := (hd ⟨7, .data⟩ (by simp) rfl).2.1
                clear hd ho
                have hH : Holds w0 (hs ++ ([] ++ R)) w1 := hH
                obtain ⟨X, rfl, hX⟩ := hI
                unfold wpOp
                refine Or.inl ?_
                simp only [e7]
                unfold Oper.wp
                have q : w1.cell? ⟨gL, k * 3 + 2, none⟩ = some (.int .i64 x.2.safe) := (Holds.cell hH (k * 3 + 2)).trans HC2.out
                go_simp
                exact OwnBy.mk _ _ _ rfl (⟨X, rfl, hX⟩) (⟨rfl, rfl⟩) (hH)
              | 9, _ =>
                obtain rfl := Option.some.inj ho
                clear hd ho
                have hH : Holds w0 (hs ++ ([] ++ R)) w1 := hH
                obtain ⟨X, rfl, hX⟩ := hI
                unfold wpOp
                refine Or.inl ?_
                unfold Oper.wp
                go_simp
                exact OwnBy.mk _ _ _ rfl (⟨X, rfl, hX⟩) (⟨rfl, rfl⟩) (hH)
              | 10, _ =>
                obtain rfl := Option.some.inj ho
                have e8 : f 8 = .int .i64 x.2.safe := (hd ⟨8, .data⟩ (by simp) rfl).2.1
                have e9 : f 9 = .int .i64 0 := (hd ⟨9, .data⟩ (by simp) rfl).2.1
                clear hd ho
                have hH : Holds w0 (hs ++ ([] ++ R)) w1 := hH
                obtain ⟨X, rfl, hX⟩ := hI
                unfold wpOp
                refine Or.inl ?_
                simp only [e8, e9]
                unfold Oper.wp
                have qa := HADD.out
                go_simp
                exact OwnBy.mk _ _ _ rfl (⟨X, rfl, hX⟩) (⟨rfl, rfl⟩) (hH)
              | 11, _ =>
                obtain rfl := Option.some.inj ho
                have e4 : f 4 = Value.slice (some ⟨gB, 0, none⟩) x.2.b.length cB := (hd ⟨4, .data⟩ (by simp) rfl).2.1
                have e10 : f 10 = .int .i64 (p : Nat) := (hd ⟨10, .data⟩ (by simp) rfl).2.1
                clear hd ho
                have hH : Holds w0 (hs ++ ([] ++ R)) w1 := hH
                obtain ⟨X, rfl, hX⟩ := hI
                unfold wpOp
                refine Or.inl ?_
                simp only [e4, e10]
                unfold Oper.wp
                have qi := HPI.out
                go_simp
                exact OwnBy.mk _ _ _ rfl (⟨X, rfl, hX⟩) (⟨rfl, rfl⟩) (hH)
              | 12, _ =>
                obtain rfl := Option.some.inj ho
                have e11 : f 11 = .pointer (some ⟨gB, p, none⟩) := (hd ⟨11, .data⟩ (by simp) rfl).2.1
                clear hd ho
                have hH : Holds w0 (hs ++ ([] ++ R)) w1 := hH
                obtain ⟨X, rfl, hX⟩ := hI
                unfold wpOp
                refine Or.inl ?_
                simp only [e11]
                unfold Oper.wp
                have q := HCEL.out w1 (X ++ ([] ++ R)) (hH.perm (k := ((gL, Obj.cells cur 51) :: ((d, rO m (.slice (some ⟨gL, 0, none⟩) m.fl.length c)) :: (hb ++ (rest ++ F)))) ++ (X ++ ([] ++ R))) (by classical rw [List.perm_iff_count]; intro a; simp only [List.count_append, List.count_cons, List.count_nil] <;> omega))
                go_simp
                exact OwnBy.mk _ _ _ rfl (⟨X, rfl, hX⟩) (⟨rfl, rfl⟩) (hH)
              | 13, _ =>
                obtain rfl := Option.some.inj ho
                clear hd ho
                have hH : Holds w0 (hs ++ ([] ++ R)) w1 := hH
                obtain ⟨X, rfl, hX⟩ := hI
                unfold wpOp
                refine Or.inl ?_
                unfold Oper.wp
                go_simp
                exact OwnBy.mk _ _ _ rfl (⟨X, rfl, hX⟩) (⟨rfl, rfl⟩) (hH)
              | 14, _ =>
                obtain rfl := Option.some.inj ho
                have e12 : f 12 = .int .u8 (z0.toNat : Nat) := (hd ⟨12, .data⟩ (by simp) rfl).2.1
                have e13 : f 13 = .int .u8 (torn.toNat : Nat) := (hd ⟨13, .data⟩ (by simp) rfl).2.1
                clear hd ho
                have hH : Holds w0 (hs ++ ([] ++ R)) w1 := hH
                obtain ⟨X, rfl, hX⟩ := hI
                unfold wpOp
                refine Or.inl ?_
                simp only [e12, e13]
                unfold Oper.wp
                have qx := HXOR.out
                go_simp
                exact OwnBy.mk _ _ _ rfl (⟨X, rfl, hX⟩) (⟨rfl, rfl⟩) (hH)
              | 15, _ =>
                obtain rfl := Option.some.inj ho
                have e14 : f 14 = .int .u8 ((z0 ^^^ torn).toNat : Nat) := (hd ⟨14, .data⟩ (by simp) rfl).2.1
                clear hd ho
                have hH : Holds w0 (hs ++ ([] ++ R)) w1 := hH
                obtain ⟨X, rfl, hX⟩ := hI
                unfold wpOp
                refine Or.inl ?_
                simp only [e14]
                unfold Oper.wp
                have hH3 : Holds w0 ((((gL, Obj.cells cur 51) :: ((d, rO m (.slice (some ⟨gL, 0, none⟩) m.fl.length c)) :: (hb ++ (rest ++ F)))) ++ X) ++ ([(w1.heap.size, .cells #[.int .u8 ((z0 ^^^ torn).toNat : Nat)] 5)] ++ R)) (w1.alloc (.cells #[.int .u8 ((z0 ^^^ torn).toNat : Nat)] 5)) := (hH.alloc (.cells #[.int .u8 ((z0 ^^^ torn).toNat : Nat)] 5)).perm (by classical rw [List.perm_iff_count]; intro a; simp only [List.count_append, List.count_cons, List.count_nil] <;> omega)
                go_simp
                exact OwnBy.mk _ [(w1.heap.size, .cells #[.int .u8 ((z0 ^^^ torn).toNat : Nat)] 5)] _ rfl (⟨X, rfl, hX⟩) ⟨w1.heap.size, rfl, rfl⟩ hH3
              | 16, _ =>
                obtain rfl := Option.some.inj ho
                have e0 : f 0 = .slice A8 p c8 := (hd ⟨0, .data⟩ (by simp) rfl).2.1
                have e15 := (hd ⟨15, .data⟩ (by simp) rfl).2
                obtain ⟨g15, e15, q15⟩ := e15
                clear hd ho
                have hH : Holds w0 (hs ++ ((Hf 15 ++ ([])) ++ R)) w1 := hH
                simp only [q15, List.append_nil, List.append_assoc] at hH
                obtain ⟨X, rfl, hX⟩ := hI
                unfold wpOp
                refine Or.inl ?_
                simp only [e0, e15]
                unfold Oper.wp
                obtain rfl := hX hL
                have hH2 : Holds w0 ((g15, .cells #[.int .u8 ((z0 ^^^ torn).toNat : Nat)] 5) :: (X ++ (((gL, Obj.cells cur 51) :: ((d, rO m (.slice (some ⟨gL, 0, none⟩) m.fl.length c)) :: (hb ++ (rest ++ F)))) ++ R))) w1 := hH.perm (by classical rw [List.perm_iff_count]; intro a; simp only [List.count_append, List.count_cons, List.count_nil] <;> omega)
                have hrd2 : Reads w1 (some ⟨g15, 0, none⟩) [z0 ^^^ torn].length 1 (bv [z0 ^^^ torn]) := reads_z hH2
                have hr7 : RowB 5 1 (.slice A8 p c8) (x.2.b.take p).length (bv (x.2.b.take p)) X := by rw [HTK.out]; exact HR7.out
                obtain ⟨v8, h8, w8, r1, r2, r3⟩ := bytes_append (bs := x.2.b.take p) hr7 (hH2.perm (k := X ++ ((g15, .cells #[.int .u8 ((z0 ^^^ torn).toNat : Nat)] 5) :: (((gL, Obj.cells cur 51) :: ((d, rO m (.slice (some ⟨gL, 0, none⟩) m.fl.length c)) :: (hb ++ (rest ++ F)))) ++ R))) (by classical rw [List.perm_iff_count]; intro a; simp only [List.count_append, List.count_cons, List.count_nil] <;> omega)) 28 (some ⟨g15, 0, none⟩) 1 [z0 ^^^ torn] (fun h => by cases h) hrd2 (by rw [HTK.out]; have := HPLT.out; have := HXL.out; simp only [List.length_cons, List.length_nil]; omega)
                refine wpA (.tmp 66) (.tmp 81) rfl rfl rfl r1 ?_
                exact OwnBy.mk _ h8 _ rfl ⟨[], (List.append_nil _).symm, fun h => by cases h⟩ r2 ((r3.perm (k := (g15, .cells #[.int .u8 ((z0 ^^^ torn).toNat : Nat)] 5) :: (((gL, Obj.cells cur 51) :: ((d, rO m (.slice (some ⟨gL, 0, none⟩) m.fl.length c)) :: (hb ++ (rest ++ F)))) ++ (h8 ++ R))) (by classical rw [List.perm_iff_count]; intro a; simp only [List.count_append, List.count_cons, List.count_nil] <;> omega)).tail)
              | _ + 17, h17 => exact absurd h17 (by omega)
            · intro Ls f Hf hs w1 hI hL hV hH
              have e0 : f 0 = .slice A8 p c8 := (hV 0 (by decide)).1
              have e1 : f 1 = .pointer (some ⟨gL, k * 3, none⟩) := (hV 1 (by decide)).1
              have e2 : f 2 = .pointer (some ⟨gL, k * 3, none⟩) := (hV 2 (by decide)).1
              have e3 : f 3 = .pointer (some ⟨gL, k * 3 + 1, none⟩) := (hV 3 (by decide)).1
              have e4 : f 4 = Value.slice (some ⟨gB, 0, none⟩) x.2.b.length cB := (hV 4 (by decide)).1
              have e5 : f 5 = .pointer (some ⟨gL, k * 3, none⟩) := (hV 5 (by decide)).1
              have e6 : f 6 = .pointer (some ⟨gL, k * 3, none⟩) := (hV 6 (by decide)).1
              have e7 : f 7 = .pointer (some ⟨gL, k * 3 + 2, none⟩) := (hV 7 (by decide)).1
              have e8 : f 8 = .int .i64 x.2.safe := (hV 8 (by decide)).1
              have e9 : f 9 = .int .i64 0 := (hV 9 (by decide)).1
              have e10 : f 10 = .int .i64 (p : Nat) := (hV 10 (by decide)).1
              have e11 : f 11 = .pointer (some ⟨gB, p, none⟩) := (hV 11 (by decide)).1
              have e12 : f 12 = .int .u8 (z0.toNat : Nat) := (hV 12 (by decide)).1
              have e13 : f 13 = .int .u8 (torn.toNat : Nat) := (hV 13 (by decide)).1
              have e14 : f 14 = .int .u8 ((z0 ^^^ torn).toNat : Nat) := (hV 14 (by decide)).1
              have e15 := hV 15 (by decide)
              obtain ⟨g15, e15, q15⟩ := e15
              have e16 := hV 16 (by decide)
              clear hV
              have hH : Holds w0 (hs ++ (Hf 16 ++ [])) w1 := hH
              simp only [List.append_nil, List.append_assoc] at hH
              simp only [fill, List.take_succ_cons, List.take_zero, List.drop_succ_cons, List.drop_zero, Act.put, List.setIfInBounds_toArray, List.set_cons_zero, List.set_cons_succ, e0, e1, e2, e3, e4, e5, e6, e7, e8, e9, e10, e11, e12, e13, e14, e15]
              obtain ⟨X, rfl, _⟩ := hI
              obtain ⟨B8, d8, hv8, _, _⟩ := RowB.form e16
              obtain ⟨n8, hn8⟩ : ∃ n8, n8 = (x.2.b.take p ++ [z0 ^^^ torn]).length := ⟨_, rfl⟩
              rw [hv8] at e16 ⊢
              rw [← hn8] at e16 ⊢
              have HR8 := Lib.hid e16
              have HN8 := Lib.hid (show (x.2.b.take p ++ [z0 ^^^ torn]).length = n8 from hn8.symm)
              have HCR := Lib.hid (show crF keep torn x.2 = ⟨x.2.b.take p ++ [z0 ^^^ torn], n8⟩ by
                have e := HCRB.out
                rw [List.getD_eq_getElem?_getD, HZ0.out] at e
                have e2 : crB keep torn x.2 = x.2.b.take p ++ [z0 ^^^ torn] := e
                unfold crF; rw [e2, hn8])
              have hH2 := hH
              clear hL hH hv8 hn8
              have H9 : Holds w0 ((gL, Obj.cells cur 51) :: ((d, rO m (.slice (some ⟨gL, 0, none⟩) m.fl.length c)) :: (Hf 16 ++ (rest ++ F)) ++ (hb ++ X))) w1 := hH2.perm (by classical rw [List.perm_iff_count]; intro a; simp only [List.count_append, List.count_cons, List.count_nil] <;> omega)
              have q2 : w1.cell? ⟨gL, k * 3 + 1, none⟩ = some (.slice (some ⟨gB, 0, none⟩) x.2.b.length cB) := (H9.cell _).trans HC1.out
              have q3 : w1.frozen? ⟨gL, k * 3 + 1, none⟩ = false := H9.froz _
              have H10 : Holds w0 ((gL, Obj.cells (cur.setIfInBounds (k * 3 + 1) (.slice B8 n8 d8)) 51) :: ((d, rO m (.slice (some ⟨gL, 0, none⟩) m.fl.length c)) :: (Hf 16 ++ (rest ++ F)) ++ (hb ++ X))) _ := H9.set (k * 3 + 1) (.slice B8 n8 d8)
              have q5 : (w1.setCell ⟨gL, k * 3 + 1, none⟩ (.slice B8 n8 d8)).cell? ⟨gL, k * 3 + 2, none⟩ = some (.int .i64 x.2.safe) := by rw [Holds.cell H10, Array.getElem?_setIfInBounds_ne (by omega)]; exact HC2.out
              have q6 : (w1.setCell ⟨gL, k * 3 + 1, none⟩ (.slice B8 n8 d8)).frozen? ⟨gL, k * 3 + 2, none⟩ = false := Holds.froz H10 _
              have HH11 := Lib.hid (H10.set (k * 3 + 2) (.int .i64 (n8 : Nat)))
              clear H9 H10
              go_wp2_with fail
              go_roundw
              case rel =>
                have hfin := HPUT.out (.slice B8 n8 d8) ⟨x.2.b.take p ++ [z0 ^^^ torn], n8⟩ (Hf 16) _ (by show RowB 5 1 _ (x.2.b.take p ++ [z0 ^^^ torn]).length _ _; rw [HN8.out]; exact HR8.out) (HH11.out.perm (k := ((gL, _) :: ((d, rO m (.slice (some ⟨gL, 0, none⟩) m.fl.length c)) :: (Hf 16 ++ (rest ++ F)))) ++ (hb ++ X)) (by classical rw [List.perm_iff_count]; intro a; simp only [List.count_append, List.count_cons, List.count_nil] <;> omega)).left
                have e8 : (x.1, (⟨x.2.b.take p ++ [z0 ^^^ torn], n8⟩ : Fl)) = (x.1, crF keep torn x.2) := by rw [HCR.out]
                rw [e8, HMS.out] at hfin
                exact ⟨k + 1, by omega, by go_num, hfin⟩
              case measure => simp [intOf]; omega
  
      · obtain ⟨p, hp⟩ : ∃ p : Nat, p = x.2.b.length := ⟨_, rfl⟩
        have hdn := HDN.out
        have HPL := Lib.hid (show p ≤ x.2.b.length by omega)
        have HADD := Lib.hid (show IntKind.i64.wrap ((x.2.safe : Int) + dn) = (p : Int) by rw [IntKind.wrap_i64]; omega)
        have HTK := Lib.hid (show (x.2.b.take p).length = p by rw [List.length_take]; omega)
        have hcn : crN keep x.2 = p := by rw [hp]; exact crN_hi (K := (0 : Int)) (by unfold mx; rw [if_pos HNEG.out]) (by omega) hsf
        have HCRB := Lib.hid (show crB keep torn x.2 = x.2.b.take p by unfold crB; rw [hcn, if_neg (by omega)])
        clear hp hdn hcn
        go_wp2_with fail
        refine wp_region_own 13 (fun k => match k with | 12 => [0] | 13 => [12] | _ => []) (by kernel_rfl) (by kernel_rfl) (by kernel_rfl) (by kernel_rfl) (Nat.le_of_ble_eq_true (by kernel_rfl)) w0 (fun Ls hs => hs = ((gL, Obj.cells cur 51) :: ((d, rO m (.slice (some ⟨gL, 0, none⟩) m.fl.length c)) :: (hb ++ (rest ++ F))))) (fun i v h => match i with | 0 => RowB 5 1 v 0 (bv []) h | 1 => v = .pointer (some ⟨gL, k * 3, none⟩) ∧ h = [] | 2 => v = .pointer (some ⟨gL, k * 3, none⟩) ∧ h = [] | 3 => v = .pointer (some ⟨gL, k * 3 + 1, none⟩) ∧ h = [] | 4 => v = Value.slice B x.2.b.length cB ∧ h = [] | 5 => v = .pointer (some ⟨gL, k * 3, none⟩) ∧ h = [] | 6 => v = .pointer (some ⟨gL, k * 3, none⟩) ∧ h = [] | 7 => v = .pointer (some ⟨gL, k * 3 + 2, none⟩) ∧ h = [] | 8 => v = .int .i64 x.2.safe ∧ h = [] | 9 => v = .int .i64 dn ∧ h = [] | 10 => v = .int .i64 (p : Nat) ∧ h = [] | 11 => v = .slice B p cB ∧ h = [] | 12 => RowB 5 1 v ([] ++ (x.2.b.take p)).length (bv ([] ++ (x.2.b.take p))) h | _ => True) (((gL, Obj.cells cur 51) :: ((d, rO m (.slice (some ⟨gL, 0, none⟩) m.fl.length c)) :: (hb ++ (rest ++ F))))) (rfl) (HH4.out.drew) ?_ ?_
        · intro i o hi ho Ls f Hf hs R w1 hI hL hd hH
          simp only [fill, List.take_succ_cons, List.take_zero, Act.put, List.setIfInBounds_toArray, List.set_cons_zero, List.set_cons_succ]
          match i, hi with
          | 0, _ =>
            obtain rfl := Option.some.inj ho
            clear hd ho
            have hH : Holds w0 (hs ++ ([] ++ R)) w1 := hH
            rw [show hs = ((gL, Obj.cells cur 51) :: ((d, rO m (.slice (some ⟨gL, 0, none⟩) m.fl.length c)) :: (hb ++ (rest ++ F)))) from hI] at hH
            clear hI
            unfold wpOp
            refine Or.inl ?_
            unfold Oper.wp
            go_simp
            exact OwnBy.mk _ [(w1.heap.size, .cells #[] 5)] _ rfl rfl (RowB.lit hH #[] 0 (by decide) rfl) ((hH.alloc (.cells #[] 5)).perm (by classical rw [List.perm_iff_count]; intro a; simp only [List.count_append, List.count_cons, List.count_nil] <;> omega))
          | 1, _ =>
            obtain rfl := Option.some.inj ho
            clear hd ho
            have hH : Holds w0 (hs ++ ([] ++ R)) w1 := hH
            rw [show hs = ((gL, Obj.cells cur 51) :: ((d, rO m (.slice (some ⟨gL, 0, none⟩) m.fl.length c)) :: (hb ++ (rest ++ F)))) from hI] at hH
            clear hI
            unfold wpOp
            refine Or.inl ?_
            unfold Oper.wp
            go_simp
            exact OwnBy.mk _ _ _ rfl (rfl) (⟨rfl, rfl⟩) (hH)
          | 2, _ =>
            obtain rfl := Option.some.inj ho
            have e1 : f 1 = .pointer (some ⟨gL, k * 3, none⟩) := (hd ⟨1, .data⟩ (by simp) rfl).2.1
            clear hd ho
            have hH : Holds w0 (hs ++ ([] ++ R)) w1 := hH
            rw [show hs = ((gL, Obj.cells cur 51) :: ((d, rO m (.slice (some ⟨gL, 0, none⟩) m.fl.length c)) :: (hb ++ (rest ++ F)))) from hI] at hH
            clear hI
            unfold wpOp
            refine Or.inl ?_
            simp only [e1]
            unfold Oper.wp
            go_simp
            exact OwnBy.mk _ _ _ rfl (rfl) (⟨rfl, rfl⟩) (hH)
          | 3, _ =>
            obtain rfl := Option.some.inj ho
            have e2 : f 2 = .pointer (some ⟨gL, k * 3, none⟩) := (hd ⟨2, .data⟩ (by simp) rfl).2.1
            clear hd ho
            have hH : Holds w0 (hs ++ ([] ++ R)) w1 := hH
            rw [show hs = ((gL, Obj.cells cur 51) :: ((d, rO m (.slice (some ⟨gL, 0, none⟩) m.fl.length c)) :: (hb ++ (rest ++ F)))) from hI] at hH
            clear hI
            unfold wpOp
            refine Or.inl ?_
            simp only [e2]
            unfold Oper.wp
            go_simp
            exact OwnBy.mk _ _ _ rfl (rfl) (⟨rfl, rfl⟩) (hH)
          | 4, _ =>
            obtain rfl := Option.some.inj ho
            have e3 : f 3 = .pointer (some ⟨gL, k * 3 + 1, none⟩) := (hd ⟨3, .data⟩ (by simp) rfl).2.1
            clear hd ho
            have hH : Holds w0 (hs ++ ([] ++ R)) w1 := hH
            rw [show hs = ((gL, Obj.cells cur 51) :: ((d, rO m (.slice (some ⟨gL, 0, none⟩) m.fl.length c)) :: (hb ++ (rest ++ F)))) from hI] at hH
            clear hI
            unfold wpOp
            refine Or.inl ?_
            simp only [e3]
            unfold Oper.wp
            have q : w1.cell? ⟨gL, k * 3 + 1, none⟩ = some (.slice B x.2.b.length cB) := (Holds.cell hH (k * 3 + 1)).trans HC1.out
            go_simp
            exact OwnBy.mk _ _ _ rfl (rfl) (⟨rfl, rfl⟩) (hH)
          | 5, _ =>
            obtain rfl := Option.some.inj ho
            clear hd ho
            have hH : Holds w0 (hs ++ ([] ++ R)) w1 := hH
            rw [show hs = ((gL, Obj.cells cur 51) :: ((d, rO m (.slice (some ⟨gL, 0, none⟩) m.fl.length c)) :: (hb ++ (rest ++ F)))) from hI] at hH
            clear hI
            unfold wpOp
            refine Or.inl ?_
            unfold Oper.wp
            go_simp
            exact OwnBy.mk _ _ _ rfl (rfl) (⟨rfl, rfl⟩) (hH)
          | 6, _ =>
            obtain rfl := Option.some.inj ho
            have e5 : f 5 = .pointer (some ⟨gL, k * 3, none⟩) := (hd ⟨5, .data⟩ (by simp) rfl).2.1
            clear hd ho
            have hH : Holds w0 (hs ++ ([] ++ R)) w1 := hH
            rw [show hs = ((gL, Obj.cells cur 51) :: ((d, rO m (.slice (some ⟨gL, 0, none⟩) m.fl.length c)) :: (hb ++ (rest ++ F)))) from hI] at hH
            clear hI
            unfold wpOp
            refine Or.inl ?_
            simp only [e5]
            unfold Oper.wp
            go_simp
            exact OwnBy.mk _ _ _ rfl (rfl) (⟨rfl, rfl⟩) (hH)
          | 7, _ =>
            obtain rfl := Option.some.inj ho
            have e6 : f 6 = .pointer (some ⟨gL, k * 3, none⟩) := (hd ⟨6, .data⟩ (by simp) rfl).2.1
            clear hd ho
            have hH : Holds w0 (hs ++ ([] ++ R)) w1 := hH
            rw [show hs = ((gL, Obj.cells cur 51) :: ((d, rO m (.slice (some ⟨gL, 0, none⟩) m.fl.length c)) :: (hb ++ (rest ++ F)))) from hI] at hH
            clear hI
            unfold wpOp
            refine Or.inl ?_
            simp only [e6]
            unfold Oper.wp
            go_simp
            exact OwnBy.mk _ _ _ rfl (rfl) (⟨rfl, rfl⟩) (hH)
          | 8, _ =>
            obtain rfl := Option.some.inj ho
            have e7 : f 7 = .pointer (some ⟨gL, k * 3 + 2, none⟩) := (hd ⟨7, .data⟩ (by simp) rfl).2.1
            clear hd ho
            have hH : Holds w0 (hs ++ ([] ++ R)) w1 := hH
            rw [show hs = ((gL, Obj.cells cur 51) :: ((d, rO m (.slice (some ⟨gL, 0, none⟩) m.fl.length c)) :: (hb ++ (rest ++ F)))) from hI] at hH
            clear hI
            unfold wpOp
            refine Or.inl ?_
            simp only [e7]
            unfold Oper.wp
            have q : w1.cell? ⟨gL, k * 3 + 2, none⟩ = some (.int .i64 x.2.safe) := (Holds.cell hH (k * 3 + 2)).trans HC2.out
            go_simp
            exact OwnBy.mk _ _ _ rfl (rfl) (⟨rfl, rfl⟩) (hH)
          | 9, _ =>
            obtain rfl := Option.some.inj ho
            clear hd ho
            have hH : Holds w0 (hs ++ ([] ++ R)) w1 := hH
            rw [show hs = ((gL, Obj.cells cur 51) :: ((d, rO m (.slice (some ⟨gL, 0, none⟩) m.fl.length c)) :: (hb ++ (rest ++ F)))) from hI] at hH
            clear hI
            unfold wpOp
            refine Or.inl ?_
            unfold Oper.wp
            go_simp
            exact OwnBy.mk _ _ _ rfl (rfl) (⟨rfl, rfl⟩) (hH)
          | 10, _ =>
            obtain rfl := Option.some.inj ho
            have e8 : f 8 = .int .i64 x.2.safe := (hd ⟨8, .data⟩ (by simp) rfl).2.1
            have e9 : f 9 = .int .i64 dn := (hd ⟨9, .data⟩ (by simp) rfl).2.1
            clear hd ho
            have hH : Holds w0 (hs ++ ([] ++ R)) w1 := hH
            rw [show hs = ((gL, Obj.cells cur 51) :: ((d, rO m (.slice (some ⟨gL, 0, none⟩) m.fl.length c)) :: (hb ++ (rest ++ F)))) from hI] at hH
            clear hI
            unfold wpOp
            refine Or.inl ?_
            simp only [e8, e9]
            unfold Oper.wp
            have qa := HADD.out
            go_simp
            exact OwnBy.mk _ _ _ rfl (rfl) (⟨rfl, rfl⟩) (hH)
          | 11, _ =>
            obtain rfl := Option.some.inj ho
            have e4 : f 4 = Value.slice B x.2.b.length cB := (hd ⟨4, .data⟩ (by simp) rfl).2.1
            have e10 : f 10 = .int .i64 (p : Nat) := (hd ⟨10, .data⟩ (by simp) rfl).2.1
            clear hd ho
            have hH : Holds w0 (hs ++ ([] ++ R)) w1 := hH
            rw [show hs = ((gL, Obj.cells cur 51) :: ((d, rO m (.slice (some ⟨gL, 0, none⟩) m.fl.length c)) :: (hb ++ (rest ++ F)))) from hI] at hH
            clear hI
            unfold wpOp
            refine Or.inl ?_
            simp only [e4, e10]
            unfold Oper.wp
            have hcut := cutHi Try.underlying28 sz5 B x.2.b.length cB p HPL.out hcb w1
            go_simp
            exact OwnBy.mk _ _ _ rfl (rfl) (⟨rfl, rfl⟩) (hH)
          | 12, _ =>
            obtain rfl := Option.some.inj ho
            have e0 := (hd ⟨0, .data⟩ (by simp) rfl).2
            have e11 : f 11 = .slice B p cB := (hd ⟨11, .data⟩ (by simp) rfl).2.1
            clear hd ho
            have hH : Holds w0 (hs ++ ((Hf 0 ++ ([])) ++ R)) w1 := hH
            simp only [List.append_nil, List.append_assoc] at hH
            rw [show hs = ((gL, Obj.cells cur 51) :: ((d, rO m (.slice (some ⟨gL, 0, none⟩) m.fl.length c)) :: (hb ++ (rest ++ F)))) from hI] at hH
            clear hI
            unfold wpOp
            refine Or.inl ?_
            simp only [e11]
            unfold Oper.wp
            obtain ⟨A0, c0, hv0, _, _, hrd⟩ := HRB.out.reads (hH.perm (k := hb ++ (((gL, Obj.cells cur 51) :: ((d, rO m (.slice (some ⟨gL, 0, none⟩) m.fl.length c)) :: (rest ++ F))) ++ (Hf 0 ++ R))) (by classical rw [List.perm_iff_count]; intro a; simp only [List.count_append, List.count_cons, List.count_nil] <;> omega))
            injection hv0 with hv0 _ hv0c
            subst hv0
            subst hv0c
            have hrd2 : Reads w1 B (x.2.b.take p).length 1 (bv (x.2.b.take p)) := by have := hrd.take (k := p) HPL.out; rw [Nat.mul_one, bv_take] at this; rw [HTK.out]; exact this
            have hxl := HXL.out
            have htk := HTK.out
            obtain ⟨v8, h8, w8, r1, r2, r3⟩ := bytes_append (bs := []) e0 (hH.perm (k := Hf 0 ++ (((gL, Obj.cells cur 51) :: ((d, rO m (.slice (some ⟨gL, 0, none⟩) m.fl.length c)) :: (hb ++ (rest ++ F)))) ++ R)) (by classical rw [List.perm_iff_count]; intro a; simp only [List.count_append, List.count_cons, List.count_nil] <;> omega)) 28 (B) (cB) ((x.2.b.take p)) (HBN.out) (hrd2) (by rw [htk]; simp only [List.length_nil]; have := HPL.out; omega)
            rw [HTK.out] at r1
            refine wpA (.tmp 52) (.tmp 63) rfl rfl rfl r1 ?_
            exact OwnBy.mk _ h8 _ rfl rfl r2 (r3.perm (by classical rw [List.perm_iff_count]; intro a; simp only [List.count_append, List.count_cons, List.count_nil] <;> omega))
        · intro Ls f Hf hs w1 hI hL hV hH
          have e0 := hV 0 (by decide)
          have e1 : f 1 = .pointer (some ⟨gL, k * 3, none⟩) := (hV 1 (by decide)).1
          have e2 : f 2 = .pointer (some ⟨gL, k * 3, none⟩) := (hV 2 (by decide)).1
          have e3 : f 3 = .pointer (some ⟨gL, k * 3 + 1, none⟩) := (hV 3 (by decide)).1
          have e4 : f 4 = Value.slice B x.2.b.length cB := (hV 4 (by decide)).1
          have e5 : f 5 = .pointer (some ⟨gL, k * 3, none⟩) := (hV 5 (by decide)).1
          have e6 : f 6 = .pointer (some ⟨gL, k * 3, none⟩) := (hV 6 (by decide)).1
          have e7 : f 7 = .pointer (some ⟨gL, k * 3 + 2, none⟩) := (hV 7 (by decide)).1
          have e8 : f 8 = .int .i64 x.2.safe := (hV 8 (by decide)).1
          have e9 : f 9 = .int .i64 dn := (hV 9 (by decide)).1
          have e10 : f 10 = .int .i64 (p : Nat) := (hV 10 (by decide)).1
          have e11 : f 11 = .slice B p cB := (hV 11 (by decide)).1
          have e12 := hV 12 (by decide)
          clear hV
          have hH : Holds w0 (hs ++ (Hf 12 ++ [])) w1 := hH
          simp only [List.append_nil, List.append_assoc] at hH
          simp only [fill, List.take_succ_cons, List.take_zero, List.drop_succ_cons, List.drop_zero, Act.put, List.setIfInBounds_toArray, List.set_cons_zero, List.set_cons_succ, e1, e2, e3, e4, e5, e6, e7, e8, e9, e10, e11]
          rw [show hs = ((gL, Obj.cells cur 51) :: ((d, rO m (.slice (some ⟨gL, 0, none⟩) m.fl.length c)) :: (hb ++ (rest ++ F)))) from hI] at hH
          clear hI
          rw [List.nil_append] at e12
          obtain ⟨A8, c8, hv8, _, _⟩ := RowB.form e12
          rw [hv8] at e12 ⊢
          obtain ⟨n8, hn8⟩ : ∃ n8, n8 = (x.2.b.take p).length := ⟨_, rfl⟩
          rw [← hn8] at e12 ⊢
          have HR8 := Lib.hid e12
          have HN8 := Lib.hid (show (x.2.b.take p).length = n8 from hn8.symm)
          have HCR := Lib.hid (show crF keep torn x.2 = ⟨x.2.b.take p, n8⟩ by have e := HCRB.out; unfold crF; rw [e, hn8])
          have hH2 := hH
          clear hL hH hv8 hn8
          have H9 : Holds w0 ((gL, Obj.cells cur 51) :: ((d, rO m (.slice (some ⟨gL, 0, none⟩) m.fl.length c)) :: (Hf 12 ++ (rest ++ F)) ++ hb)) w1 := hH2.perm (by classical rw [List.perm_iff_count]; intro a; simp only [List.count_append, List.count_cons, List.count_nil] <;> omega)
          have q2 : w1.cell? ⟨gL, k * 3 + 1, none⟩ = some (.slice B x.2.b.length cB) := (H9.cell _).trans HC1.out
          have q3 : w1.frozen? ⟨gL, k * 3 + 1, none⟩ = false := H9.froz _
          have H10 : Holds w0 ((gL, Obj.cells (cur.setIfInBounds (k * 3 + 1) (.slice A8 n8 c8)) 51) :: ((d, rO m (.slice (some ⟨gL, 0, none⟩) m.fl.length c)) :: (Hf 12 ++ (rest ++ F)) ++ hb)) _ := H9.set (k * 3 + 1) (.slice A8 n8 c8)
          have q5 : (w1.setCell ⟨gL, k * 3 + 1, none⟩ (.slice A8 n8 c8)).cell? ⟨gL, k * 3 + 2, none⟩ = some (.int .i64 x.2.safe) := by rw [Holds.cell H10, Array.getElem?_setIfInBounds_ne (by omega)]; exact HC2.out
          have q6 : (w1.setCell ⟨gL, k * 3 + 1, none⟩ (.slice A8 n8 c8)).frozen? ⟨gL, k * 3 + 2, none⟩ = false := Holds.froz H10 _
          have HH11 := Lib.hid (H10.set (k * 3 + 2) (.int .i64 (n8 : Nat)))
          clear H9 H10
          go_wp2_with fail
          go_roundw
          case rel =>
            have hfin := HPUT.out (.slice A8 n8 c8) ⟨x.2.b.take p, n8⟩ (Hf 12) _ (by show RowB 5 1 _ (x.2.b.take p).length _ _; rw [HN8.out]; exact HR8.out) (HH11.out.perm (k := ((gL, _) :: ((d, rO m (.slice (some ⟨gL, 0, none⟩) m.fl.length c)) :: (Hf 12 ++ (rest ++ F)))) ++ hb) (by classical rw [List.perm_iff_count]; intro a; simp only [List.count_append, List.count_cons, List.count_nil] <;> omega)).left
            have e8 : (x.1, (⟨x.2.b.take p, n8⟩ : Fl)) = (x.1, crF keep torn x.2) := by rw [HCR.out]
            rw [e8, HMS.out] at hfin
            exact ⟨k + 1, by omega, by go_num, hfin⟩
          case measure => simp [intOf]; omega
    · obtain rfl : k = nf := by omega
      have hki : ¬ (k : Int) < (m.fl.length : Int) := by omega
      clear hml
      obtain ⟨A, c, hd, _, _⟩ := hIm.cells hH'
      have HFIN := Lib.hid (show IsR d (crM m0 keep torn) h' by
        have e : crM m0 keep torn = crK m0 keep torn k := by
          unfold crM crK
          rw [HNF.out, List.take_length, List.drop_length, List.append_nil]
        rw [e]; exact hI')
      have HHF := Lib.hid hH'
      clear hI' hH' hIm hm
      go_wp2_with fail
      refine bodyPost_end (v := .tuple #[]) (by simp [results, Try.results25, go_sem]) rfl ?_
      exact ⟨rfl, h', HFIN.out, HHF.out⟩
set_option maxRecDepth 100000 in
set_option maxHeartbeats 8000000 in
theorem rcrash_pos (d : Nat) (m0 : DM) (h F : Hp) (kn : Nat) (torn : UInt8) (w0 w : World) (hcnt : m0.fl.length ≤ 9000) (hok : m0.ok) (hI : IsR d m0 h) (H : Holds w0 (h ++ F) w) :
    Calls Try.prog 25 #[.pointer (some ⟨d, 0, none⟩), .int .i64 (kn : Nat), .int .u8 (torn.toNat : Nat)] w fun e w' => e = .returned (.tuple #[]) ∧ ∃ h', IsR d (crM m0 (kn : Nat) torn) h' ∧ Holds w0 (h' ++ F) w' := by
  obtain ⟨v, hrw, vs, hf, hR, hF, rfl⟩ := hI
  have c2 : w.cell? ⟨d, 2, none⟩ = some (.bool (!m0.power)) := Holds.cell H 2
  have f2 : w.frozen? ⟨d, 2, none⟩ = false := Holds.froz H 2
  have HH1 := Lib.hid (show Holds w0 (((d, rO (crK m0 (kn : Nat) torn 0) v) :: (hrw ++ hf)) ++ F) _ from Holds.set H 2 (.bool true))
  have HI1 := Lib.hid (show IsR d (crK m0 (kn : Nat) torn 0) ((d, rO (crK m0 (kn : Nat) torn 0) v) :: (hrw ++ hf)) from ⟨v, hrw, vs, hf, by rw [crK_len]; exact hR, hF, rfl⟩)
  have HSAFE := Lib.hid hok.safe
  have HTOT := Lib.hid (show ∀ x ∈ m0.fl, x.2.b.length ≤ 1048576 from fun x hx => by have := mem_tot _ x hx; have := hok.tot; have := hok.room; omega)
  obtain ⟨nf, hnf⟩ : ∃ nf, nf = m0.fl.length := ⟨_, rfl⟩
  have HNF := Lib.hid hnf
  have hnf9 : nf ≤ 9000 := by omega
  have hkn0 : ¬ (kn : Int) < 0 := by omega
  clear H hR hF hok hnf
  go_enter Try.func25, Try.ntmps25
  go_wp2_with fail
  go_loopw [6] (fun i wr => ∃ k : Nat, k ≤ nf ∧ i = .int .i64 k ∧ ∃ h', IsR d (crK m0 (kn : Nat) torn k) h' ∧ Holds w0 (h' ++ F) wr) (fun i _ => nf - (intOf i).toNat)
  case atStart => exact ⟨0, by omega, rfl, _, HI1.out, HH1.out⟩
  case round =>
    obtain ⟨k, hk, rfl, h', hI', hH'⟩ := hrel
    obtain ⟨m, hm⟩ : ∃ m, m = crK m0 (kn : Nat) torn k := ⟨_, rfl⟩
    have hml : m.fl.length = nf := by rw [hm, crK_len, HNF.out]
    have hIm : IsR d m h' := by rw [hm]; exact hI'
    by_cases hlt : k < nf
    · obtain ⟨x, hx0⟩ : ∃ x, m0.fl[k]? = some x := ⟨_, List.getElem?_eq_getElem (by rw [← HNF.out]; exact hlt)⟩
      have hx : m.fl[k]? = some x := by rw [hm]; exact crK_at _ _ _ _ _ hx0
      have HMS := Lib.hid (show ({ m with fl := m.fl.set k (x.1, crF (kn : Nat) torn x.2) } : DM) = crK m0 (kn : Nat) torn (k + 1) by
        rw [hm]
        unfold crK
        simp only
        rw [map_set (fun x => (x.1, crF (kn : Nat) torn x.2)) m0.fl k x hx0])
      have hsf := HSAFE.out x (List.mem_of_getElem? hx0)
      have hxl := HTOT.out x (List.mem_of_getElem? hx0)
      have HXL := Lib.hid hxl
      obtain ⟨gL, c, cur, B, cB, hb, rest, H0, hc0, hrb, hcb, hBn, hks, hc1, hc2, hput⟩ := hIm.file hH' k x hx
      have HRB := Lib.hid hrb; have HBN := Lib.hid hBn; have HC1 := Lib.hid hc1; have HC2 := Lib.hid hc2; have HPUT := Lib.hid hput; have HH := Lib.hid H0
      have hki : (k : Int) < (m.fl.length : Int) := by omega
      clear hml
      have qd : wr.cell? ⟨d, 1, none⟩ = some (.slice (some ⟨gL, 0, none⟩) m.fl.length c) := Holds.cell H0.tail 1
      have HQF := Lib.hid (fun w2 (hb : Below wr.heap.size wr w2) => show w2.cell? ⟨gL, k * 3 + 1, none⟩ = some (.slice B x.2.b.length cB) from (Holds.cell (H0.grow hb) _).trans hc1)
      have HQS := Lib.hid (fun w2 (hb : Below wr.heap.size wr w2) => show w2.cell? ⟨gL, k * 3 + 2, none⟩ = some (.int .i64 x.2.safe) from (Holds.cell (H0.grow hb) _).trans hc2)
      obtain ⟨dn, hdn⟩ : ∃ dn : Int, dn = (x.2.b.length : Int) - (x.2.safe : Int) := ⟨_, rfl⟩
      have hwd : IntKind.i64.wrap ((x.2.b.length : Int) - (x.2.safe : Int)) = dn := by rw [IntKind.wrap_i64]; omega
      have HDN := Lib.hid hdn
      clear hI' hH' hIm hx hx0 hc1 hc2 hput hrb hBn H0 hdn hm
      go_wp2_with fail
      refine region_quiet_lit (C := fun w' => Below wr.heap.size wr w') (by kernel_rfl) (by kernel_rfl) (Below.refl _ _).drew ?_
      go_big_quiet_step (exact fun _ => rfl)
      go_big_quiet_step (exact fun _ => rfl)
      go_big_quiet_step (exact fun _ => rfl)
      refine BigFrame.wpQuiet_want rfl (fun K hK => ?_)
      refine quiet_val (.slice B x.2.b.length cB) (fun w2 hw => by have q := HQF.out w2 hw; simp [go_sem, q]) (hK _ ?_)
      clear hK K
      simp only [Act.put, List.setIfInBounds_toArray, List.set_cons_zero, List.set_cons_succ]
      go_big_quiet_step (exact fun _ => rfl)
      go_big_quiet_step (exact fun _ => rfl)
      go_big_quiet_step (exact fun _ => rfl)
      go_big_quiet_step (exact fun _ => rfl)
      refine BigFrame.wpQuiet_want rfl (fun K hK => ?_)
      refine quiet_val (.int .i64 x.2.safe) (fun w2 hw => by have q := HQS.out w2 hw; simp [go_sem, q]) (hK _ ?_)
      clear hK K
      simp only [Act.put, List.setIfInBounds_toArray, List.set_cons_zero, List.set_cons_succ]
      refine BigFrame.wpQuiet_want rfl (fun K hK => ?_)
      refine quiet_val (.int .i64 dn) (fun w2 hw => by simp [go_sem, hwd]) (hK _ ?_)
      clear hK K
      simp only [Act.put, List.setIfInBounds_toArray, List.set_cons_zero, List.set_cons_succ]
      go_big_quiet_step (exact fun _ => rfl)
      refine wpQuiet_nil ?_
      intro w4 hw4
      have HH4 := Lib.hid (HH.out.grow hw4)
      clear hw4
      by_cases hkd : (kn : Int) < dn
      · obtain ⟨p, hp⟩ : ∃ p : Nat, (p : Int) = (x.2.safe : Int) + (kn : Int) := ⟨x.2.safe + ((kn : Int)).toNat, by omega⟩
        have HP := Lib.hid hp
        have hdn := HDN.out
        have HPL := Lib.hid (show p ≤ x.2.b.length by omega)
        have HPLT := Lib.hid (show p < x.2.b.length by omega)
        have HADD := Lib.hid (show IntKind.i64.wrap ((x.2.safe : Int) + (kn : Int)) = (p : Int) by rw [IntKind.wrap_i64]; omega)
        have HTK := Lib.hid (show (x.2.b.take p).length = p by rw [List.length_take]; omega)
        have hcn : crN (kn : Nat) x.2 = p := crN_lo (K := (kn : Int)) (by unfold mx; split <;> omega) (by omega) (by omega) hp
        by_cases ht : torn = 0
        · have ht1 : ((torn.toNat : Int) != 0) = false := by rw [ht]; rfl
          have ht2 : ((torn.toNat : Int) = 0) := by rw [ht]; rfl
          have HCRB := Lib.hid (show crB (kn : Nat) torn x.2 = x.2.b.take p by unfold crB; rw [hcn, if_neg (by simp [ht])])
          clear hp hdn hcn ht
          go_wp2_with fail
          refine wp_region_own 13 (fun k => match k with | 12 => [0] | 13 => [12] | _ => []) (by kernel_rfl) (by kernel_rfl) (by kernel_rfl) (by kernel_rfl) (Nat.le_of_ble_eq_true (by kernel_rfl)) w0 (fun Ls hs => hs = ((gL, Obj.cells cur 51) :: ((d, rO m (.slice (some ⟨gL, 0, none⟩) m.fl.length c)) :: (hb ++ (rest ++ F))))) (fun i v h => match i with | 0 => RowB 5 1 v 0 (bv []) h | 1 => v = .pointer (some ⟨gL, k * 3, none⟩) ∧ h = [] | 2 => v = .pointer (some ⟨gL, k * 3, none⟩) ∧ h = [] | 3 => v = .pointer (some ⟨gL, k * 3 + 1, none⟩) ∧ h = [] | 4 => v = Value.slice B x.2.b.length cB ∧ h = [] | 5 => v = .pointer (some ⟨gL, k * 3, none⟩) ∧ h = [] | 6 => v = .pointer (some ⟨gL, k * 3, none⟩) ∧ h = [] | 7 => v = .pointer (some ⟨gL, k * 3 + 2, none⟩) ∧ h = [] | 8 => v = .int .i64 x.2.safe ∧ h = [] | 9 => v = .int .i64 (kn : Nat) ∧ h = [] | 10 => v = .int .i64 (p : Nat) ∧ h = [] | 11 => v = .slice B p cB ∧ h = [] | 12 => RowB 5 1 v ([] ++ (x.2.b.take p)).length (bv ([] ++ (x.2.b.take p))) h | _ => True) (((gL, Obj.cells cur 51) :: ((d, rO m (.slice (some ⟨gL, 0, none⟩) m.fl.length c)) :: (hb ++ (rest ++ F))))) (rfl) (HH4.out.drew) ?_ ?_
          · intro i o hi ho Ls f Hf hs R w1 hI hL hd hH
            simp only [fill, List.take_succ_cons, List.take_zero, Act.put, List.setIfInBounds_toArray, List.set_cons_zero, List.set_cons_succ]
            match i, hi with
            | 0, _ =>
              obtain rfl := Option.some.inj ho
              clear hd ho
              have hH : Holds w0 (hs ++ ([] ++ R)) w1 := hH
              rw [show hs = ((gL, Obj.cells cur 51) :: ((d, rO m (.slice (some ⟨gL, 0, none⟩) m.fl.length c)) :: (hb ++ (rest ++ F)))) from hI] at hH
              clear hI
              unfold wpOp
              refine Or.inl ?_
              unfold Oper.wp
              go_simp
              exact OwnBy.mk _ [(w1.heap.size, .cells #[] 5)] _ rfl rfl (RowB.lit hH #[] 0 (by decide) rfl) ((hH.alloc (.cells #[] 5)).perm (by classical rw [List.perm_iff_count]; intro a; simp only [List.count_append, List.count_cons, List.count_nil] <;> omega))
            | 1, _ =>
              obtain rfl := Option.some.inj ho
              clear hd ho
              have hH : Holds w0 (hs ++ ([] ++ R)) w1 := hH
              rw [show hs = ((gL, Obj.cells cur 51) :: ((d, rO m (.slice (some ⟨gL, 0, none⟩) m.fl.length c)) :: (hb ++ (rest ++ F)))) from hI] at hH
              clear hI
              unfold wpOp
              refine Or.inl ?_
              unfold Oper.wp
              go_simp
              exact OwnBy.mk _ _ _ rfl (rfl) (⟨rfl, rfl⟩) (hH)
            | 2, _ =>
              obtain rfl := Option.some.inj ho
              have e1 : f 1 = .pointer (some ⟨gL, k * 3, none⟩) := (hd ⟨1, .data⟩ (by simp) rfl).2.1
              clear hd ho
              have hH : Holds w0 (hs ++ ([] ++ R)) w1 := hH
              rw [show hs = ((gL, Obj.cells cur 51) :: ((d, rO m (.slice (some ⟨gL, 0, none⟩) m.fl.length c)) :: (hb ++ (rest ++ F)))) from hI] at hH
              clear hI
              unfold wpOp
              refine Or.inl ?_
              simp only [e1]
              unfold Oper.wp
              go_simp
              exact OwnBy.mk _ _ _ rfl (rfl) (⟨rfl, rfl⟩) (hH)
            | 3, _ =>
              obtain rfl := Option.some.inj ho
              have e2 : f 2 = .pointer (some ⟨gL, k * 3, none⟩) := (hd ⟨2, .data⟩ (by simp) rfl).2.1
              clear hd ho
              have hH : Holds w0 (hs ++ ([] ++ R)) w1 := hH
              rw [show hs = ((gL, Obj.cells cur 51) :: ((d, rO m (.slice (some ⟨gL, 0, none⟩) m.fl.length c)) :: (hb ++ (rest ++ F)))) from hI] at hH
              clear hI
              unfold wpOp
              refine Or.inl ?_
              simp only [e2]
              unfold Oper.wp
              go_simp
              exact OwnBy.mk _ _ _ rfl (rfl) (⟨rfl, rfl⟩) (hH)
            | 4, _ =>
              obtain rfl := Option.some.inj ho
              have e3 : f 3 = .pointer (some ⟨gL, k * 3 + 1, none⟩) := (hd ⟨3, .data⟩ (by simp) rfl).2.1
              clear hd ho
              have hH : Holds w0 (hs ++ ([] ++ R)) w1 := hH
              rw [show hs = ((gL, Obj.cells cur 51) :: ((d, rO m (.slice (some ⟨gL, 0, none⟩) m.fl.length c)) :: (hb ++ (rest ++ F)))) from hI] at hH
              clear hI
              unfold wpOp
              refine Or.inl ?_
              simp only [e3]
              unfold Oper.wp
              have q : w1.cell? ⟨gL, k * 3 + 1, none⟩ = some (.slice B x.2.b.length cB) := (Holds.cell hH (k * 3 + 1)).trans HC1.out
              go_simp
              exact OwnBy.mk _ _ _ rfl (rfl) (⟨rfl, rfl⟩) (hH)
            | 5, _ =>
              obtain rfl := Option.some.inj ho
              clear hd ho
              have hH : Holds w0 (hs ++ ([] ++ R)) w1 := hH
              rw [show hs = ((gL, Obj.cells cur 51) :: ((d, rO m (.slice (some ⟨gL, 0, none⟩) m.fl.length c)) :: (hb ++ (rest ++ F)))) from hI] at hH
              clear hI
              unfold wpOp
              refine Or.inl ?_
              unfold Oper.wp
              go_simp
              exact OwnBy.mk _ _ _ rfl (rfl) (⟨rfl, rfl⟩) (hH)
            | 6, _ =>
              obtain rfl := Option.some.inj ho
              have e5 : f 5 = .pointer (some ⟨gL, k * 3, none⟩) := (hd ⟨5, .data⟩ (by simp) rfl).2.1
              clear hd ho
              have hH : Holds w0 (hs ++ ([] ++ R)) w1 := hH
              rw [show hs = ((gL, Obj.cells cur 51) :: ((d, rO m (.slice (some ⟨gL, 0, none⟩) m.fl.length c)) :: (hb ++ (rest ++ F)))) from hI] at hH
              clear hI
              unfold wpOp
              refine Or.inl ?_
              simp only [e5]
              unfold Oper.wp
              go_simp
              exact OwnBy.mk _ _ _ rfl (rfl) (⟨rfl, rfl⟩) (hH)
            | 7, _ =>
              obtain rfl := Option.some.inj ho
              have e6 : f 6 = .pointer (some ⟨gL, k * 3, none⟩) := (hd ⟨6, .data⟩ (by simp) rfl).2.1
              clear hd ho
              have hH : Holds w0 (hs ++ ([] ++ R)) w1 := hH
              rw [show hs = ((gL, Obj.cells cur 51) :: ((d, rO m (.slice (some ⟨gL, 0, none⟩) m.fl.length c)) :: (hb ++ (rest ++ F)))) from hI] at hH
              clear hI
              unfold wpOp
              refine Or.inl ?_
              simp only [e6]
              unfold Oper.wp
              go_simp
              exact OwnBy.mk _ _ _ rfl (rfl) (⟨rfl, rfl⟩) (hH)
            | 8, _ =>
              obtain rfl := Option.some.inj ho
              have e7 : f 7 = .pointer (some ⟨gL, k * 3 + 2, none⟩) := (hd ⟨7, .data⟩ (by simp) rfl).2.1
              clear hd ho
              have hH : Holds w0 (hs ++ ([] ++ R)) w1 := hH
              rw [show hs = ((gL, Obj.cells cur 51) :: ((d, rO m (.slice (some ⟨gL, 0, none⟩) m.fl.length c)) :: (hb ++ (rest ++ F)))) from hI] at hH
              clear hI
              unfold wpOp
              refine Or.inl ?_
              simp only [e7]
              unfold Oper.wp
              have q : w1.cell? ⟨gL, k * 3 + 2, none⟩ = some (.int .i64 x.2.safe) := (Holds.cell hH (k * 3 + 2)).trans HC2.out
              go_simp
              exact OwnBy.mk _ _ _ rfl (rfl) (⟨rfl, rfl⟩) (hH)
            | 9, _ =>
              obtain rfl := Option.some.inj ho
              clear hd ho
              have hH : Holds w0 (hs ++ ([] ++ R)) w1 := hH
              rw [show hs = ((gL, Obj.cells cur 51) :: ((d, rO m (.slice (some ⟨gL, 0, none⟩) m.fl.length c)) :: (hb ++ (rest ++ F)))) from hI] at hH
              clear hI
              unfold wpOp
              refine Or.inl ?_
              unfold Oper.wp
              go_simp
              exact OwnBy.mk _ _ _ rfl (rfl) (⟨rfl, rfl⟩) (hH)
            | 10, _ =>
              obtain rfl := Option.some.inj ho
              have e8 : f 8 = .int .i64 x.2.safe := (hd ⟨8, .data⟩ (by simp) rfl).2.1
              have e9 : f 9 = .int .i64 (kn : Nat) := (hd ⟨9, .data⟩ (by simp) rfl).2.1
              clear hd ho
              have hH : Holds w0 (hs ++ ([] ++ R)) w1 := hH
              rw [show hs = ((gL, Obj.cells cur 51) :: ((d, rO m (.slice (some ⟨gL, 0, none⟩) m.fl.length c)) :: (hb ++ (rest ++ F)))) from hI] at hH
              clear hI
              unfold wpOp
              refine Or.inl ?_
              simp only [e8, e9]
              unfold Oper.wp
              have qa := HADD.out
              go_simp
              exact OwnBy.mk _ _ _ rfl (rfl) (⟨rfl, rfl⟩) (hH)
            | 11, _ =>
              obtain rfl := Option.some.inj ho
              have e4 : f 4 = Value.slice B x.2.b.length cB := (hd ⟨4, .data⟩ (by simp) rfl).2.1
              have e10 : f 10 = .int .i64 (p : Nat) := (hd ⟨10, .data⟩ (by simp) rfl).2.1
              clear hd ho
              have hH : Holds w0 (hs ++ ([] ++ R)) w1 := hH
              rw [show hs = ((gL, Obj.cells cur 51) :: ((d, rO m (.slice (some ⟨gL, 0, none⟩) m.fl.length c)) :: (hb ++ (rest ++ F)))) from hI] at hH
              clear hI
              unfold wpOp
              refine Or.inl ?_
              simp only [e4, e10]
              unfold Oper.wp
              have hcut := cutHi Try.underlying28 sz5 B x.2.b.length cB p HPL.out hcb w1
              go_simp
              exact OwnBy.mk _ _ _ rfl (rfl) (⟨rfl, rfl⟩) (hH)
            | 12, _ =>
              obtain rfl := Option.some.inj ho
              have e0 := (hd ⟨0, .data⟩ (by simp) rfl).2
              have e11 : f 11 = .slice B p cB := (hd ⟨11, .data⟩ (by simp) rfl).2.1
              clear hd ho
              have hH : Holds w0 (hs ++ ((Hf 0 ++ ([])) ++ R)) w1 := hH
              simp only [List.append_nil, List.append_assoc] at hH
              rw [show hs = ((gL, Obj.cells cur 51) :: ((d, rO m (.slice (some ⟨gL, 0, none⟩) m.fl.length c)) :: (hb ++ (rest ++ F)))) from hI] at hH
              clear hI
              unfold wpOp
              refine Or.inl ?_
              simp only [e11]
              unfold Oper.wp
              obtain ⟨A0, c0, hv0, _, _, hrd⟩ := HRB.out.reads (hH.perm (k := hb ++ (((gL, Obj.cells cur 51) :: ((d, rO m (.slice (some ⟨gL, 0, none⟩) m.fl.length c)) :: (rest ++ F))) ++ (Hf 0 ++ R))) (by classical rw [List.perm_iff_count]; intro a; simp only [List.count_append, List.count_cons, List.count_nil] <;> omega))
              injection hv0 with hv0 _ hv0c
              subst hv0
              subst hv0c
              have hrd2 : Reads w1 B (x.2.b.take p).length 1 (bv (x.2.b.take p)) := by have := hrd.take (k := p) HPL.out; rw [Nat.mul_one, bv_take] at this; rw [HTK.out]; exact this
              have hxl := HXL.out
              have htk := HTK.out
              obtain ⟨v8, h8, w8, r1, r2, r3⟩ := bytes_append (bs := []) e0 (hH.perm (k := Hf 0 ++ (((gL, Obj.cells cur 51) :: ((d, rO m (.slice (some ⟨gL, 0, none⟩) m.fl.length c)) :: (hb ++ (rest ++ F)))) ++ R)) (by classical rw [List.perm_iff_count]; intro a; simp only [List.count_append, List.count_cons, List.count_nil] <;> omega)) 28 (B) (cB) ((x.2.b.take p)) (HBN.out) (hrd2) (by rw [htk]; simp only [List.length_nil]; have := HPL.out; omega)
              rw [HTK.out] at r1
              refine wpA (.tmp 52) (.tmp 63) rfl rfl rfl r1 ?_
              exact OwnBy.mk _ h8 _ rfl rfl r2 (r3.perm (by classical rw [List.perm_iff_count]; intro a; simp only [List.count_append, List.count_cons, List.count_nil] <;> omega))
          · intro Ls f Hf hs w1 hI hL hV hH
            have e0 := hV 0 (by decide)
            have e1 : f 1 = .pointer (some ⟨gL, k * 3, none⟩) := (hV 1 (by decide)).1
            have e2 : f 2 = .pointer (some ⟨gL, k * 3, none⟩) := (hV 2 (by decide)).1
            have e3 : f 3 = .pointer (some ⟨gL, k * 3 + 1, none⟩) := (hV 3 (by decide)).1
            have e4 : f 4 = Value.slice B x.2.b.length cB := (hV 4 (by decide)).1
            have e5 : f 5 = .pointer (some ⟨gL, k * 3, none⟩) := (hV 5 (by decide)).1
            have e6 : f 6 = .pointer (some ⟨gL, k * 3, none⟩) := (hV 6 (by decide)).1
            have e7 : f 7 = .pointer (some ⟨gL, k * 3 + 2, none⟩) := (hV 7 (by decide)).1
            have e8 : f 8 = .int .i64 x.2.safe := (hV 8 (by decide)).1
            have e9 : f 9 = .int .i64 (kn : Nat) := (hV 9 (by decide)).1
            have e10 : f 10 = .int .i64 (p : Nat) := (hV 10 (by decide)).1
            have e11 : f 11 = .slice B p cB := (hV 11 (by decide)).1
            have e12 := hV 12 (by decide)
            clear hV
            have hH : Holds w0 (hs ++ (Hf 12 ++ [])) w1 := hH
            simp only [List.append_nil, List.append_assoc] at hH
            simp only [fill, List.take_succ_cons, List.take_zero, List.drop_succ_cons, List.drop_zero, Act.put, List.setIfInBounds_toArray, List.set_cons_zero, List.set_cons_succ, e1, e2, e3, e4, e5, e6, e7, e8, e9, e10, e11]
            rw [show hs = ((gL, Obj.cells cur 51) :: ((d, rO m (.slice (some ⟨gL, 0, none⟩) m.fl.length c)) :: (hb ++ (rest ++ F)))) from hI] at hH
            clear hI
            rw [List.nil_append] at e12
            obtain ⟨A8, c8, hv8, _, _⟩ := RowB.form e12
            rw [hv8] at e12 ⊢
            obtain ⟨n8, hn8⟩ : ∃ n8, n8 = (x.2.b.take p).length := ⟨_, rfl⟩
            rw [← hn8] at e12 ⊢
            have HR8 := Lib.hid e12
            have HN8 := Lib.hid (show (x.2.b.take p).length = n8 from hn8.symm)
            have HCR := Lib.hid (show crF (kn : Nat) torn x.2 = ⟨x.2.b.take p, n8⟩ by have e := HCRB.out; unfold crF; rw [e, hn8])
            have hH2 := hH
            clear hL hH hv8 hn8
            have H9 : Holds w0 ((gL, Obj.cells cur 51) :: ((d, rO m (.slice (some ⟨gL, 0, none⟩) m.fl.length c)) :: (Hf 12 ++ (rest ++ F)) ++ hb)) w1 := hH2.perm (by classical rw [List.perm_iff_count]; intro a; simp only [List.count_append, List.count_cons, List.count_nil] <;> omega)
            have q2 : w1.cell? ⟨gL, k * 3 + 1, none⟩ = some (.slice B x.2.b.length cB) := (H9.cell _).trans HC1.out
            have q3 : w1.frozen? ⟨gL, k * 3 + 1, none⟩ = false := H9.froz _
            have H10 : Holds w0 ((gL, Obj.cells (cur.setIfInBounds (k * 3 + 1) (.slice A8 n8 c8)) 51) :: ((d, rO m (.slice (some ⟨gL, 0, none⟩) m.fl.length c)) :: (Hf 12 ++ (rest ++ F)) ++ hb)) _ := H9.set (k * 3 + 1) (.slice A8 n8 c8)
            have q5 : (w1.setCell ⟨gL, k * 3 + 1, none⟩ (.slice A8 n8 c8)).cell? ⟨gL, k * 3 + 2, none⟩ = some (.int .i64 x.2.safe) := by rw [Holds.cell H10, Array.getElem?_setIfInBounds_ne (by omega)]; exact HC2.out
            have q6 : (w1.setCell ⟨gL, k * 3 + 1, none⟩ (.slice A8 n8 c8)).frozen? ⟨gL, k * 3 + 2, none⟩ = false := Holds.froz H10 _
            have HH11 := Lib.hid (H10.set (k * 3 + 2) (.int .i64 (n8 : Nat)))
            clear H9 H10
            go_wp2_with fail
            go_roundw
            case rel =>
              have hfin := HPUT.out (.slice A8 n8 c8) ⟨x.2.b.take p, n8⟩ (Hf 12) _ (by show RowB 5 1 _ (x.2.b.take p).length _ _; rw [HN8.out]; exact HR8.out) (HH11.out.perm (k := ((gL, _) :: ((d, rO m (.slice (some ⟨gL, 0, none⟩) m.fl.length c)) :: (Hf 12 ++ (rest ++ F)))) ++ hb) (by classical rw [List.perm_iff_count]; intro a; simp only [List.count_append, List.count_cons, List.count_nil] <;> omega)).left
              have e8 : (x.1, (⟨x.2.b.take p, n8⟩ : Fl)) = (x.1, crF (kn : Nat) torn x.2) := by rw [HCR.out]
              rw [e8, HMS.out] at hfin
              exact ⟨k + 1, by omega, by go_num, hfin⟩
            case measure => simp [intOf]; omega
        · have ht0 : torn.toNat ≠ 0 := fun h => ht (UInt8.toNat_inj.1 (by simpa using h))
          have ht1 : ((torn.toNat : Int) != 0) = true := by simpa using ht0
          have ht2 : ¬ ((torn.toNat : Int) = 0) := by omega
          have HCRB := Lib.hid (show crB (kn : Nat) torn x.2 = x.2.b.take p ++ [x.2.b.getD p 0 ^^^ torn] by unfold crB; rw [hcn, if_pos ⟨HPLT.out, ht⟩])
          clear hp hdn hcn ht ht0
          go_wp2_with fail
          refine wp_region_own 13 (fun k => match k with | 12 => [0] | 13 => [12] | _ => []) (by kernel_rfl) (by kernel_rfl) (by kernel_rfl) (by kernel_rfl) (Nat.le_of_ble_eq_true (by kernel_rfl)) w0 (fun Ls hs => hs = ((gL, Obj.cells cur 51) :: ((d, rO m (.slice (some ⟨gL, 0, none⟩) m.fl.length c)) :: (hb ++ (rest ++ F))))) (fun i v h => match i with | 0 => RowB 5 1 v 0 (bv []) h | 1 => v = .pointer (some ⟨gL, k * 3, none⟩) ∧ h = [] | 2 => v = .pointer (some ⟨gL, k * 3, none⟩) ∧ h = [] | 3 => v = .pointer (some ⟨gL, k * 3 + 1, none⟩) ∧ h = [] | 4 => v = Value.slice B x.2.b.length cB ∧ h = [] | 5 => v = .pointer (some ⟨gL, k * 3, none⟩) ∧ h = [] | 6 => v = .pointer (some ⟨gL, k * 3, none⟩) ∧ h = [] | 7 => v = .pointer (some ⟨gL, k * 3 + 2, none⟩) ∧ h = [] | 8 => v = .int .i64 x.2.safe ∧ h = [] | 9 => v = .int .i64 (kn : Nat) ∧ h = [] | 10 => v = .int .i64 (p : Nat) ∧ h = [] | 11 => v = .slice B p cB ∧ h = [] | 12 => RowB 5 1 v ([] ++ (x.2.b.take p)).length (bv ([] ++ (x.2.b.take p))) h | _ => True) (((gL, Obj.cells cur 51) :: ((d, rO m (.slice (some ⟨gL, 0, none⟩) m.fl.length c)) :: (hb ++ (rest ++ F))))) (rfl) (HH4.out.drew) ?_ ?_
          · intro i o hi ho Ls f Hf hs R w1 hI hL hd hH
            simp only [fill, List.take_succ_cons, List.take_zero, Act.put, List.setIfInBounds_toArray, List.set_cons_zero, List.set_cons_succ]
            match i, hi with
            | 0, _ =>
              obtain rfl := Option.some.inj ho
              clear hd ho
              have hH : Holds w0 (hs ++ ([] ++ R)) w1 := hH
              rw [show hs = ((gL, Obj.cells cur 51) :: ((d, rO m (.slice (some ⟨gL, 0, none⟩) m.fl.length c)) :: (hb ++ (rest ++ F)))) from hI] at hH
              clear hI
              unfold wpOp
              refine Or.inl ?_
              unfold Oper.wp
              go_simp
              exact OwnBy.mk _ [(w1.heap.size, .cells #[] 5)] _ rfl rfl (RowB.lit hH #[] 0 (by decide) rfl) ((hH.alloc (.cells #[] 5)).perm (by classical rw [List.perm_iff_count]; intro a; simp only [List.count_append, List.count_cons, List.count_nil] <;> omega))
            | 1, _ =>
              obtain rfl := Option.some.inj ho
              clear hd ho
              have hH : Holds w0 (hs ++ ([] ++ R)) w1 := hH
              rw [show hs = ((gL, Obj.cells cur 51) :: ((d, rO m (.slice (some ⟨gL, 0, none⟩) m.fl.length c)) :: (hb ++ (rest ++ F)))) from hI] at hH
              clear hI
              unfold wpOp
              refine Or.inl ?_
              unfold Oper.wp
              go_simp
              exact OwnBy.mk _ _ _ rfl (rfl) (⟨rfl, rfl⟩) (hH)
            | 2, _ =>
              obtain rfl := Option.some.inj ho
              have e1 : f 1 = .pointer (some ⟨gL, k * 3, none⟩) := (hd ⟨1, .data⟩ (by simp) rfl).2.1
              clear hd ho
              have hH : Holds w0 (hs ++ ([] ++ R)) w1 := hH
              rw [show hs = ((gL, Obj.cells cur 51) :: ((d, rO m (.slice (some ⟨gL, 0, none⟩) m.fl.length c)) :: (hb ++ (rest ++ F)))) from hI] at hH
              clear hI
              unfold wpOp
              refine Or.inl ?_
              simp only [e1]
              unfold Oper.wp
              go_simp
              exact OwnBy.mk _ _ _ rfl (rfl) (⟨rfl, rfl⟩) (hH)
            | 3, _ =>
              obtain rfl := Option.some.inj ho
              have e2 : f 2 = .pointer (some ⟨gL, k * 3, none⟩) := (hd ⟨2, .data⟩ (by simp) rfl).2.1
              clear hd ho
              have hH : Holds w0 (hs ++ ([] ++ R)) w1 := hH
              rw [show hs = ((gL, Obj.cells cur 51) :: ((d, rO m (.slice (some ⟨gL, 0, none⟩) m.fl.length c)) :: (hb ++ (rest ++ F)))) from hI] at hH
              clear hI
              unfold wpOp
              refine Or.inl ?_
              simp only [e2]
              unfold Oper.wp
              go_simp
              exact OwnBy.mk _ _ _ rfl (rfl) (⟨rfl, rfl⟩) (hH)
            | 4, _ =>
              obtain rfl := Option.some.inj ho
              have e3 : f 3 = .pointer (some ⟨gL, k * 3 + 1, none⟩) := (hd ⟨3, .data⟩ (by simp) rfl).2.1
              clear hd ho
              have hH : Holds w0 (hs ++ ([] ++ R)) w1 := hH
              rw [show hs = ((gL, Obj.cells cur 51) :: ((d, rO m (.slice (some ⟨gL, 0, none⟩) m.fl.length c)) :: (hb ++ (rest ++ F)))) from hI] at hH
              clear hI
              unfold wpOp
              refine Or.inl ?_
              simp only [e3]
              unfold Oper.wp
              have q : w1.cell? ⟨gL, k * 3 + 1, none⟩ = some (.slice B x.2.b.length cB) := (Holds.cell hH (k * 3 + 1)).trans HC1.out
              go_simp
              exact OwnBy.mk _ _ _ rfl (rfl) (⟨rfl, rfl⟩) (hH)
            | 5, _ =>
              obtain rfl := Option.some.inj ho
              clear hd ho
              have hH : Holds w0 (hs ++ ([] ++ R)) w1 := hH
              rw [show hs = ((gL, Obj.cells cur 51) :: ((d, rO m (.slice (some ⟨gL, 0, none⟩) m.fl.length c)) :: (hb ++ (rest ++ F)))) from hI] at hH
              clear hI
              unfold wpOp
              refine Or.inl ?_
              unfold Oper.wp
              go_simp
              exact OwnBy.mk _ _ _ rfl (rfl) (⟨rfl, rfl⟩) (hH)
            | 6, _ =>
              obtain rfl := Option.some.inj ho
              have e5 : f 5 = .pointer (some ⟨gL, k * 3, none⟩) := (hd ⟨5, .data⟩ (by simp) rfl).2.1
              clear hd ho
              have hH : Holds w0 (hs ++ ([] ++ R)) w1 := hH
              rw [show hs = ((gL, Obj.cells cur 51) :: ((d, rO m (.slice (some ⟨gL, 0, none⟩) m.fl.length c)) :: (hb ++ (rest ++ F)))) from hI] at hH
              clear hI
              unfold wpOp
              refine Or.inl ?_
              simp only [e5]
              unfold Oper.wp
              go_simp
              exact OwnBy.mk _ _ _ rfl (rfl) (⟨rfl, rfl⟩) (hH)
            | 7, _ =>
              obtain rfl := Option.some.inj ho
              have e6 : f 6 = .pointer (some ⟨gL, k * 3, none⟩) := (hd ⟨6, .data⟩ (by simp) rfl).2.1
              clear hd ho
              have hH : Holds w0 (hs ++ ([] ++ R)) w1 := hH
              rw [show hs = ((gL, Obj.cells cur 51) :: ((d, rO m (.slice (some ⟨gL, 0, none⟩) m.fl.length c)) :: (hb ++ (rest ++ F)))) from hI] at hH
              clear hI
              unfold wpOp
              refine Or.inl ?_
              simp only [e6]
              unfold Oper.wp
              go_simp
              exact OwnBy.mk _ _ _ rfl (rfl) (⟨rfl, rfl⟩) (hH)
            | 8, _ =>
              obtain rfl := Option.some.inj ho
              have e7 : f 7 = .pointer (some ⟨gL, k * 3 + 2, none⟩) := (hd ⟨7, .data⟩ (by simp) rfl).2.1
              clear hd ho
              have hH : Holds w0 (hs ++ ([] ++ R)) w1 := hH
              rw [show hs = ((gL, Obj.cells cur 51) :: ((d, rO m (.slice (some ⟨gL, 0, none⟩) m.fl.length c)) :: (hb ++ (rest ++ F)))) from hI] at hH
              clear hI
              unfold wpOp
              refine Or.inl ?_
              simp only [e7]
              unfold Oper.wp
              have q : w1.cell? ⟨gL, k * 3 + 2, none⟩ = some (.int .i64 x.2.safe) := (Holds.cell hH (k * 3 + 2)).trans HC2.out
              go_simp
              exact OwnBy.mk _ _ _ rfl (rfl) (⟨rfl, rfl⟩) (hH)
            | 9, _ =>
              obtain rfl := Option.some.inj ho
              clear hd ho
              have hH : Holds w0 (hs ++ ([] ++ R)) w1 := hH
              rw [show hs = ((gL, Obj.cells cur 51) :: ((d, rO m (.slice (some ⟨gL, 0, none⟩) m.fl.length c)) :: (hb ++ (rest ++ F)))) from hI] at hH
              clear hI
              unfold wpOp
              refine Or.inl ?_
              unfold Oper.wp
              go_simp
              exact OwnBy.mk _ _ _ rfl (rfl) (⟨rfl, rfl⟩) (hH)
            | 10, _ =>
              obtain rfl := Option.some.inj ho
              have e8 : f 8 = .int .i64 x.2.safe := (hd ⟨8, .data⟩ (by simp) rfl).2.1
              have e9 : f 9 = .int .i64 (kn : Nat) := (hd ⟨9, .data⟩ (by simp) rfl).2.1
              clear hd ho
              have hH : Holds w0 (hs ++ ([] ++ R)) w1 := hH
              rw [show hs = ((gL, Obj.cells cur 51) :: ((d, rO m (.slice (some ⟨gL, 0, none⟩) m.fl.length c)) :: (hb ++ (rest ++ F)))) from hI] at hH
              clear hI
              unfold wpOp
              refine Or.inl ?_
              simp only [e8, e9]
              unfold Oper.wp
              have qa := HADD.out
              go_simp
              exact OwnBy.mk _ _ _ rfl (rfl) (⟨rfl, rfl⟩) (hH)
            | 11, _ =>
              obtain rfl := Option.some.inj ho
              have e4 : f 4 = Value.slice B x.2.b.length cB := (hd ⟨4, .data⟩ (by simp) rfl).2.1
              have e10 : f 10 = .int .i64 (p : Nat) := (hd ⟨10, .data⟩ (by simp) rfl).2.1
              clear hd ho
              have hH : Holds w0 (hs ++ ([] ++ R)) w1 := hH
              rw [show hs = ((gL, Obj.cells cur 51) :: ((d, rO m (.slice (some ⟨gL, 0, none⟩) m.fl.length c)) :: (hb ++ (rest ++ F)))) from hI] at hH
              clear hI
              unfold wpOp
              refine Or.inl ?_
              simp only [e4, e10]
              unfold Oper.wp
              have hcut := cutHi Try.underlying28 sz5 B x.2.b.length cB p HPL.out hcb w1
              go_simp
              exact OwnBy.mk _ _ _ rfl (rfl) (⟨rfl, rfl⟩) (hH)
            | 12, _ =>
              obtain rfl := Option.some.inj ho
              have e0 := (hd ⟨0, .data⟩ (by simp) rfl).2
              have e11 : f 11 = .slice B p cB := (hd ⟨11, .data⟩ (by simp) rfl).2.1
              clear hd ho
              have hH : Holds w0 (hs ++ ((Hf 0 ++ ([])) ++ R)) w1 := hH
              simp only [List.append_nil, List.append_assoc] at hH
              rw [show hs = ((gL, Obj.cells cur 51) :: ((d, rO m (.slice (some ⟨gL, 0, none⟩) m.fl.length c)) :: (hb ++ (rest ++ F)))) from hI] at hH
              clear hI
              unfold wpOp
              refine Or.inl ?_
              simp only [e11]
              unfold Oper.wp
              obtain ⟨A0, c0, hv0, _, _, hrd⟩ := HRB.out.reads (hH.perm (k := hb ++ (((gL, Obj.cells cur 51) :: ((d, rO m (.slice (some ⟨gL, 0, none⟩) m.fl.length c)) :: (rest ++ F))) ++ (Hf 0 ++ R))) (by classical rw [List.perm_iff_count]; intro a; simp only [List.count_append, List.count_cons, List.count_nil] <;> omega))
              injection hv0 with hv0 _ hv0c
              subst hv0
              subst hv0c
              have hrd2 : Reads w1 B (x.2.b.take p).length 1 (bv (x.2.b.take p)) := by have := hrd.take (k := p) HPL.out; rw [Nat.mul_one, bv_take] at this; rw [HTK.out]; exact this
              have hxl := HXL.out
              have htk := HTK.out
              obtain ⟨v8, h8, w8, r1, r2, r3⟩ := bytes_append (bs := []) e0 (hH.perm (k := Hf 0 ++ (((gL, Obj.cells cur 51) :: ((d, rO m (.slice (some ⟨gL, 0, none⟩) m.fl.length c)) :: (hb ++ (rest ++ F)))) ++ R)) (by classical rw [List.perm_iff_count]; intro a; simp only [List.count_append, List.count_cons, List.count_nil] <;> omega)) 28 (B) (cB) ((x.2.b.take p)) (HBN.out) (hrd2) (by rw [htk]; simp only [List.length_nil]; have := HPL.out; omega)
              rw [HTK.out] at r1
              refine wpA (.tmp 52) (.tmp 63) rfl rfl rfl r1 ?_
              exact OwnBy.mk _ h8 _ rfl rfl r2 (r3.perm (by classical rw [List.perm_iff_count]; intro a; simp only [List.count_append, List.count_cons, List.count_nil] <;> omega))
          · intro Ls f Hf hs w1 hI hL hV hH
            have e0 := hV 0 (by decide)
            have e1 : f 1 = .pointer (some ⟨gL, k * 3, none⟩) := (hV 1 (by decide)).1
            have e2 : f 2 = .pointer (some ⟨gL, k * 3, none⟩) := (hV 2 (by decide)).1
            have e3 : f 3 = .pointer (some ⟨gL, k * 3 + 1, none⟩) := (hV 3 (by decide)).1
            have e4 : f 4 = Value.slice B x.2.b.length cB := (hV 4 (by decide)).1
            have e5 : f 5 = .pointer (some ⟨gL, k * 3, none⟩) := (hV 5 (by decide)).1
            have e6 : f 6 = .pointer (some ⟨gL, k * 3, none⟩) := (hV 6 (by decide)).1
            have e7 : f 7 = .pointer (some ⟨gL, k * 3 + 2, none⟩) := (hV 7 (by decide)).1
            have e8 : f 8 = .int .i64 x.2.safe := (hV 8 (by decide)).1
            have e9 : f 9 = .int .i64 (kn : Nat) := (hV 9 (by decide)).1
            have e10 : f 10 = .int .i64 (p : Nat) := (hV 10 (by decide)).1
            have e11 : f 11 = .slice B p cB := (hV 11 (by decide)).1
            have e12 := hV 12 (by decide)
            clear hV
            have hH : Holds w0 (hs ++ (Hf 12 ++ [])) w1 := hH
            simp only [List.append_nil, List.append_assoc] at hH
            simp only [fill, List.take_succ_cons, List.take_zero, List.drop_succ_cons, List.drop_zero, Act.put, List.setIfInBounds_toArray, List.set_cons_zero, List.set_cons_succ, e1, e2, e3, e4, e5, e6, e7, e8, e9, e10, e11]
            rw [show hs = ((gL, Obj.cells cur 51) :: ((d, rO m (.slice (some ⟨gL, 0, none⟩) m.fl.length c)) :: (hb ++ (rest ++ F)))) from hI] at hH
            clear hI
            rw [List.nil_append] at e12
            obtain ⟨A8, c8, hv8, _, _⟩ := RowB.form e12
            rw [hv8] at e12 ⊢
            rw [HTK.out] at e12 ⊢
            have HR7 := Lib.hid e12
            obtain ⟨gB, hgB⟩ : ∃ gB, B = some ⟨gB, 0, none⟩ := by
              obtain ⟨A0, c0, hv0, _, _, hrd⟩ := HRB.out.reads ((show Holds w0 (((gL, Obj.cells cur 51) :: ((d, rO m (.slice (some ⟨gL, 0, none⟩) m.fl.length c)) :: (hb ++ (rest ++ F)))) ++ Hf 12) w1 from by simpa using hH).perm (k := hb ++ (((gL, Obj.cells cur 51) :: ((d, rO m (.slice (some ⟨gL, 0, none⟩) m.fl.length c)) :: (rest ++ F))) ++ Hf 12)) (by classical rw [List.perm_iff_count]; intro a; simp only [List.count_append, List.count_cons, List.count_nil] <;> omega))
              obtain ⟨_, ⟨_, h0, _⟩ | ⟨g, cap', cur', hv, _⟩⟩ := HRB.out
              · have := HPLT.out; omega
              · injection hv with e1
                exact ⟨g, e1⟩
            subst hgB
            obtain ⟨z0, hz0⟩ : ∃ z0, x.2.b[p]? = some z0 := ⟨_, List.getElem?_eq_getElem HPLT.out⟩
            have HZ0 := Lib.hid hz0
            have HCEL := Lib.hid (fun w2 (G : Hp) (hG : Holds w0 (((gL, Obj.cells cur 51) :: ((d, rO m (.slice (some ⟨gL, 0, none⟩) m.fl.length c)) :: (hb ++ (rest ++ F)))) ++ G) w2) => show w2.cell? ⟨gB, p, none⟩ = some (.int .u8 (z0.toNat : Nat)) from by
              obtain ⟨A0, c0, hv0, _, _, hrd⟩ := HRB.out.reads (hG.perm (k := hb ++ (((gL, Obj.cells cur 51) :: ((d, rO m (.slice (some ⟨gL, 0, none⟩) m.fl.length c)) :: (rest ++ F))) ++ G)) (by classical rw [List.perm_iff_count]; intro a; simp only [List.count_append, List.count_cons, List.count_nil] <;> omega))
              injection hv0 with hv0 _ _
              have := hrd.2.2 ⟨gB, 0, none⟩ hv0.symm p (.int .u8 (z0.toNat : Nat)) (by simp [bv, HZ0.out])
              have e2 : (⟨gB, 0, none⟩ : Addr).add p = ⟨gB, p, none⟩ := by simp [Addr.add]; omega
              rwa [e2] at this)
            have HG0 := Lib.hid (show Holds w0 (((gL, Obj.cells cur 51) :: ((d, rO m (.slice (some ⟨gL, 0, none⟩) m.fl.length c)) :: (hb ++ (rest ++ F)))) ++ Hf 12) w1 from by simpa using hH)
            have hxor := xorB z0 torn
            have hpi : (p : Int) < (x.2.b.length : Int) := by have := HPLT.out; omega
            have HXOR := Lib.hid hxor
            have HPI := Lib.hid hpi
            clear hL hH hv8 hz0 hxor hpi
            obtain ⟨Hf12, hHf12⟩ : ∃ z, z = Hf 12 := ⟨_, rfl⟩
            rw [← hHf12] at HR7 HG0
            clear hHf12
            go_wp2_with fail
            refine wp_region_own 17 (fun k => match k with | 16 => [15] | 17 => [16] | _ => []) (by kernel_rfl) (by kernel_rfl) (by kernel_rfl) (by kernel_rfl) (Nat.le_of_ble_eq_true (by kernel_rfl)) w0 (fun Ls hs => CrJ ((gL, Obj.cells cur 51) :: ((d, rO m (.slice (some ⟨gL, 0, none⟩) m.fl.length c)) :: (hb ++ (rest ++ F)))) Hf12 Ls hs) (fun i v h => match i with | 0 => v = .slice A8 p c8 ∧ h = [] | 1 => v = .pointer (some ⟨gL, k * 3, none⟩) ∧ h = [] | 2 => v = .pointer (some ⟨gL, k * 3, none⟩) ∧ h = [] | 3 => v = .pointer (some ⟨gL, k * 3 + 1, none⟩) ∧ h = [] | 4 => v = Value.slice (some ⟨gB, 0, none⟩) x.2.b.length cB ∧ h = [] | 5 => v = .pointer (some ⟨gL, k * 3, none⟩) ∧ h = [] | 6 => v = .pointer (some ⟨gL, k * 3, none⟩) ∧ h = [] | 7 => v = .pointer (some ⟨gL, k * 3 + 2, none⟩) ∧ h = [] | 8 => v = .int .i64 x.2.safe ∧ h = [] | 9 => v = .int .i64 (kn : Nat) ∧ h = [] | 10 => v = .int .i64 (p : Nat) ∧ h = [] | 11 => v = .pointer (some ⟨gB, p, none⟩) ∧ h = [] | 12 => v = .int .u8 (z0.toNat : Nat) ∧ h = [] | 13 => v = .int .u8 (torn.toNat : Nat) ∧ h = [] | 14 => v = .int .u8 ((z0 ^^^ torn).toNat : Nat) ∧ h = [] | 15 => ∃ g, v = .slice (some ⟨g, 0, none⟩) 1 1 ∧ h = [(g, .cells #[.int .u8 ((z0 ^^^ torn).toNat : Nat)] 5)] | 16 => RowB 5 1 v (x.2.b.take p ++ [z0 ^^^ torn]).length (bv (x.2.b.take p ++ [z0 ^^^ torn])) h | _ => True) ((((gL, Obj.cells cur 51) :: ((d, rO m (.slice (some ⟨gL, 0, none⟩) m.fl.length c)) :: (hb ++ (rest ++ F)))) ++ Hf12)) (⟨Hf12, rfl, fun _ => rfl⟩) (HG0.out.drew) ?_ ?_
            · intro i o hi ho Ls f Hf hs R w1 hI hL hd hH
              simp only [fill, List.take_succ_cons, List.take_zero, Act.put, List.setIfInBounds_toArray, List.set_cons_zero, List.set_cons_succ]
              match i, hi with
              | 0, _ =>
                obtain rfl := Option.some.inj ho
                clear hd ho
                have hH : Holds w0 (hs ++ ([] ++ R)) w1 := hH
                obtain ⟨X, rfl, hX⟩ := hI
                unfold wpOp
                refine Or.inl ?_
                unfold Oper.wp
                go_simp
                exact OwnBy.mk _ _ _ rfl (⟨X, rfl, hX⟩) (⟨rfl, rfl⟩) (hH)
              | 1, _ =>
                obtain rfl := Option.some.inj ho
                clear hd ho
                have hH : Holds w0 (hs ++ ([] ++ R)) w1 := hH
                obtain ⟨X, rfl, hX⟩ := hI
                unfold wpOp
                refine Or.inl ?_
                unfold Oper.wp
                go_simp
                exact OwnBy.mk _ _ _ rfl (⟨X, rfl, hX⟩) (⟨rfl, rfl⟩) (hH)
              | 2, _ =>
                obtain rfl := Option.some.inj ho
                have e1 : f 1 = .pointer (some ⟨gL, k * 3, none⟩) := (hd ⟨1, .data⟩ (by simp) rfl).2.1
                clear hd ho
                have hH : Holds w0 (hs ++ ([] ++ R)) w1 := hH
                obtain ⟨X, rfl, hX⟩ := hI
                unfold wpOp
                refine Or.inl ?_
                simp only [e1]
                unfold Oper.wp
                go_simp
                exact OwnBy.mk _ _ _ rfl (⟨X, rfl, hX⟩) (⟨rfl, rfl⟩) (hH)
              | 3, _ =>
                obtain rfl := Option.some.inj ho
                have e2 : f 2 = .pointer (some ⟨gL, k * 3, none⟩) := (hd ⟨2, .data⟩ (by simp) rfl).2.1
                clear hd ho
                have hH : Holds w0 (hs ++ ([] ++ R)) w1 := hH
                obtain ⟨X, rfl, hX⟩ := hI
                unfold wpOp
                refine Or.inl ?_
                simp only [e2]
                unfold Oper.wp
                go_simp
                exact OwnBy.mk _ _ _ rfl (⟨X, rfl, hX⟩) (⟨rfl, rfl⟩) (hH)
              | 4, _ =>
                obtain rfl := Option.some.inj ho
                have e3 : f 3 = .pointer (some ⟨gL, k * 3 + 1, none⟩) := (hd ⟨3, .data⟩ (by simp) rfl).2.1
                clear hd ho
                have hH : Holds w0 (hs ++ ([] ++ R)) w1 := hH
                obtain ⟨X, rfl, hX⟩ := hI
                unfold wpOp
                refine Or.inl ?_
                simp only [e3]
                unfold Oper.wp
                have q : w1.cell? ⟨gL, k * 3 + 1, none⟩ = some (.slice (some ⟨gB, 0, none⟩) x.2.b.length cB) := (Holds.cell hH (k * 3 + 1)).trans HC1.out
                go_simp
                exact OwnBy.mk _ _ _ rfl (⟨X, rfl, hX⟩) (⟨rfl, rfl⟩) (hH)
              | 5, _ =>
                obtain rfl := Option.some.inj ho
                clear hd ho
                have hH : Holds w0 (hs ++ ([] ++ R)) w1 := hH
                obtain ⟨X, rfl, hX⟩ := hI
                unfold wpOp
                refine Or.inl ?_
                unfold Oper.wp
                go_simp
                exact OwnBy.mk _ _ _ rfl (⟨X, rfl, hX⟩) (⟨rfl, rfl⟩) (hH)
              | 6, _ =>
                obtain rfl := Option.some.inj ho
                have e5 : f 5 = .pointer (some ⟨gL, k * 3, none⟩) := (hd ⟨5, .data⟩ (by simp) rfl).2.1
                clear hd ho
                have hH : Holds w0 (hs ++ ([] ++ R)) w1 := hH
                obtain ⟨X, rfl, hX⟩ := hI
                unfold wpOp
                refine Or.inl ?_
                simp only [e5]
                unfold Oper.wp
                go_simp
                exact OwnBy.mk _ _ _ rfl (⟨X, rfl, hX⟩) (⟨rfl, rfl⟩) (hH)
              | 7, _ =>
                obtain rfl := Option.some.inj ho
                have e6 : f 6 = .pointer (some ⟨gL, k * 3, none⟩) := (hd ⟨6, .data⟩ (by simp) rfl).2.1
                clear hd ho
                have hH : Holds w0 (hs ++ ([] ++ R)) w1 := hH
                obtain ⟨X, rfl, hX⟩ := hI
                unfold wpOp
                refine Or.inl ?_
                simp only [e6]
                unfold Oper.wp
                go_simp
                exact OwnBy.mk _ _ _ rfl (⟨X, rfl, hX⟩) (⟨rfl, rfl⟩) (hH)
              | 8, _ =>
                obtain rfl := Option.some.inj ho
                have e7 : f 7 = .pointer (some ⟨gL, k * 3 + 2, none⟩) := (hd ⟨7, .data⟩ (by simp) rfl).2.1
                clear hd ho
                have hH : Holds w0 (hs ++ ([] ++ R)) w1 := hH
                obtain ⟨X, rfl, hX⟩ := hI
                unfold wpOp
                refine Or.inl ?_
                simp only [e7]
                unfold Oper.wp
                have q : w1.cell? ⟨gL, k * 3 + 2, none⟩ = some (.int .i64 x.2.safe) := (Holds.cell hH (k * 3 + 2)).trans HC2.out
                go_simp
                exact OwnBy.mk _ _ _ rfl (⟨X, rfl, hX⟩) (⟨rfl, rfl⟩) (hH)
              | 9, _ =>
                obtain rfl := Option.some.inj ho
                clear hd ho
                have hH : Holds w0 (hs ++ ([] ++ R)) w1 := hH
                obtain ⟨X, rfl, hX⟩ := hI
                unfold wpOp
                refine Or.inl ?_
                unfold Oper.wp
                go_simp
                exact OwnBy.mk _ _ _ rfl (⟨X, rfl, hX⟩) (⟨rfl, rfl⟩) (hH)
              | 10, _ =>
                obtain rfl := Option.some.inj ho
                have e8 : f 8 = .int .i64 x.2.safe := (hd ⟨8, .data⟩ (by simp) rfl).2.1
                have e9 : f 9 = .int .i64 (kn : Nat) := (hd ⟨9, .data⟩ (by simp) rfl).2.1
                clear hd ho
                have hH : Holds w0 (hs ++ ([] ++ R)) w1 := hH
                obtain ⟨X, rfl, hX⟩ := hI
                unfold wpOp
                refine Or.inl ?_
                simp only [e8, e9]
                unfold Oper.wp
                have qa := HADD.out
                go_simp
                exact OwnBy.mk _ _ _ rfl (⟨X, rfl, hX⟩) (⟨rfl, rfl⟩) (hH)
              | 11, _ =>
                obtain rfl := Option.some.inj ho
                have e4 : f 4 = Value.slice (some ⟨gB, 0, none⟩) x.2.b.length cB := (hd ⟨4, .data⟩ (by simp) rfl).2.1
                have e10 : f 10 = .int .i64 (p : Nat) := (hd ⟨10, .data⟩ (by simp) rfl).2.1
                clear hd ho
                have hH : Holds w0 (hs ++ ([] ++ R)) w1 := hH
                obtain ⟨X, rfl, hX⟩ := hI
                unfold wpOp
                refine Or.inl ?_
                simp only [e4, e10]
                unfold Oper.wp
                have qi := HPI.out
                go_simp
                exact OwnBy.mk _ _ _ rfl (⟨X, rfl, hX⟩) (⟨rfl, rfl⟩) (hH)
              | 12, _ =>
                obtain rfl := Option.some.inj ho
                have e11 : f 11 = .pointer (some ⟨gB, p, none⟩) := (hd ⟨11, .data⟩ (by simp) rfl).2.1
                clear hd ho
                have hH : Holds w0 (hs ++ ([] ++ R)) w1 := hH
                obtain ⟨X, rfl, hX⟩ := hI
                unfold wpOp
                refine Or.inl ?_
                simp only [e11]
                unfold Oper.wp
                have q := HCEL.out w1 (X ++ ([] ++ R)) (hH.perm (k := ((gL, Obj.cells cur 51) :: ((d, rO m (.slice (some ⟨gL, 0, none⟩) m.fl.length c)) :: (hb ++ (rest ++ F)))) ++ (X ++ ([] ++ R))) (by classical rw [List.perm_iff_count]; intro a; simp only [List.count_append, List.count_cons, List.count_nil] <;> omega))
                go_simp
                exact OwnBy.mk _ _ _ rfl (⟨X, rfl, hX⟩) (⟨rfl, rfl⟩) (hH)
              | 13, _ =>
                obtain rfl := Option.some.inj ho
                clear hd ho
                have hH : Holds w0 (hs ++ ([] ++ R)) w1 := hH
                obtain ⟨X, rfl, hX⟩ := hI
                unfold wpOp
                refine Or.inl ?_
                unfold Oper.wp
                go_simp
                exact OwnBy.mk _ _ _ rfl (⟨X, rfl, hX⟩) (⟨rfl, rfl⟩) (hH)
              | 14, _ =>
                obtain rfl := Option.some.inj ho
                have e12 : f 12 = .int .u8 (z0.toNat : Nat) := (hd ⟨12, .data⟩ (by simp) rfl).2.1
                have e13 : f 13 = .int .u8 (torn.toNat : Nat) := (hd ⟨13, .data⟩ (by simp) rfl).2.1
                clear hd ho
                have hH : Holds w0 (hs ++ ([] ++ R)) w1 := hH
                obtain ⟨X, rfl, hX⟩ := hI
                unfold wpOp
                refine Or.inl ?_
                simp only [e12, e13]
                unfold Oper.wp
                have qx := HXOR.out
                go_simp
                exact OwnBy.mk _ _ _ rfl (⟨X, rfl, hX⟩) (⟨rfl, rfl⟩) (hH)
              | 15, _ =>
                obtain rfl := Option.some.inj ho
                have e14 : f 14 = .int .u8 ((z0 ^^^ torn).toNat : Nat) := (hd ⟨14, .data⟩ (by simp) rfl).2.1
                clear hd ho
                have hH : Holds w0 (hs ++ ([] ++ R)) w1 := hH
                obtain ⟨X, rfl, hX⟩ := hI
                unfold wpOp
                refine Or.inl ?_
                simp only [e14]
                unfold Oper.wp
                have hH3 : Holds w0 ((((gL, Obj.cells cur 51) :: ((d, rO m (.slice (some ⟨gL, 0, none⟩) m.fl.length c)) :: (hb ++ (rest ++ F)))) ++ X) ++ ([(w1.heap.size, .cells #[.int .u8 ((z0 ^^^ torn).toNat : Nat)] 5)] ++ R)) (w1.alloc (.cells #[.int .u8 ((z0 ^^^ torn).toNat : Nat)] 5)) := (hH.alloc (.cells #[.int .u8 ((z0 ^^^ torn).toNat : Nat)] 5)).perm (by classical rw [List.perm_iff_count]; intro a; simp only [List.count_append, List.count_cons, List.count_nil] <;> omega)
                go_simp
                exact OwnBy.mk _ [(w1.heap.size, .cells #[.int .u8 ((z0 ^^^ torn).toNat : Nat)] 5)] _ rfl (⟨X, rfl, hX⟩) ⟨w1.heap.size, rfl, rfl⟩ hH3
              | 16, _ =>
                obtain rfl := Option.some.inj ho
                have e0 : f 0 = .slice A8 p c8 := (hd ⟨0, .data⟩ (by simp) rfl).2.1
                have e15 := (hd ⟨15, .data⟩ (by simp) rfl).2
                obtain ⟨g15, e15, q15⟩ := e15
                clear hd ho
                have hH : Holds w0 (hs ++ ((Hf 15 ++ ([])) ++ R)) w1 := hH
                simp only [q15, List.append_nil, List.append_assoc] at hH
                obtain ⟨X, rfl, hX⟩ := hI
                unfold wpOp
                refine Or.inl ?_
                simp only [e0, e15]
                unfold Oper.wp
                obtain rfl := hX hL
                have hH2 : Holds w0 ((g15, .cells #[.int .u8 ((z0 ^^^ torn).toNat : Nat)] 5) :: (X ++ (((gL, Obj.cells cur 51) :: ((d, rO m (.slice (some ⟨gL, 0, none⟩) m.fl.length c)) :: (hb ++ (rest ++ F)))) ++ R))) w1 := hH.perm (by classical rw [List.perm_iff_count]; intro a; simp only [List.count_append, List.count_cons, List.count_nil] <;> omega)
                have hrd2 : Reads w1 (some ⟨g15, 0, none⟩) [z0 ^^^ torn].length 1 (bv [z0 ^^^ torn]) := reads_z hH2
                have hr7 : RowB 5 1 (.slice A8 p c8) (x.2.b.take p).length (bv (x.2.b.take p)) X := by rw [HTK.out]; exact HR7.out
                obtain ⟨v8, h8, w8, r1, r2, r3⟩ := bytes_append (bs := x.2.b.take p) hr7 (hH2.perm (k := X ++ ((g15, .cells #[.int .u8 ((z0 ^^^ torn).toNat : Nat)] 5) :: (((gL, Obj.cells cur 51) :: ((d, rO m (.slice (some ⟨gL, 0, none⟩) m.fl.length c)) :: (hb ++ (rest ++ F)))) ++ R))) (by classical rw [List.perm_iff_count]; intro a; simp only [List.count_append, List.count_cons, List.count_nil] <;> omega)) 28 (some ⟨g15, 0, none⟩) 1 [z0 ^^^ torn] (fun h => by cases h) hrd2 (by rw [HTK.out]; have := HPLT.out; have := HXL.out; simp only [List.length_cons, List.length_nil]; omega)
                refine wpA (.tmp 66) (.tmp 81) rfl rfl rfl r1 ?_
                exact OwnBy.mk _ h8 _ rfl ⟨[], (List.append_nil _).symm, fun h => by cases h⟩ r2 ((r3.perm (k := (g15, .cells #[.int .u8 ((z0 ^^^ torn).toNat : Nat)] 5) :: (((gL, Obj.cells cur 51) :: ((d, rO m (.slice (some ⟨gL, 0, none⟩) m.fl.length c)) :: (hb ++ (rest ++ F)))) ++ (h8 ++ R))) (by classical rw [List.perm_iff_count]; intro a; simp only [List.count_append, List.count_cons, List.count_nil] <;> omega)).tail)
              | _ + 17, h17 => exact absurd h17 (by omega)
            · intro Ls f Hf hs w1 hI hL hV hH
              have e0 : f 0 = .slice A8 p c8 := (hV 0 (by decide)).1
              have e1 : f 1 = .pointer (some ⟨gL, k * 3, none⟩) := (hV 1 (by decide)).1
              have e2 : f 2 = .pointer (some ⟨gL, k * 3, none⟩) := (hV 2 (by decide)).1
              have e3 : f 3 = .pointer (some ⟨gL, k * 3 + 1, none⟩) := (hV 3 (by decide)).1
              have e4 : f 4 = Value.slice (some ⟨gB, 0, none⟩) x.2.b.length cB := (hV 4 (by decide)).1
              have e5 : f 5 = .pointer (some ⟨gL, k * 3, none⟩) := (hV 5 (by decide)).1
              have e6 : f 6 = .pointer (some ⟨gL, k * 3, none⟩) := (hV 6 (by decide)).1
              have e7 : f 7 = .pointer (some ⟨gL, k * 3 + 2, none⟩) := (hV 7 (by decide)).1
              have e8 : f 8 = .int .i64 x.2.safe := (hV 8 (by decide)).1
              have e9 : f 9 = .int .i64 (kn : Nat) := (hV 9 (by decide)).1
              have e10 : f 10 = .int .i64 (p : Nat) := (hV 10 (by decide)).1
              have e11 : f 11 = .pointer (some ⟨gB, p, none⟩) := (hV 11 (by decide)).1
              have e12 : f 12 = .int .u8 (z0.toNat : Nat) := (hV 12 (by decide)).1
              have e13 : f 13 = .int .u8 (torn.toNat : Nat) := (hV 13 (by decide)).1
              have e14 : f 14 = .int .u8 ((z0 ^^^ torn).toNat : Nat) := (hV 14 (by decide)).1
              have e15 := hV 15 (by decide)
              obtain ⟨g15, e15, q15⟩ := e15
              have e16 := hV 16 (by decide)
              clear hV
              have hH : Holds w0 (hs ++ (Hf 16 ++ [])) w1 := hH
              simp only [List.append_nil, List.append_assoc] at hH
              simp only [fill, List.take_succ_cons, List.take_zero, List.drop_succ_cons, List.drop_zero, Act.put, List.setIfInBounds_toArray, List.set_cons_zero, List.set_cons_succ, e0, e1, e2, e3, e4, e5, e6, e7, e8, e9, e10, e11, e12, e13, e14, e15]
              obtain ⟨X, rfl, _⟩ := hI
              obtain ⟨B8, d8, hv8, _, _⟩ := RowB.form e16
              obtain ⟨n8, hn8⟩ : ∃ n8, n8 = (x.2.b.take p ++ [z0 ^^^ torn]).length := ⟨_, rfl⟩
              rw [hv8] at e16 ⊢
              rw [← hn8] at e16 ⊢
              have HR8 := Lib.hid e16
              have HN8 := Lib.hid (show (x.2.b.take p ++ [z0 ^^^ torn]).length = n8 from hn8.symm)
              have HCR := Lib.hid (show crF (kn : Nat) torn x.2 = ⟨x.2.b.take p ++ [z0 ^^^ torn], n8⟩ by
                have e := HCRB.out
                rw [List.getD_eq_getElem?_getD, HZ0.out] at e
                have e2 : crB (kn : Nat) torn x.2 = x.2.b.take p ++ [z0 ^^^ torn] := e
                unfold crF; rw [e2, hn8])
              have hH2 := hH
              clear hL hH hv8 hn8
              have H9 : Holds w0 ((gL, Obj.cells cur 51) :: ((d, rO m (.slice (some ⟨gL, 0, none⟩) m.fl.length c)) :: (Hf 16 ++ (rest ++ F)) ++ (hb ++ X))) w1 := hH2.perm (by classical rw [List.perm_iff_count]; intro a; simp only [List.count_append, List.count_cons, List.count_nil] <;> omega)
              have q2 : w1.cell? ⟨gL, k * 3 + 1, none⟩ = some (.slice (some ⟨gB, 0, none⟩) x.2.b.length cB) := (H9.cell _).trans HC1.out
              have q3 : w1.frozen? ⟨gL, k * 3 + 1, none⟩ = false := H9.froz _
              have H10 : Holds w0 ((gL, Obj.cells (cur.setIfInBounds (k * 3 + 1) (.slice B8 n8 d8)) 51) :: ((d, rO m (.slice (some ⟨gL, 0, none⟩) m.fl.length c)) :: (Hf 16 ++ (rest ++ F)) ++ (hb ++ X))) _ := H9.set (k * 3 + 1) (.slice B8 n8 d8)
              have q5 : (w1.setCell ⟨gL, k * 3 + 1, none⟩ (.slice B8 n8 d8)).cell? ⟨gL, k * 3 + 2, none⟩ = some (.int .i64 x.2.safe) := by rw [Holds.cell H10, Array.getElem?_setIfInBounds_ne (by omega)]; exact HC2.out
              have q6 : (w1.setCell ⟨gL, k * 3 + 1, none⟩ (.slice B8 n8 d8)).frozen? ⟨gL, k * 3 + 2, none⟩ = false := Holds.froz H10 _
              have HH11 := Lib.hid (H10.set (k * 3 + 2) (.int .i64 (n8 : Nat)))
              clear H9 H10
              go_wp2_with fail
              go_roundw
              case rel =>
                have hfin := HPUT.out (.slice B8 n8 d8) ⟨x.2.b.take p ++ [z0 ^^^ torn], n8⟩ (Hf 16) _ (by show RowB 5 1 _ (x.2.b.take p ++ [z0 ^^^ torn]).length _ _; rw [HN8.out]; exact HR8.out) (HH11.out.perm (k := ((gL, _) :: ((d, rO m (.slice (some ⟨gL, 0, none⟩) m.fl.length c)) :: (Hf 16 ++ (rest ++ F)))) ++ (hb ++ X)) (by classical rw [List.perm_iff_count]; intro a; simp only [List.count_append, List.count_cons, List.count_nil] <;> omega)).left
                have e8 : (x.1, (⟨x.2.b.take p ++ [z0 ^^^ torn], n8⟩ : Fl)) = (x.1, crF (kn : Nat) torn x.2) := by rw [HCR.out]
                rw [e8, HMS.out] at hfin
                exact ⟨k + 1, by omega, by go_num, hfin⟩
              case measure => simp [intOf]; omega
  
      · obtain ⟨p, hp⟩ : ∃ p : Nat, p = x.2.b.length := ⟨_, rfl⟩
        have hdn := HDN.out
        have HPL := Lib.hid (show p ≤ x.2.b.length by omega)
        have HADD := Lib.hid (show IntKind.i64.wrap ((x.2.safe : Int) + dn) = (p : Int) by rw [IntKind.wrap_i64]; omega)
        have HTK := Lib.hid (show (x.2.b.take p).length = p by rw [List.length_take]; omega)
        have hcn : crN (kn : Nat) x.2 = p := by rw [hp]; exact crN_hi (K := (kn : Int)) (by unfold mx; split <;> omega) (by omega) hsf
        have HCRB := Lib.hid (show crB (kn : Nat) torn x.2 = x.2.b.take p by unfold crB; rw [hcn, if_neg (by omega)])
        clear hp hdn hcn
        go_wp2_with fail
        refine wp_region_own 13 (fun k => match k with | 12 => [0] | 13 => [12] | _ => []) (by kernel_rfl) (by kernel_rfl) (by kernel_rfl) (by kernel_rfl) (Nat.le_of_ble_eq_true (by kernel_rfl)) w0 (fun Ls hs => hs = ((gL, Obj.cells cur 51) :: ((d, rO m (.slice (some ⟨gL, 0, none⟩) m.fl.length c)) :: (hb ++ (rest ++ F))))) (fun i v h => match i with | 0 => RowB 5 1 v 0 (bv []) h | 1 => v = .pointer (some ⟨gL, k * 3, none⟩) ∧ h = [] | 2 => v = .pointer (some ⟨gL, k * 3, none⟩) ∧ h = [] | 3 => v = .pointer (some ⟨gL, k * 3 + 1, none⟩) ∧ h = [] | 4 => v = Value.slice B x.2.b.length cB ∧ h = [] | 5 => v = .pointer (some ⟨gL, k * 3, none⟩) ∧ h = [] | 6 => v = .pointer (some ⟨gL, k * 3, none⟩) ∧ h = [] | 7 => v = .pointer (some ⟨gL, k * 3 + 2, none⟩) ∧ h = [] | 8 => v = .int .i64 x.2.safe ∧ h = [] | 9 => v = .int .i64 dn ∧ h = [] | 10 => v = .int .i64 (p : Nat) ∧ h = [] | 11 => v = .slice B p cB ∧ h = [] | 12 => RowB 5 1 v ([] ++ (x.2.b.take p)).length (bv ([] ++ (x.2.b.take p))) h | _ => True) (((gL, Obj.cells cur 51) :: ((d, rO m (.slice (some ⟨gL, 0, none⟩) m.fl.length c)) :: (hb ++ (rest ++ F))))) (rfl) (HH4.out.drew) ?_ ?_
        · intro i o hi ho Ls f Hf hs R w1 hI hL hd hH
          simp only [fill, List.take_succ_cons, List.take_zero, Act.put, List.setIfInBounds_toArray, List.set_cons_zero, List.set_cons_succ]
          match i, hi with
          | 0, _ =>
            obtain rfl := Option.some.inj ho
            clear hd ho
            have hH : Holds w0 (hs ++ ([] ++ R)) w1 := hH
            rw [show hs = ((gL, Obj.cells cur 51) :: ((d, rO m (.slice (some ⟨gL, 0, none⟩) m.fl.length c)) :: (hb ++ (rest ++ F)))) from hI] at hH
            clear hI
            unfold wpOp
            refine Or.inl ?_
            unfold Oper.wp
            go_simp
            exact OwnBy.mk _ [(w1.heap.size, .cells #[] 5)] _ rfl rfl (RowB.lit hH #[] 0 (by decide) rfl) ((hH.alloc (.cells #[] 5)).perm (by classical rw [List.perm_iff_count]; intro a; simp only [List.count_append, List.count_cons, List.count_nil] <;> omega))
          | 1, _ =>
            obtain rfl := Option.some.inj ho
            clear hd ho
            have hH : Holds w0 (hs ++ ([] ++ R)) w1 := hH
            rw [show hs = ((gL, Obj.cells cur 51) :: ((d, rO m (.slice (some ⟨gL, 0, none⟩) m.fl.length c)) :: (hb ++ (rest ++ F)))) from hI] at hH
            clear hI
            unfold wpOp
            refine Or.inl ?_
            unfold Oper.wp
            go_simp
            exact OwnBy.mk _ _ _ rfl (rfl) (⟨rfl, rfl⟩) (hH)
          | 2, _ =>
            obtain rfl := Option.some.inj ho
            have e1 : f 1 = .pointer (some ⟨gL, k * 3, none⟩) := (hd ⟨1, .data⟩ (by simp) rfl).2.1
            clear hd ho
            have hH : Holds w0 (hs ++ ([] ++ R)) w1 := hH
            rw [show hs = ((gL, Obj.cells cur 51) :: ((d, rO m (.slice (some ⟨gL, 0, none⟩) m.fl.length c)) :: (hb ++ (rest ++ F)))) from hI] at hH
            clear hI
            unfold wpOp
            refine Or.inl ?_
            simp only [e1]
            unfold Oper.wp
            go_simp
            exact OwnBy.mk _ _ _ rfl (rfl) (⟨rfl, rfl⟩) (hH)
          | 3, _ =>
            obtain rfl := Option.some.inj ho
            have e2 : f 2 = .pointer (some ⟨gL, k * 3, none⟩) := (hd ⟨2, .data⟩ (by simp) rfl).2.1
            clear hd ho
            have hH : Holds w0 (hs ++ ([] ++ R)) w1 := hH
            rw [show hs = ((gL, Obj.cells cur 51) :: ((d, rO m (.slice (some ⟨gL, 0, none⟩) m.fl.length c)) :: (hb ++ (rest ++ F)))) from hI] at hH
            clear hI
            unfold wpOp
            refine Or.inl ?_
            simp only [e2]
            unfold Oper.wp
            go_simp
            exact OwnBy.mk _ _ _ rfl (rfl) (⟨rfl, rfl⟩) (hH)
          | 4, _ =>
            obtain rfl := Option.some.inj ho
            have e3 : f 3 = .pointer (some ⟨gL, k * 3 + 1, none⟩) := (hd ⟨3, .data⟩ (by simp) rfl).2.1
            clear hd ho
            have hH : Holds w0 (hs ++ ([] ++ R)) w1 := hH
            rw [show hs = ((gL, Obj.cells cur 51) :: ((d, rO m (.slice (some ⟨gL, 0, none⟩) m.fl.length c)) :: (hb ++ (rest ++ F)))) from hI] at hH
            clear hI
            unfold wpOp
            refine Or.inl ?_
            simp only [e3]
            unfold Oper.wp
            have q : w1.cell? ⟨gL, k * 3 + 1, none⟩ = some (.slice B x.2.b.length cB) := (Holds.cell hH (k * 3 + 1)).trans HC1.out
            go_simp
            exact OwnBy.mk _ _ _ rfl (rfl) (⟨rfl, rfl⟩) (hH)
          | 5, _ =>
            obtain rfl := Option.some.inj ho
            clear hd ho
            have hH : Holds w0 (hs ++ ([] ++ R)) w1 := hH
            rw [show hs = ((gL, Obj.cells cur 51) :: ((d, rO m (.slice (some ⟨gL, 0, none⟩) m.fl.length c)) :: (hb ++ (rest ++ F)))) from hI] at hH
            clear hI
            unfold wpOp
            refine Or.inl ?_
            unfold Oper.wp
            go_simp
            exact OwnBy.mk _ _ _ rfl (rfl) (⟨rfl, rfl⟩) (hH)
          | 6, _ =>
            obtain rfl := Option.some.inj ho
            have e5 : f 5 = .pointer (some ⟨gL, k * 3, none⟩) := (hd ⟨5, .data⟩ (by simp) rfl).2.1
            clear hd ho
            have hH : Holds w0 (hs ++ ([] ++ R)) w1 := hH
            rw [show hs = ((gL, Obj.cells cur 51) :: ((d, rO m (.slice (some ⟨gL, 0, none⟩) m.fl.length c)) :: (hb ++ (rest ++ F)))) from hI] at hH
            clear hI
            unfold wpOp
            refine Or.inl ?_
            simp only [e5]
            unfold Oper.wp
            go_simp
            exact OwnBy.mk _ _ _ rfl (rfl) (⟨rfl, rfl⟩) (hH)
          | 7, _ =>
            obtain rfl := Option.some.inj ho
            have e6 : f 6 = .pointer (some ⟨gL, k * 3, none⟩) := (hd ⟨6, .data⟩ (by simp) rfl).2.1
            clear hd ho
            have hH : Holds w0 (hs ++ ([] ++ R)) w1 := hH
            rw [show hs = ((gL, Obj.cells cur 51) :: ((d, rO m (.slice (some ⟨gL, 0, none⟩) m.fl.length c)) :: (hb ++ (rest ++ F)))) from hI] at hH
            clear hI
            unfold wpOp
            refine Or.inl ?_
            simp only [e6]
            unfold Oper.wp
            go_simp
            exact OwnBy.mk _ _ _ rfl (rfl) (⟨rfl, rfl⟩) (hH)
          | 8, _ =>
            obtain rfl := Option.some.inj ho
            have e7 : f 7 = .pointer (some ⟨gL, k * 3 + 2, none⟩) := (hd ⟨7, .data⟩ (by simp) rfl).2.1
            clear hd ho
            have hH : Holds w0 (hs ++ ([] ++ R)) w1 := hH
            rw [show hs = ((gL, Obj.cells cur 51) :: ((d, rO m (.slice (some ⟨gL, 0, none⟩) m.fl.length c)) :: (hb ++ (rest ++ F)))) from hI] at hH
            clear hI
            unfold wpOp
            refine Or.inl ?_
            simp only [e7]
            unfold Oper.wp
            have q : w1.cell? ⟨gL, k * 3 + 2, none⟩ = some (.int .i64 x.2.safe) := (Holds.cell hH (k * 3 + 2)).trans HC2.out
            go_simp
            exact OwnBy.mk _ _ _ rfl (rfl) (⟨rfl, rfl⟩) (hH)
          | 9, _ =>
            obtain rfl := Option.some.inj ho
            clear hd ho
            have hH : Holds w0 (hs ++ ([] ++ R)) w1 := hH
            rw [show hs = ((gL, Obj.cells cur 51) :: ((d, rO m (.slice (some ⟨gL, 0, none⟩) m.fl.length c)) :: (hb ++ (rest ++ F)))) from hI] at hH
            clear hI
            unfold wpOp
            refine Or.inl ?_
            unfold Oper.wp
            go_simp
            exact OwnBy.mk _ _ _ rfl (rfl) (⟨rfl, rfl⟩) (hH)
          | 10, _ =>
            obtain rfl := Option.some.inj ho
            have e8 : f 8 = .int .i64 x.2.safe := (hd ⟨8, .data⟩ (by simp) rfl).2.1
            have e9 : f 9 = .int .i64 dn := (hd ⟨9, .data⟩ (by simp) rfl).2.1
            clear hd ho
            have hH : Holds w0 (hs ++ ([] ++ R)) w1 := hH
            rw [show hs = ((gL, Obj.cells cur 51) :: ((d, rO m (.slice (some ⟨gL, 0, none⟩) m.fl.length c)) :: (hb ++ (rest ++ F)))) from hI] at hH
            clear hI
            unfold wpOp
            refine Or.inl ?_
            simp only [e8, e9]
            unfold Oper.wp
            have qa := HADD.out
            go_simp
            exact OwnBy.mk _ _ _ rfl (rfl) (⟨rfl, rfl⟩) (hH)
          | 11, _ =>
            obtain rfl := Option.some.inj ho
            have e4 : f 4 = Value.slice B x.2.b.length cB := (hd ⟨4, .data⟩ (by simp) rfl).2.1
            have e10 : f 10 = .int .i64 (p : Nat) := (hd ⟨10, .data⟩ (by simp) rfl).2.1
            clear hd ho
            have hH : Holds w0 (hs ++ ([] ++ R)) w1 := hH
            rw [show hs = ((gL, Obj.cells cur 51) :: ((d, rO m (.slice (some ⟨gL, 0, none⟩) m.fl.length c)) :: (hb ++ (rest ++ F)))) from hI] at hH
            clear hI
            unfold wpOp
            refine Or.inl ?_
            simp only [e4, e10]
            unfold Oper.wp
            have hcut := cutHi Try.underlying28 sz5 B x.2.b.length cB p HPL.out hcb w1
            go_simp
            exact OwnBy.mk _ _ _ rfl (rfl) (⟨rfl, rfl⟩) (hH)
          | 12, _ =>
            obtain rfl := Option.some.inj ho
            have e0 := (hd ⟨0, .data⟩ (by simp) rfl).2
            have e11 : f 11 = .slice B p cB := (hd ⟨11, .data⟩ (by simp) rfl).2.1
            clear hd ho
            have hH : Holds w0 (hs ++ ((Hf 0 ++ ([])) ++ R)) w1 := hH
            simp only [List.append_nil, List.append_assoc] at hH
            rw [show hs = ((gL, Obj.cells cur 51) :: ((d, rO m (.slice (some ⟨gL, 0, none⟩) m.fl.length c)) :: (hb ++ (rest ++ F)))) from hI] at hH
            clear hI
            unfold wpOp
            refine Or.inl ?_
            simp only [e11]
            unfold Oper.wp
            obtain ⟨A0, c0, hv0, _, _, hrd⟩ := HRB.out.reads (hH.perm (k := hb ++ (((gL, Obj.cells cur 51) :: ((d, rO m (.slice (some ⟨gL, 0, none⟩) m.fl.length c)) :: (rest ++ F))) ++ (Hf 0 ++ R))) (by classical rw [List.perm_iff_count]; intro a; simp only [List.count_append, List.count_cons, List.count_nil] <;> omega))
            injection hv0 with hv0 _ hv0c
            subst hv0
            subst hv0c
            have hrd2 : Reads w1 B (x.2.b.take p).length 1 (bv (x.2.b.take p)) := by have := hrd.take (k := p) HPL.out; rw [Nat.mul_one, bv_take] at this; rw [HTK.out]; exact this
            have hxl := HXL.out
            have htk := HTK.out
            obtain ⟨v8, h8, w8, r1, r2, r3⟩ := bytes_append (bs := []) e0 (hH.perm (k := Hf 0 ++ (((gL, Obj.cells cur 51) :: ((d, rO m (.slice (some ⟨gL, 0, none⟩) m.fl.length c)) :: (hb ++ (rest ++ F)))) ++ R)) (by classical rw [List.perm_iff_count]; intro a; simp only [List.count_append, List.count_cons, List.count_nil] <;> omega)) 28 (B) (cB) ((x.2.b.take p)) (HBN.out) (hrd2) (by rw [htk]; simp only [List.length_nil]; have := HPL.out; omega)
            rw [HTK.out] at r1
            refine wpA (.tmp 52) (.tmp 63) rfl rfl rfl r1 ?_
            exact OwnBy.mk _ h8 _ rfl rfl r2 (r3.perm (by classical rw [List.perm_iff_count]; intro a; simp only [List.count_append, List.count_cons, List.count_nil] <;> omega))
        · intro Ls f Hf hs w1 hI hL hV hH
          have e0 := hV 0 (by decide)
          have e1 : f 1 = .pointer (some ⟨gL, k * 3, none⟩) := (hV 1 (by decide)).1
          have e2 : f 2 = .pointer (some ⟨gL, k * 3, none⟩) := (hV 2 (by decide)).1
          have e3 : f 3 = .pointer (some ⟨gL, k * 3 + 1, none⟩) := (hV 3 (by decide)).1
          have e4 : f 4 = Value.slice B x.2.b.length cB := (hV 4 (by decide)).1
          have e5 : f 5 = .pointer (some ⟨gL, k * 3, none⟩) := (hV 5 (by decide)).1
          have e6 : f 6 = .pointer (some ⟨gL, k * 3, none⟩) := (hV 6 (by decide)).1
          have e7 : f 7 = .pointer (some ⟨gL, k * 3 + 2, none⟩) := (hV 7 (by decide)).1
          have e8 : f 8 = .int .i64 x.2.safe := (hV 8 (by decide)).1
          have e9 : f 9 = .int .i64 dn := (hV 9 (by decide)).1
          have e10 : f 10 = .int .i64 (p : Nat) := (hV 10 (by decide)).1
          have e11 : f 11 = .slice B p cB := (hV 11 (by decide)).1
          have e12 := hV 12 (by decide)
          clear hV
          have hH : Holds w0 (hs ++ (Hf 12 ++ [])) w1 := hH
          simp only [List.append_nil, List.append_assoc] at hH
          simp only [fill, List.take_succ_cons, List.take_zero, List.drop_succ_cons, List.drop_zero, Act.put, List.setIfInBounds_toArray, List.set_cons_zero, List.set_cons_succ, e1, e2, e3, e4, e5, e6, e7, e8, e9, e10, e11]
          rw [show hs = ((gL, Obj.cells cur 51) :: ((d, rO m (.slice (some ⟨gL, 0, none⟩) m.fl.length c)) :: (hb ++ (rest ++ F)))) from hI] at hH
          clear hI
          rw [List.nil_append] at e12
          obtain ⟨A8, c8, hv8, _, _⟩ := RowB.form e12
          rw [hv8] at e12 ⊢
          obtain ⟨n8, hn8⟩ : ∃ n8, n8 = (x.2.b.take p).length := ⟨_, rfl⟩
          rw [← hn8] at e12 ⊢
          have HR8 := Lib.hid e12
          have HN8 := Lib.hid (show (x.2.b.take p).length = n8 from hn8.symm)
          have HCR := Lib.hid (show crF (kn : Nat) torn x.2 = ⟨x.2.b.take p, n8⟩ by have e := HCRB.out; unfold crF; rw [e, hn8])
          have hH2 := hH
          clear hL hH hv8 hn8
          have H9 : Holds w0 ((gL, Obj.cells cur 51) :: ((d, rO m (.slice (some ⟨gL, 0, none⟩) m.fl.length c)) :: (Hf 12 ++ (rest ++ F)) ++ hb)) w1 := hH2.perm (by classical rw [List.perm_iff_count]; intro a; simp only [List.count_append, List.count_cons, List.count_nil] <;> omega)
          have q2 : w1.cell? ⟨gL, k * 3 + 1, none⟩ = some (.slice B x.2.b.length cB) := (H9.cell _).trans HC1.out
          have q3 : w1.frozen? ⟨gL, k * 3 + 1, none⟩ = false := H9.froz _
          have H10 : Holds w0 ((gL, Obj.cells (cur.setIfInBounds (k * 3 + 1) (.slice A8 n8 c8)) 51) :: ((d, rO m (.slice (some ⟨gL, 0, none⟩) m.fl.length c)) :: (Hf 12 ++ (rest ++ F)) ++ hb)) _ := H9.set (k * 3 + 1) (.slice A8 n8 c8)
          have q5 : (w1.setCell ⟨gL, k * 3 + 1, none⟩ (.slice A8 n8 c8)).cell? ⟨gL, k * 3 + 2, none⟩ = some (.int .i64 x.2.safe) := by rw [Holds.cell H10, Array.getElem?_setIfInBounds_ne (by omega)]; exact HC2.out
          have q6 : (w1.setCell ⟨gL, k * 3 + 1, none⟩ (.slice A8 n8 c8)).frozen? ⟨gL, k * 3 + 2, none⟩ = false := Holds.froz H10 _
          have HH11 := Lib.hid (H10.set (k * 3 + 2) (.int .i64 (n8 : Nat)))
          clear H9 H10
          go_wp2_with fail
          go_roundw
          case rel =>
            have hfin := HPUT.out (.slice A8 n8 c8) ⟨x.2.b.take p, n8⟩ (Hf 12) _ (by show RowB 5 1 _ (x.2.b.take p).length _ _; rw [HN8.out]; exact HR8.out) (HH11.out.perm (k := ((gL, _) :: ((d, rO m (.slice (some ⟨gL, 0, none⟩) m.fl.length c)) :: (Hf 12 ++ (rest ++ F)))) ++ hb) (by classical rw [List.perm_iff_count]; intro a; simp only [List.count_append, List.count_cons, List.count_nil] <;> omega)).left
            have e8 : (x.1, (⟨x.2.b.take p, n8⟩ : Fl)) = (x.1, crF (kn : Nat) torn x.2) := by rw [HCR.out]
            rw [e8, HMS.out] at hfin
            exact ⟨k + 1, by omega, by go_num, hfin⟩
          case measure => simp [intOf]; omega
    · obtain rfl : k = nf := by omega
      have hki : ¬ (k : Int) < (m.fl.length : Int) := by omega
      clear hml
      obtain ⟨A, c, hd, _, _⟩ := hIm.cells hH'
      have HFIN := Lib.hid (show IsR d (crM m0 (kn : Nat) torn) h' by
        have e : crM m0 (kn : Nat) torn = crK m0 (kn : Nat) torn k := by
          unfold crM crK
          rw [HNF.out, List.take_length, List.drop_length, List.append_nil]
        rw [e]; exact hI')
      have HHF := Lib.hid hH'
      clear hI' hH' hIm hm
      go_wp2_with fail
      refine bodyPost_end (v := .tuple #[]) (by simp [results, Try.results25, go_sem]) rfl ?_
      exact ⟨rfl, h', HFIN.out, HHF.out⟩
theorem rcrash_calls (d : Nat) (m0 : DM) (h F : Hp) (keep : Int) (torn : UInt8) (w0 w : World) (hcnt : m0.fl.length ≤ 9000) (hok : m0.ok) (hI : IsR d m0 h) (H : Holds w0 (h ++ F) w) :
    Calls Try.prog 25 #[.pointer (some ⟨d, 0, none⟩), .int .i64 keep, .int .u8 (torn.toNat : Nat)] w fun e w' => e = .returned (.tuple #[]) ∧ ∃ h', IsR d (crM m0 keep torn) h' ∧ Holds w0 (h' ++ F) w' := by
  by_cases h0 : keep < 0
  · exact rcrash_neg d m0 h F keep torn w0 w hcnt hok h0 hI H
  · obtain ⟨kn, rfl⟩ : ∃ kn : Nat, keep = kn := ⟨keep.toNat, by omega⟩
    exact rcrash_pos d m0 h F kn torn w0 w hcnt hok hI H
end Go.Proofs.Ytocpelkgiebkjaa
