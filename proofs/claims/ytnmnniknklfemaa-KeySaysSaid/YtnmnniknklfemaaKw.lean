/- The law's own keys: are two slices of keys alike? No condition other than the reach. -/
import Derived.Test.YtnmnniknklfemaaKp
import Derived.Test.YtnmnniknklfemaaCp
namespace Go.Proofs.Ytnmnniknklfemaa
open Go.RowKit
open Go.Proofs.Ytnmnniknklfemaa.Sp
set_option linter.unusedVariables false
set_option linter.unusedSimpArgs false
theorem keyAt {w : World} {b off : Nat} {ks : List K16} (h : KAt w (some ⟨b, off, none⟩) ks) (i : Nat) (x : K16) (hi : ks[i]? = some x) : ∀ w', Below w.heap.size w w' → ∀ j, j < 16 → w'.cell? ((⟨b, off + i * 16, none⟩ : Addr).add j) = some (.int .u8 (kb x.1 j)) := fun w' hb j hj => by
  obtain ⟨hlt, e⟩ := List.getElem?_eq_some_iff.1 hi
  have := (h.below hb).key i hlt j hj
  rwa [e] at this
set_option maxRecDepth 100000 in
set_option maxHeartbeats 4000000 in
theorem keys_calls (A1 A2 : Option Addr) (c1 c2 : Nat) (k1 k2 : List K16) (w : World) (hn1 : k1.length ≤ 100000) (hn2 : k2.length ≤ 100000) (H1 : KAt w A1 k1) (H2 : KAt w A2 k2) :
    Calls Try.prog 16 #[.slice A1 k1.length c1, .slice A2 k2.length c2] w fun e w' => e = .returned (.bool (decide (k1 = k2))) ∧ Below w.heap.size w w' := by
  have HA1 := Lib.hid H1
  have HA2 := Lib.hid H2
  clear H1 H2
  obtain ⟨n1, e1⟩ : ∃ n, k1.length = n := ⟨_, rfl⟩
  obtain ⟨n2, e2⟩ : ∃ n, k2.length = n := ⟨_, rfl⟩
  have HN1 := Lib.hid e1
  have HN2 := Lib.hid e2
  rw [e1] at hn1 ⊢
  rw [e2] at hn2 ⊢
  clear e1 e2
  by_cases hne : n1 = n2
  · subst hne
    go_enter Try.func16, Try.ntmps16
    go_wp2_with fail
    go_loopw [5] (fun i wr => ∃ k : Nat, k ≤ n1 ∧ i = .int .i64 k ∧ Below w.heap.size w wr ∧ ∀ j, j < k → k1[j]? = k2[j]?) (fun i _ => n1 - (intOf i).toNat)
    case atStart => exact ⟨0, by omega, rfl, Below.refl _ _, fun j hj => by omega⟩
    case round =>
      obtain ⟨k, hk, rfl, hb, hall⟩ := hrel
      have HB := Lib.hid hb
      have HALL := Lib.hid hall
      clear hb hall
      by_cases hlt : k < n1
      · have hki : (k : Int) < (n1 : Int) := by omega
        obtain ⟨b1, o1, eA1, _, _⟩ := HA1.out (by rw [HN1.out]; omega)
        obtain ⟨b2, o2, eA2, _, _⟩ := HA2.out (by rw [HN2.out]; omega)
        subst eA1; subst eA2
        obtain ⟨x, hx⟩ : ∃ x, k1[k]? = some x := ⟨_, List.getElem?_eq_getElem (by rw [HN1.out]; exact hlt)⟩
        obtain ⟨y, hy⟩ : ∃ y, k2[k]? = some y := ⟨_, List.getElem?_eq_getElem (by rw [HN2.out]; exact hlt)⟩
        have LX := Lib.hid (fun w' (hb : Below wr.heap.size wr w') => keyAt HA1.out k x hx w' (HB.out.trans (hb.mono HB.out.size)))
        have LY := Lib.hid (fun w' (hb : Below wr.heap.size wr w') => keyAt HA2.out k y hy w' (HB.out.trans (hb.mono HB.out.size)))
        have HX := Lib.hid hx
        have HY := Lib.hid hy
        clear hx hy
        obtain ⟨eqb, heq⟩ : ∃ b, keq x.1 y.1 = b := ⟨_, rfl⟩
        have HEQ := Lib.hid heq
        clear heq
        go_wp2_with fail
        refine region_quiet_lit (C := fun w' => Below wr.heap.size wr w') (by kernel_rfl) (by kernel_rfl) (Below.refl _ _).drew ?_
        go_big_quiet_step (exact fun _ => rfl)
        go_big_quiet_step (exact fun _ => rfl)
        go_big_quiet_step (exact fun _ => rfl)
        refine BigFrame.wpQuiet_want rfl (fun K hK => ?_)
        refine quiet_ldk (.tmp 19) rfl ⟨b1, o1 + k * 16, none⟩ (by simp [go_sem]) x.1 (fun w2 hw => LX.out w2 hw) (hK _ ?_)
        clear hK K
        simp only [Act.put, List.setIfInBounds_toArray, List.set_cons_zero, List.set_cons_succ]
        go_big_quiet_step (exact fun _ => rfl)
        go_big_quiet_step (exact fun _ => rfl)
        go_big_quiet_step (exact fun _ => rfl)
        refine BigFrame.wpQuiet_want rfl (fun K hK => ?_)
        refine quiet_ldk (.tmp 23) rfl ⟨b2, o2 + k * 16, none⟩ (by simp [go_sem]) y.1 (fun w2 hw => LY.out w2 hw) (hK _ ?_)
        clear hK K
        simp only [Act.put, List.setIfInBounds_toArray, List.set_cons_zero, List.set_cons_succ]
        refine BigFrame.wpQuiet_want rfl (fun K hK => ?_)
        refine quiet_val (.bool !eqb) (fun w2 hw => by simp [go_sem, run_eqIn, HEQ.out]) (hK _ ?_)
        clear hK K
        simp only [Act.put, List.setIfInBounds_toArray, List.set_cons_zero, List.set_cons_succ]
        refine wpQuiet_nil ?_
        intro w4 hw4
        have HB4 := Lib.hid (HB.out.trans (hw4.mono HB.out.size))
        clear hw4
        cases eqb
        · have HNE := Lib.hid (show decide (k1 = k2) = false from decide_eq_false fun e => by
            have h1 := HX.out
            rw [e, HY.out] at h1
            injection h1 with h1
            have := HEQ.out; rw [keq_eq, decide_eq_true h1.symm] at this; cases this)
          go_wp2_with fail
          go_ret
          exact ⟨by rw [HNE.out] <;> rfl, HB4.out⟩
        · have HE := Lib.hid (show x = y by have := HEQ.out; rw [keq_eq] at this; exact of_decide_eq_true this)
          go_wp2_with fail
          go_roundw
          case rel => exact ⟨k + 1, by omega, by go_num, HB4.out, fun j hj => by
            by_cases e : j = k
            · subst e; rw [HX.out, HY.out, HE.out]
            · exact HALL.out j (by omega)⟩
          case measure => simp [intOf]; omega
      · obtain rfl : k = n1 := by omega
        go_wp2_with fail
        go_ret
        have e : k1 = k2 := List.ext_getElem? fun j => by
          by_cases hj : j < k
          · exact HALL.out j hj
          · rw [List.getElem?_eq_none (by rw [HN1.out]; omega), List.getElem?_eq_none (by rw [HN2.out]; omega)]
        exact ⟨by rw [decide_eq_true e] <;> rfl, HB.out⟩
  · have hni : ¬ (n1 : Int) = (n2 : Int) := by omega
    have HE := Lib.hid (show decide (k1 = k2) = false from decide_eq_false fun e => hne (by rw [← HN1.out, ← HN2.out, e]))
    go_enter Try.func16, Try.ntmps16
    go_wp2_with fail
    go_ret
    exact ⟨by rw [HE.out] <;> rfl, Below.refl _ _⟩
end Go.Proofs.Ytnmnniknklfemaa
