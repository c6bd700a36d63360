/- The walk of KeySorts. No condition other than the reach. -/
import Derived.Test.YtnmnniknklfemaaKw
import Derived.Test.YtnmnniknklfemaaKeyD
namespace Go.Proofs.Ytnmnniknklfemaa
open Go.RowKit
open Go.Proofs.Ytnmnniknklfemaa.Sp
set_option linter.unusedVariables false
set_option linter.unusedSimpArgs false
theorem mem_take_succ (L : List K16) (k : Nat) (y x : K16) (hy : L[k]? = some y) : decide (x ∈ L.take (k + 1)) = (decide (x ∈ L.take k) || decide (y = x)) := by
  obtain ⟨hlt, e⟩ := List.getElem?_eq_some_iff.1 hy
  rw [List.take_succ_eq_append_getElem hlt, e]
  simp only [List.mem_append, List.mem_singleton, Bool.decide_or, eq_comm]
set_option maxRecDepth 100000 in
set_option maxHeartbeats 8000000 in
theorem sorts_walk (A : Option Addr) (c : Nat) (ks : List K16) (x : K16) (w : World) (hA : KAt w A ks) :
    Calls Try.prog 6 #[.slice A ks.length c, .agg (kv x.1)] w fun e w' => e = .returned (.bool true) ∧ Below w.heap.size w w' := by
  have H0 := Lib.hid (heap_alloc_new w (.cells (kv x.1) 23))
  have HB0 := Lib.hid ((Below.refl w.heap.size w).alloc (Nat.le_refl _) (.cells (kv x.1) 23))
  have HA := Lib.hid hA
  obtain ⟨n, en⟩ : ∃ n, ks.length = n := ⟨_, rfl⟩
  have HN := Lib.hid en
  rw [en]
  clear hA en
  go_enter Try.func6, Try.ntmps6
  go_wp2_with fail
  refine (awake_calls _).mono ?_
  rintro e w1 ⟨rfl, hb1⟩
  have HB1 := Lib.hid (HB0.out.trans (hb1.mono (by simp)))
  have HK1 := Lib.hid (bcell hb1 (by simp) H0.out)
  have hs1 : w.heap.size < w1.heap.size := by have := hb1.size; simp at this; omega
  clear hb1
  by_cases h40 : (40 : Int) < (n : Int)
  · go_wp2_with fail
    go_ret
    exact ⟨rfl, HB1.out⟩
  go_wp2_with fail
  have hcall := ksort_calls A c ks (by rw [HN.out]; omega) w1 (HA.out.below HB1.out)
  rw [HN.out] at hcall
  refine hcall.mono ?_
  clear hcall
  rintro e w2 ⟨v, rfl, h, hR, hH⟩
  obtain ⟨S, hS⟩ : ∃ S, S = ksort ks := ⟨_, rfl⟩
  have HSP := Lib.hid (show S.Pairwise ltK by rw [hS]; exact ksort_pw ks)
  have HSM := Lib.hid (show ∀ y, y ∈ S ↔ y ∈ ks by rw [hS]; exact ksort_mem ks)
  have HST := Lib.hid (show ksort S = S by rw [hS]; exact ksort_twice ks)
  have hSL : S.length ≤ n := by rw [hS, ← HN.out]; exact ksort_len ks
  rw [← hS] at hR
  obtain ⟨As, cs, rfl, _, _⟩ := RowB.form hR
  have HKA := Lib.hid (KAt.of_row hR (show Holds w1 (h ++ []) w2 by rw [List.append_nil]; exact hH))
  have HB2 := Lib.hid (HB1.out.trans (hH.below.mono (Nat.le_of_lt hs1)))
  have HK2 := Lib.hid (bcell hH.below hs1 HK1.out)
  have hs2 : w.heap.size < w2.heap.size := Nat.lt_of_lt_of_le hs1 hH.below.size
  obtain ⟨m, em⟩ : ∃ m, S.length = m := ⟨_, rfl⟩
  have HM := Lib.hid em
  rw [em] at hSL
  rw [em]
  have HNI := Lib.hid (show (m : Int) ≤ (n : Int) by omega)
  clear hR hH hS em
  go_wp2_with fail
  go_loopw [6] (fun i wr => ∃ k : Nat, 1 ≤ k ∧ i = .int .i64 k ∧ Below w2.heap.size w2 wr) (fun i _ => m - (intOf i).toNat)
  case atStart => exact ⟨1, by omega, rfl, Below.refl _ _⟩
  case round =>
    obtain ⟨k, hk, rfl, hb⟩ := hrel
    have HB := Lib.hid hb
    clear hb
    by_cases hlt : k < m
    · have hki : (k : Int) < (m : Int) := by omega
      have hki0 : (0 : Int) ≤ (k : Int) - 1 := by omega
      have hki1 : (k : Int) - 1 < (m : Int) := by omega
      have hkn : ((k : Int) - 1).toNat = k - 1 := by omega
      obtain ⟨b1, o1, eA1, _, _⟩ := HKA.out (by rw [HM.out]; omega)
      subst eA1
      obtain ⟨p, hp⟩ : ∃ p, S[k - 1]? = some p := ⟨_, List.getElem?_eq_getElem (by rw [HM.out]; omega)⟩
      obtain ⟨q, hq⟩ : ∃ q, S[k]? = some q := ⟨_, List.getElem?_eq_getElem (by rw [HM.out]; exact hlt)⟩
      have LP := Lib.hid (fun w' (hb : Below wr.heap.size wr w') => keyAt HKA.out (k - 1) p hp w' (HB.out.trans (hb.mono HB.out.size)))
      have LQ := Lib.hid (fun w' (hb : Below wr.heap.size wr w') => keyAt HKA.out k q hq w' (HB.out.trans (hb.mono HB.out.size)))
      have hlt2 : cmpK p.1 q.1 < 0 := by
        obtain ⟨l1, e1⟩ := List.getElem?_eq_some_iff.1 hp
        obtain ⟨l2, e2⟩ := List.getElem?_eq_some_iff.1 hq
        have := List.pairwise_iff_getElem.1 HSP.out (k - 1) k l1 l2 (by omega)
        rwa [e1, e2] at this
      have hge : ¬ (0 : Int) ≤ cmpK p.1 q.1 := by omega
      clear hp hq
      go_wp2_with fail
      refine region_quiet_lit (C := fun w' => Below wr.heap.size wr w') (by kernel_rfl) (by kernel_rfl) (Below.refl _ _).drew ?_
      go_big_quiet_step (exact fun _ => rfl)
      go_big_quiet_step (exact fun _ => rfl)
      go_big_quiet_step (exact fun _ => rfl)
      go_big_quiet_step (exact fun _ => rfl)
      refine BigFrame.wpQuiet_want rfl (fun K hK => ?_)
      refine quiet_ldk (.tmp 27) rfl ⟨b1, o1 + (k - 1) * 16, none⟩ (by simp [go_sem]) p.1 (fun w2 hw => LP.out w2 hw) (hK _ ?_)
      clear hK K
      simp only [Act.put, List.setIfInBounds_toArray, List.set_cons_zero, List.set_cons_succ]
      go_big_quiet_step (exact fun _ => rfl)
      go_big_quiet_step (exact fun _ => rfl)
      go_big_quiet_step (exact fun _ => rfl)
      refine BigFrame.wpQuiet_want rfl (fun K hK => ?_)
      refine quiet_ldk (.tmp 31) rfl ⟨b1, o1 + k * 16, none⟩ (by simp [go_sem]) q.1 (fun w2 hw => LQ.out w2 hw) (hK _ ?_)
      clear hK K
      simp only [Act.put, List.setIfInBounds_toArray, List.set_cons_zero, List.set_cons_succ]
      refine BigFrame.wpQuiet_want rfl (fun K hK => ?_)
      refine quiet_call 13 #[.agg (kv p.1), .agg (kv q.1)] (.int .i64 (cmpK p.1 q.1)) (fun w2 => by simp [go_sem]) (fun w2 hw => (cmpK_calls p.1 q.1 w2).mono fun e w3 hh => ⟨hh.1, hw.trans (hh.2.mono hw.size)⟩) (hK _ ?_)
      clear hK K
      simp only [Act.put, List.setIfInBounds_toArray, List.set_cons_zero, List.set_cons_succ]
      go_big_quiet_step (exact fun _ => rfl)
      refine wpQuiet_nil ?_
      intro w4 hw4
      have HB4 := Lib.hid (HB.out.trans (hw4.mono HB.out.size))
      clear hw4
      go_wp2_with fail
      go_roundw
      case rel => exact ⟨k + 1, by omega, by go_num, HB4.out⟩
      case measure => simp [intOf]; omega
    · have hki : ¬ (k : Int) < (m : Int) := by omega
      have HBx := Lib.hid HB.out
      go_wp2_with fail
      go_loopw [7, 9] (fun a i wr2 => ∃ k : Nat, k ≤ n ∧ i = .int .i64 k ∧ a = .bool (decide (x ∈ ks.take k)) ∧ Below w2.heap.size w2 wr2) (fun _ i _ => n - (intOf i).toNat)
      case atStart => exact ⟨0, by omega, rfl, by simp, HBx.out⟩
      case round =>
        obtain ⟨k3, hk3, rfl, rfl, hb⟩ := hrel
        have HB := Lib.hid hb
        clear hb
        obtain ⟨a3, ha3⟩ : ∃ a, decide (x ∈ ks.take k3) = a := ⟨_, rfl⟩
        have HA3 := Lib.hid ha3
        rw [ha3]
        clear ha3
        by_cases hlt3 : k3 < n
        · have hki : (k3 : Int) < (n : Int) := by omega
          obtain ⟨b2, o2, eA2, _, _⟩ := HA.out (by rw [HN.out]; omega)
          subst eA2
          obtain ⟨p, hp⟩ : ∃ p, ks[k3]? = some p := ⟨_, List.getElem?_eq_getElem (by rw [HN.out]; exact hlt3)⟩
          have LP := Lib.hid (fun w' (hb : Below wr.heap.size wr w') => keyAt HA.out k3 p hp w' (HB2.out.trans ((HB.out.trans (hb.mono HB.out.size)).mono (Nat.le_of_lt hs2))))
          have LK := Lib.hid (fun w' (hb : Below wr.heap.size wr w') => show ∀ j, j < 16 → w'.cell? ((⟨w.heap.size, 0, none⟩ : Addr).add j) = some (.int .u8 (kb x.1 j)) from row_cells (bcell (HB.out.trans (hb.mono HB.out.size)) hs2 HK2.out))
          have HSC := Lib.hid (mem_take_succ ks k3 p x hp)
          obtain ⟨eqb, heq⟩ : ∃ b, keq p.1 x.1 = b := ⟨_, rfl⟩
          have HEQ := Lib.hid heq
          have HOR := Lib.hid (show decide (x ∈ ks.take (k3 + 1)) = (a3 || eqb) by rw [HSC.out, HA3.out, ← heq, keq_eq])
          clear heq hp
          cases a3
          · go_wp2_with fail
            refine region_quiet_lit (C := fun w' => Below wr.heap.size wr w') (by kernel_rfl) (by kernel_rfl) (Below.refl _ _).drew ?_
            go_big_quiet_step (exact fun _ => rfl)
            go_big_quiet_step (exact fun _ => rfl)
            go_big_quiet_step (exact fun _ => rfl)
            go_big_quiet_step (exact fun _ => rfl)
            go_big_quiet_step (exact fun _ => rfl)
            refine BigFrame.wpQuiet_want rfl (fun K hK => ?_)
            refine quiet_ldk (.tmp 45) rfl ⟨b2, o2 + k3 * 16, none⟩ (by simp [go_sem]) p.1 (fun w2 hw => LP.out w2 hw) (hK _ ?_)
            clear hK K
            simp only [Act.put, List.setIfInBounds_toArray, List.set_cons_zero, List.set_cons_succ]
            refine BigFrame.wpQuiet_want rfl (fun K hK => ?_)
            refine quiet_ldk (.tmp 3) rfl ⟨w.heap.size, 0, none⟩ (by simp [go_sem]) x.1 (fun w2 hw => LK.out w2 hw) (hK _ ?_)
            clear hK K
            simp only [Act.put, List.setIfInBounds_toArray, List.set_cons_zero, List.set_cons_succ]
            refine BigFrame.wpQuiet_want rfl (fun K hK => ?_)
            refine quiet_val (.bool eqb) (fun w2 hw => by simp [go_sem, run_eqIn, HEQ.out]) (hK _ ?_)
            clear hK K
            simp only [Act.put, List.setIfInBounds_toArray, List.set_cons_zero, List.set_cons_succ]
            go_big_quiet_step (exact fun _ => rfl)
            go_big_quiet_step (exact fun _ => rfl)
            refine wpQuiet_nil ?_
            intro w4 hw4
            have HB4 := Lib.hid (HB.out.trans (hw4.mono HB.out.size))
            clear hw4
            go_wp2_with fail
            go_roundw
            case rel => exact ⟨k3 + 1, by omega, by go_num, by rw [HOR.out] <;> simp, HB4.out⟩
            case measure => simp [intOf]; omega
          · go_wp2_with fail
            refine region_quiet_lit (C := fun w' => Below wr.heap.size wr w') (by kernel_rfl) (by kernel_rfl) (Below.refl _ _).drew ?_
            go_big_quiet_step (exact fun _ => rfl)
            go_big_quiet_step (exact fun _ => rfl)
            go_big_quiet_skip
            go_big_quiet_skip
            go_big_quiet_skip
            go_big_quiet_skip
            go_big_quiet_skip
            go_big_quiet_skip
            go_big_quiet_step (exact fun _ => rfl)
            go_big_quiet_step (exact fun _ => rfl)
            refine wpQuiet_nil ?_
            intro w4 hw4
            have HB4 := Lib.hid (HB.out.trans (hw4.mono HB.out.size))
            clear hw4
            go_wp2_with fail
            go_roundw
            case rel => exact ⟨k3 + 1, by omega, by go_num, by rw [HOR.out] <;> simp, HB4.out⟩
            case measure => simp [intOf]; omega
        · obtain rfl : k3 = n := by omega
          have HBy := Lib.hid HB.out
          have HA4 := Lib.hid (show decide (x ∈ ks) = a3 by have := HA3.out; rwa [List.take_of_length_le (by rw [HN.out]; exact Nat.le_refl _)] at this)
          go_wp2_with fail
          go_loopw [8, 10] (fun a i wr2 => ∃ k : Nat, k ≤ m ∧ i = .int .i64 k ∧ a = .bool (decide (x ∈ S.take k)) ∧ Below w2.heap.size w2 wr2) (fun _ i _ => m - (intOf i).toNat)
          case atStart => exact ⟨0, by omega, rfl, by simp, HBy.out⟩
          case round =>
            obtain ⟨k5, hk5, rfl, rfl, hb⟩ := hrel
            have HB := Lib.hid hb
            clear hb
            obtain ⟨a5, ha5⟩ : ∃ a, decide (x ∈ S.take k5) = a := ⟨_, rfl⟩
            have HA5 := Lib.hid ha5
            rw [ha5]
            clear ha5
            by_cases hlt5 : k5 < m
            · have hki : (k5 : Int) < (m : Int) := by omega
              obtain ⟨b1, o1, eA1, _, _⟩ := HKA.out (by rw [HM.out]; omega)
              subst eA1
              obtain ⟨p, hp⟩ : ∃ p, S[k5]? = some p := ⟨_, List.getElem?_eq_getElem (by rw [HM.out]; exact hlt5)⟩
              have LP := Lib.hid (fun w' (hb : Below wr.heap.size wr w') => keyAt HKA.out k5 p hp w' (HB.out.trans (hb.mono HB.out.size)))
              have LK := Lib.hid (fun w' (hb : Below wr.heap.size wr w') => show ∀ j, j < 16 → w'.cell? ((⟨w.heap.size, 0, none⟩ : Addr).add j) = some (.int .u8 (kb x.1 j)) from row_cells (bcell (HB.out.trans (hb.mono HB.out.size)) hs2 HK2.out))
              have HSC := Lib.hid (mem_take_succ S k5 p x hp)
              obtain ⟨eqb, heq⟩ : ∃ b, keq p.1 x.1 = b := ⟨_, rfl⟩
              have HEQ := Lib.hid heq
              have HOR := Lib.hid (show decide (x ∈ S.take (k5 + 1)) = (a5 || eqb) by rw [HSC.out, HA5.out, ← heq, keq_eq])
              clear heq hp
              cases a5
              · go_wp2_with fail
                refine region_quiet_lit (C := fun w' => Below wr.heap.size wr w') (by kernel_rfl) (by kernel_rfl) (Below.refl _ _).drew ?_
                go_big_quiet_step (exact fun _ => rfl)
                go_big_quiet_step (exact fun _ => rfl)
                go_big_quiet_step (exact fun _ => rfl)
                go_big_quiet_step (exact fun _ => rfl)
                go_big_quiet_step (exact fun _ => rfl)
                refine BigFrame.wpQuiet_want rfl (fun K hK => ?_)
                refine quiet_ldk (.tmp 60) rfl ⟨b1, o1 + k5 * 16, none⟩ (by simp [go_sem]) p.1 (fun w2 hw => LP.out w2 hw) (hK _ ?_)
                clear hK K
                simp only [Act.put, List.setIfInBounds_toArray, List.set_cons_zero, List.set_cons_succ]
                refine BigFrame.wpQuiet_want rfl (fun K hK => ?_)
                refine quiet_ldk (.tmp 3) rfl ⟨w.heap.size, 0, none⟩ (by simp [go_sem]) x.1 (fun w2 hw => LK.out w2 hw) (hK _ ?_)
                clear hK K
                simp only [Act.put, List.setIfInBounds_toArray, List.set_cons_zero, List.set_cons_succ]
                refine BigFrame.wpQuiet_want rfl (fun K hK => ?_)
                refine quiet_val (.bool eqb) (fun w2 hw => by simp [go_sem, run_eqIn, HEQ.out]) (hK _ ?_)
                clear hK K
                simp only [Act.put, List.setIfInBounds_toArray, List.set_cons_zero, List.set_cons_succ]
                go_big_quiet_step (exact fun _ => rfl)
                go_big_quiet_step (exact fun _ => rfl)
                refine wpQuiet_nil ?_
                intro w4 hw4
                have HB4 := Lib.hid (HB.out.trans (hw4.mono HB.out.size))
                clear hw4
                go_wp2_with fail
                go_roundw
                case rel => exact ⟨k5 + 1, by omega, by go_num, by rw [HOR.out] <;> simp, HB4.out⟩
                case measure => simp [intOf]; omega
              · go_wp2_with fail
                refine region_quiet_lit (C := fun w' => Below wr.heap.size wr w') (by kernel_rfl) (by kernel_rfl) (Below.refl _ _).drew ?_
                go_big_quiet_step (exact fun _ => rfl)
                go_big_quiet_step (exact fun _ => rfl)
                go_big_quiet_skip
                go_big_quiet_skip
                go_big_quiet_skip
                go_big_quiet_skip
                go_big_quiet_skip
                go_big_quiet_skip
                go_big_quiet_step (exact fun _ => rfl)
                go_big_quiet_step (exact fun _ => rfl)
                refine wpQuiet_nil ?_
                intro w4 hw4
                have HB4 := Lib.hid (HB.out.trans (hw4.mono HB.out.size))
                clear hw4
                go_wp2_with fail
                go_roundw
                case rel => exact ⟨k5 + 1, by omega, by go_num, by rw [HOR.out] <;> simp, HB4.out⟩
                case measure => simp [intOf]; omega
            · obtain rfl : k5 = m := by omega
              have HE := Lib.hid (show a3 = a5 by rw [← HA4.out, ← HA5.out, List.take_of_length_le (by rw [HM.out]; exact Nat.le_refl _)]; exact decide_eq_decide.2 (HSM.out x).symm)
              have hE := HE.out
              subst hE
              have hmn := HNI.out
              go_wp2_with fail
              have hcall := ksort_calls As cs S (by rw [HM.out]; omega) wr (HKA.out.below HB.out)
              rw [HM.out] at hcall
              refine hcall.mono ?_
              clear hcall
              rintro e w5 ⟨v5, rfl, h5, hR5, hH5⟩
              rw [HST.out] at hR5
              obtain ⟨A5, c5, rfl, _, _⟩ := RowB.form hR5
              have hK5 := KAt.of_row hR5 (show Holds wr (h5 ++ []) w5 by rw [List.append_nil]; exact hH5)
              have HB5 := Lib.hid (HB.out.trans (hH5.below.mono HB.out.size))
              have hcall := keys_calls A5 As c5 cs S S w5 (by rw [HM.out]; omega) (by rw [HM.out]; omega) hK5 (HKA.out.below HB5.out)
              rw [HM.out, decide_eq_true rfl] at hcall
              rw [HM.out]
              have HC := Lib.hid hcall
              clear hcall hR5 hH5 hK5
              go_wp2_with fail
              refine HC.out.mono ?_
              rintro e w6 ⟨rfl, hb6⟩
              have HB6 := Lib.hid (HB2.out.trans ((HB5.out.trans (hb6.mono HB5.out.size)).mono (Nat.le_of_lt hs2)))
              clear hb6
              go_wp2_with fail
              go_ret
              exact ⟨rfl, HB6.out⟩
end Go.Proofs.Ytnmnniknklfemaa
