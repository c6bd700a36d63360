/- What the document's Digits writes, for every number; and its Text. No condition beyond the words' own bounds. -/
import Derived.Test.YtdmicehmmmpjcaaDoorDigits
namespace Go.Proofs.YtdmicehmmmpjcaaDoor
open Go.RowKit
set_option linter.unusedVariables false
set_option linter.unusedSimpArgs false
theorem digits_nat : ∀ (m : Nat), (m : Int) ≤ 9223372036854775807 → ∀ w, Calls Tryd.prog 27 #[.int .i64 (m : Int)] w fun e w' => e = .returned (.string ⟨(Lib.decDigits m).toArray⟩) ∧ Below w.heap.size w w' := by
  intro m
  induction m using Nat.strongRecOn with
  | _ m ih =>
    intro hm w
    by_cases h : m < 10
    · have := digits_lo (m : Int) (by omega) (by omega) w
      rw [Lib.decDigits, dif_pos h]
      have e : (48 + (m : Int)).toNat = 48 + m := by omega
      rw [e] at this
      exact this
    · rw [Lib.decDigits, dif_neg h]
      have hi := ih (m / 10) (by omega) (by omega)
      have hl : (Lib.itoa ((m / 10 : Nat) : Int)).length ≤ 21 := Lib.itoa_length_le _ (by omega) (by omega)
      have hl2 : (Lib.decDigits (m / 10)).length ≤ 21 := by
        unfold Lib.itoa at hl
        rw [if_neg (by omega), show (((m / 10 : Nat) : Int)).toNat = m / 10 by omega] at hl
        exact hl
      have ec : ((48 + m % 10 : Nat) : Int) = 48 + (m : Int) % 10 := by omega
      refine digits_hi (m : Int) (by omega) hm _ _ _ ((48 + m % 10 : Nat) : Int) w (by omega) (by rw [IntKind.wrap_u8]; omega) rfl (fun w => run_string_add_lists w (Lib.decDigits (m / 10)) [UInt8.ofNat (48 + m % 10)] (by omega) (by simp)) (Lib.hid ?_)
      have ed : ((m / 10 : Nat) : Int) = (m : Int) / 10 := by omega
      rw [← ed]
      exact hi
theorem rdigits_calls (t : Int) (h0 : -9223372036854775808 ≤ t) (h1 : t ≤ 9223372036854775807) (w : World) :
    Calls Tryd.prog 27 #[.int .i64 t] w fun e w' => e = .returned (.string ⟨(Lib.itoa t).toArray⟩) ∧ Below w.heap.size w w' := by
  by_cases h : t < 0
  · by_cases hm : t = -9223372036854775808
    · subst hm
      rw [show Lib.itoa (-9223372036854775808) = [45, 57, 50, 50, 51, 51, 55, 50, 48, 51, 54, 56, 53, 52, 55, 55, 53, 56, 48, 56] by unfold Lib.itoa; rw [if_pos (by decide)]; simp [Lib.decDigits]]
      go_enter Tryd.func27, Tryd.ntmps27
      go_wp2_with fail
      go_ret
      exact ⟨rfl, Below.refl _ _⟩
    · have hd := digits_nat (-t).toNat (by omega)
      rw [show (((-t).toNat : Nat) : Int) = -t by omega] at hd
      have hl : (Lib.itoa (-t)).length ≤ 21 := Lib.itoa_length_le _ (by omega) (by omega)
      have hl2 : (Lib.decDigits (-t).toNat).length ≤ 21 := by
        unfold Lib.itoa at hl
        rw [if_neg (by omega)] at hl
        exact hl
      have s1 : ∀ w : World, (Op.stringOp .add ⟨#[45]⟩ ⟨(Lib.decDigits (-t).toNat).toArray⟩).run Tryd.prog w = .ok (.string ⟨(45 :: Lib.decDigits (-t).toNat).toArray⟩) w := fun w => run_string_add_lists w [45] (Lib.decDigits (-t).toNat) (by simp) (by omega)
      have HD := Lib.hid hd
      have ei : Lib.itoa t = 45 :: Lib.decDigits (-t).toNat := by
        unfold Lib.itoa
        rw [if_pos h, show t.natAbs = (-t).toNat by omega]
      rw [ei]
      obtain ⟨sA, hA⟩ : ∃ s : ByteArray, ⟨(Lib.decDigits (-t).toNat).toArray⟩ = s := ⟨_, rfl⟩
      obtain ⟨sB, hB⟩ : ∃ s : ByteArray, ⟨(45 :: Lib.decDigits (-t).toNat).toArray⟩ = s := ⟨_, rfl⟩
      rw [hA] at HD s1
      rw [hB] at s1 ⊢
      have hwr : IntKind.i64.wrap (-t) = -t := by rw [IntKind.wrap_i64]; omega
      clear hd hl hl2 hA hB ei
      go_enter Tryd.func27, Tryd.ntmps27
      go_wp2_with fail
      refine (HD.out _).mono ?_
      rintro e w1 ⟨rfl, hb1⟩
      have B1 := Lib.hid hb1
      clear hb1
      go_wp2_with fail
      go_ret
      exact ⟨rfl, B1.out⟩
  · have := digits_nat t.toNat (by omega) w
    rw [show ((t.toNat : Nat) : Int) = t by omega] at this
    unfold Lib.itoa
    rw [if_neg h]
    exact this
theorem rtext_calls (t n : Int) (h0 : -9223372036854775808 ≤ t) (h1 : t ≤ 9223372036854775807) (hn : 0 ≤ n ∧ n ≤ 255) (w : World) :
    Calls Tryd.prog 21 #[.agg #[.int .i64 t, .int .u8 n]] w fun e w' => e = .returned (.string (txt t n)) ∧ Below w.heap.size w w' := by
  have HI := Lib.hid (rdigits_calls t h0 h1)
  have HS := Lib.hid (rdigits_calls n (by omega) (by omega))
  have l1 := Lib.itoa_length_le t h0 h1
  have l2 := Lib.itoa_length_le n (by omega) (by omega)
  have I0 := Lib.hid (isSt_new w t n)
  have wn : IntKind.i64.wrap n = n := by rw [IntKind.wrap_i64]; omega
  have s1 : ∀ w : World, (Op.stringOp .add ⟨(Lib.itoa t).toArray⟩ ⟨#[46]⟩).run Tryd.prog w = .ok (.string ⟨(Lib.itoa t ++ [46]).toArray⟩) w := fun w => run_string_add_lists w (Lib.itoa t) [46] (by omega) (by decide)
  have s2 : ∀ w : World, (Op.stringOp .add ⟨(Lib.itoa t ++ [46]).toArray⟩ ⟨(Lib.itoa n).toArray⟩).run Tryd.prog w = .ok (.string ⟨(Lib.itoa t ++ [46] ++ Lib.itoa n).toArray⟩) w := fun w => run_string_add_lists w (Lib.itoa t ++ [46]) (Lib.itoa n) (by simp; omega) (by omega)
  unfold txt
  obtain ⟨sA, hA⟩ : ∃ s : ByteArray, ⟨(Lib.itoa t).toArray⟩ = s := ⟨_, rfl⟩
  obtain ⟨sB, hB⟩ : ∃ s : ByteArray, ⟨(Lib.itoa t ++ [46]).toArray⟩ = s := ⟨_, rfl⟩
  obtain ⟨sC, hC⟩ : ∃ s : ByteArray, ⟨(Lib.itoa n).toArray⟩ = s := ⟨_, rfl⟩
  obtain ⟨sD, hD⟩ : ∃ s : ByteArray, ⟨(Lib.itoa t ++ [46] ++ Lib.itoa n).toArray⟩ = s := ⟨_, rfl⟩
  rw [hA] at HI s1
  rw [hB] at s1 s2
  rw [hC] at HS s2
  rw [hD] at s2 ⊢
  clear hA hB hC hD l1 l2
  have BA := Lib.hid ((Below.refl w.heap.size w).alloc (Nat.le_refl _) (.cells #[.int .i64 t, .int .u8 n] 23))
  go_enter Tryd.func21, Tryd.ntmps21
  go_wp2_with fail
  obtain ⟨W, hW⟩ : ∃ W, w.alloc (.cells #[.int .i64 t, .int .u8 n] 23) = W := ⟨_, rfl⟩
  rw [hW] at I0 BA ⊢
  have SZ : w.heap.size < W.heap.size := I0.out.lt
  clear hW
  refine region_quiet_lit (C := fun w' => Below W.heap.size W w') (by kernel_rfl) (by kernel_rfl) (Below.refl _ _).drew ?_
  refine BigFrame.wpQuiet_want rfl (fun K hK => ?_)
  refine quiet_val (.pointer (some ⟨w.heap.size, 0, none⟩)) (fun w2 hw => by simp [go_sem]) (hK _ ?_)
  clear hK K
  simp only [Act.put, List.setIfInBounds_toArray, List.set_cons_zero, List.set_cons_succ]
  refine BigFrame.wpQuiet_want rfl (fun K hK => ?_)
  refine quiet_val (.int .i64 t) (fun w2 hw => by simp [go_sem, (I0.out.to hw SZ).c0]) (hK _ ?_)
  clear hK K
  simp only [Act.put, List.setIfInBounds_toArray, List.set_cons_zero, List.set_cons_succ]
  refine BigFrame.wpQuiet_want rfl (fun K hK => ?_)
  refine quiet_call 27 #[.int .i64 t] (.string sA) (fun w2 => by simp [go_sem]) (fun w2 hw => (HI.out w2).mono fun e w3 hh => ⟨hh.1, hw.trans (hh.2.mono hw.size)⟩) (hK _ ?_)
  clear hK K
  simp only [Act.put, List.setIfInBounds_toArray, List.set_cons_zero, List.set_cons_succ]
  refine BigFrame.wpQuiet_want rfl (fun K hK => ?_)
  refine quiet_val (.string sB) (fun w2 hw => by simp [go_sem, s1]) (hK _ ?_)
  clear hK K
  simp only [Act.put, List.setIfInBounds_toArray, List.set_cons_zero, List.set_cons_succ]
  refine BigFrame.wpQuiet_want rfl (fun K hK => ?_)
  refine quiet_val (.pointer (some ⟨w.heap.size, 1, none⟩)) (fun w2 hw => by simp [go_sem]) (hK _ ?_)
  clear hK K
  simp only [Act.put, List.setIfInBounds_toArray, List.set_cons_zero, List.set_cons_succ]
  refine BigFrame.wpQuiet_want rfl (fun K hK => ?_)
  refine quiet_val (.int .u8 n) (fun w2 hw => by simp [go_sem, (I0.out.to hw SZ).c1]) (hK _ ?_)
  clear hK K
  simp only [Act.put, List.setIfInBounds_toArray, List.set_cons_zero, List.set_cons_succ]
  refine BigFrame.wpQuiet_want rfl (fun K hK => ?_)
  refine quiet_val (.int .i64 n) (fun w2 hw => by simp [go_sem, wn]) (hK _ ?_)
  clear hK K
  simp only [Act.put, List.setIfInBounds_toArray, List.set_cons_zero, List.set_cons_succ]
  refine BigFrame.wpQuiet_want rfl (fun K hK => ?_)
  refine quiet_call 27 #[.int .i64 n] (.string sC) (fun w2 => by simp [go_sem]) (fun w2 hw => (HS.out w2).mono fun e w3 hh => ⟨hh.1, hw.trans (hh.2.mono hw.size)⟩) (hK _ ?_)
  clear hK K
  simp only [Act.put, List.setIfInBounds_toArray, List.set_cons_zero, List.set_cons_succ]
  refine BigFrame.wpQuiet_want rfl (fun K hK => ?_)
  refine quiet_val (.string sD) (fun w2 hw => by simp [go_sem, s2]) (hK _ ?_)
  clear hK K
  simp only [Act.put, List.setIfInBounds_toArray, List.set_cons_zero, List.set_cons_succ]
  refine BigFrame.wpQuiet_want rfl (fun K hK => ?_)
  refine quiet_val (.string sD) (fun w2 hw => rfl) (hK _ ?_)
  clear hK K
  simp only [Act.put, List.setIfInBounds_toArray, List.set_cons_zero, List.set_cons_succ]
  refine wpQuiet_nil ?_
  intro w2 hw2
  have B2 := Lib.hid (BA.out.trans (hw2.mono (by omega)))
  clear hw2 s1 s2 I0
  go_wp2_with fail
  go_ret
  exact ⟨rfl, B2.out⟩
end Go.Proofs.YtdmicehmmmpjcaaDoor
