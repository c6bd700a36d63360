/- What the Go functions compute: each as a Lean function, with the proof that its call answers so; written by a program of this session over the kit's print. Conditions: each theorem's own. -/
import Derived.Test.YtfebebjopjopcaaQRsx0
import Derived.Test.YtfebebjopjopcaaQRsx2
namespace Go.Proofs.Ytfebebjopjopcaa.QRs
open Go.RowKit Go.Proofs.YtfebebjopjopcaaW.PrintWords Go.Proofs.YtfebebjopjopcaaW.PrintLast Go.Proofs.YtfebebjopjopcaaW.PrintMore
attribute [local go_sem] max2_int min2_int max_two min_two max_three min_three max_four min_four   -- for this text's walks alone
set_option linter.unusedVariables false
set_option linter.unusedSimpArgs false

/-! ### disc_Clock_Read: function 16 -/
def disc_Clock_Read.f (s0_0 : Int) (s0_1 : Int) (s0_2 : Int) (a1 : Int) : Option (Int × Int × Int × Int) := some (mx (mn (mx (wrap64 ((mn (mx a1 (-1099511627776)) 36029896530591743) + s0_2)) 0) 36028797018963967) s0_1, s0_0, s0_1, s0_2)
set_option maxHeartbeats 8000000 in
set_option maxRecDepth 100000 in
theorem disc_Clock_Read.calls (g : Nat) (s0_0 : Int) (s0_1 : Int) (s0_2 : Int) (a1 : Int) (r1 : Int) (r2 : Int) (r3 : Int) (r4 : Int) (w0 w : World) (hI : IsS49 w0 w g s0_0 s0_1 s0_2) (hB : Below w0.heap.size w0 w) (h : disc_Clock_Read.f s0_0 s0_1 s0_2 a1 = some (r1, r2, r3, r4)) :
    Calls Try.prog 16 #[.pointer (some ⟨g, 0, none⟩), .int .i64 a1] w fun e w' => e = .returned (.int .i64 r1) ∧ IsS49 w0 w' g r2 r3 r4 ∧ Below w0.heap.size w0 w' ∧ KeepBut w w' g none := by
  have HI0 := Aside0.mk hI
  have HK := Aside0.mk (KeepBut.refl w g none)
  have HL := Aside0.mk hB.size
  clear hI
  have HW0 := Aside0.mk hB.size
  have HB := Aside0.mk hB
  clear hB
  have H : (some (mx (mn (mx (wrap64 ((mn (mx a1 (-1099511627776)) 36029896530591743) + s0_2)) 0) 36028797018963967) s0_1, s0_0, s0_1, s0_2)) = some (r1, r2, r3, r4) := h
  clear h
  obtain ⟨ji3, hji3⟩ : ∃ j_ : Int, (mx a1 (-1099511627776)) = j_ := ⟨_, rfl⟩
  replace H : (some (mx (mn (mx (wrap64 ((mn (ji3) 36029896530591743) + s0_2)) 0) 36028797018963967) s0_1, s0_0, s0_1, s0_2)) = some (r1, r2, r3, r4) := by first | (rw [hji3] at H; exact H) | (simp only [hji3] at H ⊢; exact H)
  have hji3_ : (if a1 < (-1099511627776) then (-1099511627776) else a1) = ji3 := hji3
  obtain ⟨ji4, hji4⟩ : ∃ j_ : Int, (mn (ji3) 36029896530591743) = j_ := ⟨_, rfl⟩
  replace H : (some (mx (mn (mx (wrap64 ((ji4) + s0_2)) 0) 36028797018963967) s0_1, s0_0, s0_1, s0_2)) = some (r1, r2, r3, r4) := by first | (rw [hji4] at H; exact H) | (simp only [hji4] at H ⊢; exact H)
  have hji4_ : (if 36029896530591743 < (ji3) then 36029896530591743 else (ji3)) = ji4 := hji4
  obtain ⟨ji5, hji5⟩ : ∃ j_ : Int, (mx (wrap64 ((ji4) + s0_2)) 0) = j_ := ⟨_, rfl⟩
  replace H : (some (mx (mn (ji5) 36028797018963967) s0_1, s0_0, s0_1, s0_2)) = some (r1, r2, r3, r4) := by first | (rw [hji5] at H; exact H) | (simp only [hji5] at H ⊢; exact H)
  have hji5_ : (if (wrap64 ((ji4) + s0_2)) < 0 then 0 else (wrap64 ((ji4) + s0_2))) = ji5 := hji5
  obtain ⟨ji6, hji6⟩ : ∃ j_ : Int, (mn (ji5) 36028797018963967) = j_ := ⟨_, rfl⟩
  replace H : (some (mx (ji6) s0_1, s0_0, s0_1, s0_2)) = some (r1, r2, r3, r4) := by first | (rw [hji6] at H; exact H) | (simp only [hji6] at H ⊢; exact H)
  have hji6_ : (if 36028797018963967 < (ji5) then 36028797018963967 else (ji5)) = ji6 := hji6
  obtain ⟨ji7, hji7⟩ : ∃ j_ : Int, (mx (ji6) s0_1) = j_ := ⟨_, rfl⟩
  replace H : (some (ji7, s0_0, s0_1, s0_2)) = some (r1, r2, r3, r4) := by first | (rw [hji7] at H; exact H) | (simp only [hji7] at H ⊢; exact H)
  have hji7_ : (if (ji6) < s0_1 then s0_1 else (ji6)) = ji7 := hji7
  simp only [Option.some.injEq, Prod.mk.injEq] at H
  obtain ⟨rfl, rfl, rfl, rfl⟩ := H
  obtain ⟨HGz8, hgz8⟩ := HI0.out
  have hcz8_0 := cellS49_0 HGz8
  have hcz8_1 := cellS49_1 HGz8
  have hcz8_2 := cellS49_2 HGz8
  have hfz8_0 := blk_frozen HGz8 0
  have hfz8_1 := blk_frozen HGz8 1
  have hfz8_2 := blk_frozen HGz8 2
  clear HGz8 hgz8
  go_enter Try.func16, Try.ntmps16
  go_wp2
  go_ret
  exact ⟨by first | rfl | (simp [errW_none, errW_some] <;> rfl) | (simp only [← hji3, ← hji4, ← hji5, ← hji6, ← hji7]; first | rfl | (simp [errW_none, errW_some] <;> rfl)) | (simp [*, errW_none, errW_some] <;> rfl), by repeat (first | (with_reducible first | exact HI0.out | apply IsS49.alloc | apply IsS49.drewN | apply IsS49.drew | apply IsS49.set_0 | apply IsS49.set_1 | apply IsS49.set_2) | exact HI0.out), by repeat (first | (with_reducible first | exact HB.out | apply below_alloc | apply pw_below_drewN | apply below_drew1 | refine below_set ?_ (IsS49.ge HI0.out)) | exact HB.out), by repeat (first | (with_reducible first | exact HK.out | apply KeepBut.set_ | apply keep_drewN | apply keep_drew | apply keep_alloc) | exact HK.out)⟩

end Go.Proofs.Ytfebebjopjopcaa.QRs
