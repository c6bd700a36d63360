/- What the Go functions compute: each as a Lean function, with the proof that its call answers so; written by a program of this session over the kit's print. Conditions: each theorem's own. -/
import Derived.Test.YtacbaiflblngfaaQFramex0
import Derived.Test.YtacbaiflblngfaaQFramex2
import Derived.Test.YtacbaiflblngfaaQFramex4
import Derived.Test.YtacbaiflblngfaaQFramex5
namespace Go.Proofs.Ytacbaiflblngfaa.QFrame
open Go.RowKit Go.Proofs.YtacbaiflblngfaaW.PrintWords Go.Proofs.YtacbaiflblngfaaW.PrintLast Go.Proofs.YtacbaiflblngfaaW.PrintMore
attribute [local go_sem] max2_int min2_int max_two min_two max_three min_three max_four min_four u32_signed u32_max
set_option linter.unusedVariables false
set_option linter.unusedSimpArgs false

/-! ### hourglasslaw3_FrameKnown: function 3 -/
def hourglasslaw3_FrameKnown.f (k : Nat)  : Option (Bool) := (hourglasslaw3_awake.f k).bind fun t171 => (if t171 = true then (if 8001 ≤ 281474976710656 then ((frame_Put.f k ([] : List Int) (List.replicate 8001 0)).bind fun bt175 => (if 8000 ≤ 281474976710656 then ((frame_Put.f k ([] : List Int) (List.replicate 8000 0)).bind fun bt182 => (if 8011 ≤ (bt182.1.length : Int) then ((frame_Scan.f k (bt182.1.take 8011)).bind fun bt190 => ((frame_Scan.f k ([] : List Int)).bind fun bt195 => (if bt175.2 = 2 then (if (bt175.1.length : Int) = 0 then (if bt182.2 = 0 then (if (bt190.1.length : Int) = 0 then (if bt190.2.1 = 0 then (if bt190.2.2 = true then (some false) else (if (bt195.1.length : Int) = 0 then (if bt195.2.1 = 0 then (some bt195.2.2) else (some false)) else (some false))) else (some false)) else (some false)) else (some false)) else (some false)) else (some false)))) else (none))) else (none))) else (none)) else (some false))
theorem hourglasslaw3_FrameKnown.mono : ∀ k, LeO (hourglasslaw3_FrameKnown.f k ) (hourglasslaw3_FrameKnown.f (k + 1) ) := by
  intro  k
  unfold hourglasslaw3_FrameKnown.f
  repeat' first
      | (with_reducible exact frame_Put.mono _ _ _)
      | (with_reducible exact frame_Scan.mono _ _)
      | (with_reducible exact hourglasslaw3_awake.mono _)
      | (with_reducible exact LeO.refl _)
      | (with_reducible exact LeO.none _)
      | (with_reducible refine LeO.ite ?_ ?_)
      | (with_reducible refine LeO.bind ?_ (fun _ => ?_))
      | exact frame_Put.mono _ _ _
      | exact frame_Scan.mono _ _
      | exact hourglasslaw3_awake.mono _
      | exact LeO.none _
      | refine LeO.ite ?_ ?_
      | refine LeO.bind ?_ (fun _ => ?_)
set_option maxHeartbeats 8000000 in
set_option maxRecDepth 100000 in
theorem hourglasslaw3_FrameKnown.calls (k : Nat)  (r : Bool) (w : World) (h : hourglasslaw3_FrameKnown.f k  = some r) (hlaw_ : Aside0 (r = true)) :
    Calls Try.prog 3 #[] w fun e w' => e = .returned (.bool r) ∧ Below w.heap.size w w' := by
  have HB := Aside0.mk (Below.refl w.heap.size w)
  have H : ((hourglasslaw3_awake.f k).bind fun t171 => (if t171 = true then (if 8001 ≤ 281474976710656 then ((frame_Put.f k ([] : List Int) (List.replicate 8001 0)).bind fun bt175 => (if 8000 ≤ 281474976710656 then ((frame_Put.f k ([] : List Int) (List.replicate 8000 0)).bind fun bt182 => (if 8011 ≤ (bt182.1.length : Int) then ((frame_Scan.f k (bt182.1.take 8011)).bind fun bt190 => ((frame_Scan.f k ([] : List Int)).bind fun bt195 => (if bt175.2 = 2 then (if (bt175.1.length : Int) = 0 then (if bt182.2 = 0 then (if (bt190.1.length : Int) = 0 then (if bt190.2.1 = 0 then (if bt190.2.2 = true then (some false) else (if (bt195.1.length : Int) = 0 then (if bt195.2.1 = 0 then (some bt195.2.2) else (some false)) else (some false))) else (some false)) else (some false)) else (some false)) else (some false)) else (some false)))) else (none))) else (none))) else (none)) else (some false))) = some r := h
  clear h
  replace H := Option.bind_eq_some_iff.mp H
  obtain ⟨t171, A10, H⟩ := H
  replace H : (if t171 = true then (if 8001 ≤ 281474976710656 then ((frame_Put.f k ([] : List Int) (List.replicate 8001 0)).bind fun bt175 => (if 8000 ≤ 281474976710656 then ((frame_Put.f k ([] : List Int) (List.replicate 8000 0)).bind fun bt182 => (if 8011 ≤ (bt182.1.length : Int) then ((frame_Scan.f k (bt182.1.take 8011)).bind fun bt190 => ((frame_Scan.f k ([] : List Int)).bind fun bt195 => (if bt175.2 = 2 then (if (bt175.1.length : Int) = 0 then (if bt182.2 = 0 then (if (bt190.1.length : Int) = 0 then (if bt190.2.1 = 0 then (if bt190.2.2 = true then (some false) else (if (bt195.1.length : Int) = 0 then (if bt195.2.1 = 0 then (some bt195.2.2) else (some false)) else (some false))) else (some false)) else (some false)) else (some false)) else (some false)) else (some false)))) else (none))) else (none))) else (none)) else (some false)) = some r := H
  have A1 := Aside0.mk A10
  clear A10
  by_cases c2 : t171 = true
  · subst c2
    have H1 : (if 8001 ≤ 281474976710656 then ((frame_Put.f k ([] : List Int) (List.replicate 8001 0)).bind fun bt175 => (if 8000 ≤ 281474976710656 then ((frame_Put.f k ([] : List Int) (List.replicate 8000 0)).bind fun bt182 => (if 8011 ≤ (bt182.1.length : Int) then ((frame_Scan.f k (bt182.1.take 8011)).bind fun bt190 => ((frame_Scan.f k ([] : List Int)).bind fun bt195 => (if bt175.2 = 2 then (if (bt175.1.length : Int) = 0 then (if bt182.2 = 0 then (if (bt190.1.length : Int) = 0 then (if bt190.2.1 = 0 then (if bt190.2.2 = true then (some false) else (if (bt195.1.length : Int) = 0 then (if bt195.2.1 = 0 then (some bt195.2.2) else (some false)) else (some false))) else (some false)) else (some false)) else (some false)) else (some false)) else (some false)))) else (none))) else (none))) else (none)) = some r := by rw [if_pos rfl] at H; exact H
    clear H
    have H := H1
    clear H1
    by_cases c3 : 8001 ≤ 281474976710656
    · rw [if_pos c3] at H
      have c3b0 := eq_true c3
      have c3b1 : decide (8001 ≤ 281474976710656) = true := decide_eq_true c3
      clear c3
      obtain ⟨y172, hy172⟩ : ∃ y_ : List Int, y_ = (List.replicate 8001 0) := ⟨_, rfl⟩
      replace H : ((frame_Put.f k ([] : List Int) y172).bind fun bt175 => (if 8000 ≤ 281474976710656 then ((frame_Put.f k ([] : List Int) (List.replicate 8000 0)).bind fun bt182 => (if 8011 ≤ (bt182.1.length : Int) then ((frame_Scan.f k (bt182.1.take 8011)).bind fun bt190 => ((frame_Scan.f k ([] : List Int)).bind fun bt195 => (if bt175.2 = 2 then (if (bt175.1.length : Int) = 0 then (if bt182.2 = 0 then (if (bt190.1.length : Int) = 0 then (if bt190.2.1 = 0 then (if bt190.2.2 = true then (some false) else (if (bt195.1.length : Int) = 0 then (if bt195.2.1 = 0 then (some bt195.2.2) else (some false)) else (some false))) else (some false)) else (some false)) else (some false)) else (some false)) else (some false)))) else (none))) else (none))) = some r := by first | (rw [hy172]; with_reducible exact H) | (have H2_ := (Option.bind_some _ _).symm.trans H; rw [hy172]; with_reducible exact H2_) | (have H2_ := (Option.bind_some _ _).symm.trans H; with_reducible exact H2_) | with_reducible exact H | (rw [hy172]; exact H) | exact H
      have Ny172 := Aside0.mk hy172
      clear hy172
      replace H := Option.bind_eq_some_iff.mp H
      obtain ⟨⟨t175, t176⟩, A40, H⟩ := H
      replace H : (if 8000 ≤ 281474976710656 then ((frame_Put.f k ([] : List Int) (List.replicate 8000 0)).bind fun bt182 => (if 8011 ≤ (bt182.1.length : Int) then ((frame_Scan.f k (bt182.1.take 8011)).bind fun bt190 => ((frame_Scan.f k ([] : List Int)).bind fun bt195 => (if t176 = 2 then (if (t175.length : Int) = 0 then (if bt182.2 = 0 then (if (bt190.1.length : Int) = 0 then (if bt190.2.1 = 0 then (if bt190.2.2 = true then (some false) else (if (bt195.1.length : Int) = 0 then (if bt195.2.1 = 0 then (some bt195.2.2) else (some false)) else (some false))) else (some false)) else (some false)) else (some false)) else (some false)) else (some false)))) else (none))) else (none)) = some r := H
      have A4 := Aside0.mk A40
      clear A40
      by_cases c5 : 8000 ≤ 281474976710656
      · rw [if_pos c5] at H
        have c5b0 := eq_true c5
        have c5b1 : decide (8000 ≤ 281474976710656) = true := decide_eq_true c5
        clear c5
        obtain ⟨y179, hy179⟩ : ∃ y_ : List Int, y_ = (List.replicate 8000 0) := ⟨_, rfl⟩
        replace H : ((frame_Put.f k ([] : List Int) y179).bind fun bt182 => (if 8011 ≤ (bt182.1.length : Int) then ((frame_Scan.f k (bt182.1.take 8011)).bind fun bt190 => ((frame_Scan.f k ([] : List Int)).bind fun bt195 => (if t176 = 2 then (if (t175.length : Int) = 0 then (if bt182.2 = 0 then (if (bt190.1.length : Int) = 0 then (if bt190.2.1 = 0 then (if bt190.2.2 = true then (some false) else (if (bt195.1.length : Int) = 0 then (if bt195.2.1 = 0 then (some bt195.2.2) else (some false)) else (some false))) else (some false)) else (some false)) else (some false)) else (some false)) else (some false)))) else (none))) = some r := by first | (rw [hy179]; with_reducible exact H) | (have H2_ := (Option.bind_some _ _).symm.trans H; rw [hy179]; with_reducible exact H2_) | (have H2_ := (Option.bind_some _ _).symm.trans H; with_reducible exact H2_) | with_reducible exact H | (rw [hy179]; exact H) | exact H
        have Ny179 := Aside0.mk hy179
        clear hy179
        replace H := Option.bind_eq_some_iff.mp H
        obtain ⟨⟨t182, t183⟩, A60, H⟩ := H
        replace H : (if 8011 ≤ (t182.length : Int) then ((frame_Scan.f k (t182.take 8011)).bind fun bt190 => ((frame_Scan.f k ([] : List Int)).bind fun bt195 => (if t176 = 2 then (if (t175.length : Int) = 0 then (if t183 = 0 then (if (bt190.1.length : Int) = 0 then (if bt190.2.1 = 0 then (if bt190.2.2 = true then (some false) else (if (bt195.1.length : Int) = 0 then (if bt195.2.1 = 0 then (some bt195.2.2) else (some false)) else (some false))) else (some false)) else (some false)) else (some false)) else (some false)) else (some false)))) else (none)) = some r := H
        have A6 := Aside0.mk A60
        clear A60
        by_cases c7 : 8011 ≤ (t182.length : Int)
        · rw [if_pos c7] at H
          have c7b0 := eq_true c7
          have c7b1 : decide (8011 ≤ (t182.length : Int)) = true := decide_eq_true c7
          clear c7
          obtain ⟨y186, hy186⟩ : ∃ y_ : List Int, y_ = (t182.take 8011) := ⟨_, rfl⟩
          replace H : ((frame_Scan.f k y186).bind fun bt190 => ((frame_Scan.f k ([] : List Int)).bind fun bt195 => (if t176 = 2 then (if (t175.length : Int) = 0 then (if t183 = 0 then (if (bt190.1.length : Int) = 0 then (if bt190.2.1 = 0 then (if bt190.2.2 = true then (some false) else (if (bt195.1.length : Int) = 0 then (if bt195.2.1 = 0 then (some bt195.2.2) else (some false)) else (some false))) else (some false)) else (some false)) else (some false)) else (some false)) else (some false)))) = some r := by first | (rw [hy186]; with_reducible exact H) | (have H2_ := (Option.bind_some _ _).symm.trans H; rw [hy186]; with_reducible exact H2_) | (have H2_ := (Option.bind_some _ _).symm.trans H; with_reducible exact H2_) | with_reducible exact H | (rw [hy186]; exact H) | exact H
          have Ny186 := Aside0.mk hy186
          clear hy186
          replace H := Option.bind_eq_some_iff.mp H
          obtain ⟨⟨t190, t191, t192⟩, A80, H⟩ := H
          replace H : ((frame_Scan.f k ([] : List Int)).bind fun bt195 => (if t176 = 2 then (if (t175.length : Int) = 0 then (if t183 = 0 then (if (t190.length : Int) = 0 then (if t191 = 0 then (if t192 = true then (some false) else (if (bt195.1.length : Int) = 0 then (if bt195.2.1 = 0 then (some bt195.2.2) else (some false)) else (some false))) else (some false)) else (some false)) else (some false)) else (some false)) else (some false))) = some r := H
          have A8 := Aside0.mk A80
          clear A80
          replace H := Option.bind_eq_some_iff.mp H
          obtain ⟨⟨t195, t196, t197⟩, A90, H⟩ := H
          replace H : (if t176 = 2 then (if (t175.length : Int) = 0 then (if t183 = 0 then (if (t190.length : Int) = 0 then (if t191 = 0 then (if t192 = true then (some false) else (if (t195.length : Int) = 0 then (if t196 = 0 then (some t197) else (some false)) else (some false))) else (some false)) else (some false)) else (some false)) else (some false)) else (some false)) = some r := H
          have A9 := Aside0.mk A90
          clear A90
          by_cases c10 : t176 = 2
          · rw [if_pos c10] at H
            have c10b0 : (t176 == 2) = true := beq_iff_eq.mpr c10
            have c10b1 : (t176 != 2) = false := bne_eq_false_iff_eq.mpr c10
            clear c10
            by_cases c11 : (t175.length : Int) = 0
            · rw [if_pos c11] at H
              have c11b0 : ((t175.length : Int) == 0) = true := beq_iff_eq.mpr c11
              have c11b1 : ((t175.length : Int) != 0) = false := bne_eq_false_iff_eq.mpr c11
              clear c11
              by_cases c12 : t183 = 0
              · rw [if_pos c12] at H
                have c12b0 : (t183 == 0) = true := beq_iff_eq.mpr c12
                have c12b1 : (t183 != 0) = false := bne_eq_false_iff_eq.mpr c12
                clear c12
                by_cases c13 : (t190.length : Int) = 0
                · rw [if_pos c13] at H
                  have c13b0 : ((t190.length : Int) == 0) = true := beq_iff_eq.mpr c13
                  have c13b1 : ((t190.length : Int) != 0) = false := bne_eq_false_iff_eq.mpr c13
                  clear c13
                  by_cases c14 : t191 = 0
                  · rw [if_pos c14] at H
                    have c14b0 : (t191 == 0) = true := beq_iff_eq.mpr c14
                    have c14b1 : (t191 != 0) = false := bne_eq_false_iff_eq.mpr c14
                    clear c14
                    by_cases c15 : t192 = true
                    · subst c15
                      have H1 : (some false) = some r := by rw [if_pos rfl] at H; exact H
                      clear H
                      have H := H1
                      clear H1
                      cases (Option.some.inj H).trans hlaw_.out
                    · replace c15 := Bool.eq_false_iff.mpr c15
                      subst c15
                      have H1 : (if (t195.length : Int) = 0 then (if t196 = 0 then (some t197) else (some false)) else (some false)) = some r := by rw [if_neg (show ¬ (false = true) by decide)] at H; exact H
                      clear H
                      have H := H1
                      clear H1
                      by_cases c16 : (t195.length : Int) = 0
                      · rw [if_pos c16] at H
                        have c16b0 : ((t195.length : Int) == 0) = true := beq_iff_eq.mpr c16
                        have c16b1 : ((t195.length : Int) != 0) = false := bne_eq_false_iff_eq.mpr c16
                        clear c16
                        by_cases c17 : t196 = 0
                        · rw [if_pos c17] at H
                          have c17b0 : (t196 == 0) = true := beq_iff_eq.mpr c17
                          have c17b1 : (t196 != 0) = false := bne_eq_false_iff_eq.mpr c17
                          clear c17
                          obtain rfl := Option.some.inj H
                          go_enter Try.func3, Try.ntmps3
                          go_wp2_with (first | ((with_reducible refine gate_callee (f := 7) rfl ?_); refine goesL_ (some 11) rfl rfl Try.func7 (by kernel_rfl) rfl #[] rfl (by (try simp only [List.map_toArray, List.map_cons, List.map_nil]); first | done | rfl | (simp only [List.length_drop, List.length_take]; rfl)) ?_; (with_reducible refine (hourglasslaw3_awake.calls k  true _ A1.out).mono ?_); rintro e w18 ⟨rfl, hb⟩; refine ⟨_, rfl, ?_⟩; have n0_ := Aside0.mk (below_step (by repeat (first | (with_reducible first | exact HB.out | apply below_alloc | apply pw_below_drewN | apply below_drew1) | exact HB.out)) hb); clear HB; have HB := n0_; clear n0_; (try clear hb); (try clear hb2); (try clear hk); (try clear hi)) | ((with_reducible refine gate_dst (N := 14) rfl ?_); (try (refine gate_guard (by rfl) ?_; dsimp only)); refine Kd.R_make (Kd.int .u8) _ 5 rfl (N := 14) rfl 23 _ _ rfl 8001 rfl rfl Try.underlying23 (.int .u8 0) 1 info5 rfl (by decide) (by omega) 0 (ok := fun _ => True) (okp := fun _ => True) rfl (fun _ hk => hk) trivial (by omega) (by omega) (Below.refl _ _) (Nat.le_refl _) ?_; intro v173 w19 ho20 hb hg_ hnew_; clear hg_ hnew_; (first | rw [← Ny172.out] at ho20 | (simp only [Int.reduceToNat] at ho20; rw [← Ny172.out] at ho20)); have n0_ := Aside0.mk (Kd.R_lower ho20 (below_size (by repeat (first | (with_reducible first | exact HB.out | apply below_alloc | apply pw_below_drewN | apply below_drew1) | exact HB.out)))); have n1_ := Aside0.mk (below_step (by repeat (first | (with_reducible first | exact HB.out | apply below_alloc | apply pw_below_drewN | apply below_drew1) | exact HB.out)) hb); clear HB; have HO174 := n0_; have HB := n1_; clear n0_ n1_; clear hb ho20; obtain ⟨Ao21, co21, eo21⟩ := Kd.R_slice HO174.out; subst eo21) | ((with_reducible refine gate_callee (f := 8) rfl ?_); refine goesL_ (some 15) rfl rfl Try.func8 (by kernel_rfl) rfl #[.slice none 0 0, .slice Ao21 y172.length co21] rfl (by (try simp only [List.map_toArray, List.map_cons, List.map_nil]); first | done | rfl | (simp only [List.length_drop, List.length_take]; rfl)) ?_; (refine (frame_Put.calls k _ _ ([] : List Int) _ _ y172 t175 t176 _ ?side1 ?side2 ?side3 ?side4 A4.out).mono ?_); (case side1 => exact Kd.C_nil _ _); (case side2 => exact Nat.le_refl _); (case side3 => repeat (first | exact (Kd.R_reads' HO174.out).2.2 | (with_reducible refine Kd.C_alloc ?_ _) | (with_reducible refine Kd.C_drewN ?_ _) | (with_reducible refine Kd.C_drew ?_))); (case side4 => exact (Kd.R_reads' HO174.out).2.1); rintro e w22 ⟨v177, rfl, ho0, hb⟩; refine ⟨_, rfl, ?_⟩; have n0_ := Aside0.mk (Kd.R_elder' (by (with_reducible repeat (first | apply Kd.R_alloc | apply Kd.R_drewN | apply Kd.R_drew)); exact HO174.out) (Kd.R_base ho0) hb); have n1_ := Aside0.mk (Kd.R_lower (Kd.R_new' ho0 (Kd.R_lt (by (with_reducible repeat (first | apply Kd.R_alloc | apply Kd.R_drewN | apply Kd.R_drew)); exact HO174.out))) (below_size (by repeat (first | (with_reducible first | exact HB.out | apply below_alloc | apply pw_below_drewN | apply below_drew1) | exact HB.out)))); have n2_ := Aside0.mk (below_step (by repeat (first | (with_reducible first | exact HB.out | apply below_alloc | apply pw_below_drewN | apply below_drew1) | exact HB.out)) hb); clear HO174; clear HB; have HO174 := n0_; have HO178 := n1_; have HB := n2_; clear n0_ n1_ n2_; (try clear hb); (try clear hb2); (try clear hk); (try clear hi); (try clear ho0)) | ((with_reducible refine gate_dst (N := 19) rfl ?_); (try (refine gate_guard (by rfl) ?_; dsimp only)); refine Kd.R_make (Kd.int .u8) _ 5 rfl (N := 19) rfl 23 _ _ rfl 8000 rfl rfl Try.underlying23 (.int .u8 0) 1 info5 rfl (by decide) (by omega) 0 (ok := fun _ => True) (okp := fun _ => True) rfl (fun _ hk => hk) trivial (by omega) (by omega) (Below.refl _ _) (Nat.le_refl _) ?_; intro v180 w23 ho24 hb hg_ hnew_; clear hg_ hnew_; (first | rw [← Ny179.out] at ho24 | (simp only [Int.reduceToNat] at ho24; rw [← Ny179.out] at ho24)); have n0_ := Aside0.mk (Kd.R_elder' (by (with_reducible repeat (first | apply Kd.R_alloc | apply Kd.R_drewN | apply Kd.R_drew)); exact HO174.out) (Kd.R_base ho24) hb); have n1_ := Aside0.mk (Kd.R_elder' (by (with_reducible repeat (first | apply Kd.R_alloc | apply Kd.R_drewN | apply Kd.R_drew)); exact HO178.out) (Kd.R_base ho24) hb); have n2_ := Aside0.mk (Kd.R_lower (Kd.R_new' (Kd.R_new' ho24 (Kd.R_lt (by (with_reducible repeat (first | apply Kd.R_alloc | apply Kd.R_drewN | apply Kd.R_drew)); exact HO174.out))) (Kd.R_lt (by (with_reducible repeat (first | apply Kd.R_alloc | apply Kd.R_drewN | apply Kd.R_drew)); exact HO178.out))) (below_size (by repeat (first | (with_reducible first | exact HB.out | apply below_alloc | apply pw_below_drewN | apply below_drew1) | exact HB.out)))); have n3_ := Aside0.mk (below_step (by repeat (first | (with_reducible first | exact HB.out | apply below_alloc | apply pw_below_drewN | apply below_drew1) | exact HB.out)) hb); clear HO174; clear HO178; clear HB; have HO174 := n0_; have HO178 := n1_; have HO181 := n2_; have HB := n3_; clear n0_ n1_ n2_ n3_; clear hb ho24; obtain ⟨Ao25, co25, eo25⟩ := Kd.R_slice HO181.out; subst eo25) | ((with_reducible refine gate_callee (f := 8) rfl ?_); refine goesL_ (some 20) rfl rfl Try.func8 (by kernel_rfl) rfl #[.slice none 0 0, .slice Ao25 y179.length co25] rfl (by (try simp only [List.map_toArray, List.map_cons, List.map_nil]); first | done | rfl | (simp only [List.length_drop, List.length_take]; rfl)) ?_; (refine (frame_Put.calls k _ _ ([] : List Int) _ _ y179 t182 t183 _ ?side1 ?side2 ?side3 ?side4 A6.out).mono ?_); (case side1 => exact Kd.C_nil _ _); (case side2 => exact Nat.le_refl _); (case side3 => repeat (first | exact (Kd.R_reads' HO181.out).2.2 | (with_reducible refine Kd.C_alloc ?_ _) | (with_reducible refine Kd.C_drewN ?_ _) | (with_reducible refine Kd.C_drew ?_))); (case side4 => exact (Kd.R_reads' HO181.out).2.1); rintro e w26 ⟨v184, rfl, ho0, hb⟩; refine ⟨_, rfl, ?_⟩; have n0_ := Aside0.mk (Kd.R_elder' (by (with_reducible repeat (first | apply Kd.R_alloc | apply Kd.R_drewN | apply Kd.R_drew)); exact HO174.out) (Kd.R_base ho0) hb); have n1_ := Aside0.mk (Kd.R_elder' (by (with_reducible repeat (first | apply Kd.R_alloc | apply Kd.R_drewN | apply Kd.R_drew)); exact HO178.out) (Kd.R_base ho0) hb); have n2_ := Aside0.mk (Kd.R_elder' (by (with_reducible repeat (first | apply Kd.R_alloc | apply Kd.R_drewN | apply Kd.R_drew)); exact HO181.out) (Kd.R_base ho0) hb); have n3_ := Aside0.mk (Kd.R_lower (Kd.R_new' (Kd.R_new' (Kd.R_new' ho0 (Kd.R_lt (by (with_reducible repeat (first | apply Kd.R_alloc | apply Kd.R_drewN | apply Kd.R_drew)); exact HO174.out))) (Kd.R_lt (by (with_reducible repeat (first | apply Kd.R_alloc | apply Kd.R_drewN | apply Kd.R_drew)); exact HO178.out))) (Kd.R_lt (by (with_reducible repeat (first | apply Kd.R_alloc | apply Kd.R_drewN | apply Kd.R_drew)); exact HO181.out))) (below_size (by repeat (first | (with_reducible first | exact HB.out | apply below_alloc | apply pw_below_drewN | apply below_drew1) | exact HB.out)))); have n4_ := Aside0.mk (below_step (by repeat (first | (with_reducible first | exact HB.out | apply below_alloc | apply pw_below_drewN | apply below_drew1) | exact HB.out)) hb); clear HO174; clear HO178; clear HO181; clear HB; have HO174 := n0_; have HO178 := n1_; have HO181 := n2_; have HO185 := n3_; have HB := n4_; clear n0_ n1_ n2_ n3_ n4_; (try clear hb); (try clear hb2); (try clear hk); (try clear hi); (try clear ho0); obtain ⟨Ao28, co28, eo28⟩ := Kd.R_slice HO185.out; subst eo28; have q27 : (8011 : Int) ≤ ((t182.length : Int) : Int) := of_decide_eq_true (by first | (with_reducible assumption) | assumption); obtain ⟨i027, hi027, _, hsz27, _⟩ := info_parts info5; have hroom27 : t182.length ≤ co28 := (Kd.R_reads' HO185.out).2.1; have hC27 : Kd.C (Kd.int .u8) _ Ao28 t182.length t182 := (Kd.R_reads' HO185.out).2.2; have hcut27 := cut_to (P := Try.prog) 23 5 .i64 Try.underlying23 hi027 Ao28 t182.length co28 8011 (by omega) q27 hroom27; have hr27 := Kd.C_take (m := 8011) hC27 (by omega); have hy27 : y186.length = (8011 : Int).toNat := (by rw [Ny186.out, List.length_take]; omega); rw [← Ny186.out] at hr27; rw [← hy27] at hcut27; have HR189 := Aside0.mk hr27; have HC189 := Aside0.mk (show y186.length ≤ co28 from by omega); clear hr27 hC27 hroom27 hi027 hsz27; have KY27 := Aside0.mk hy27; clear hy27; have KL27 := Aside0.mk (show 8011 ≤ t182.length from by omega); replace q27 := eq_true q27) | ((with_reducible refine gate_callee (f := 9) rfl ?_); refine goesL_ (some 26) rfl rfl Try.func9 (by kernel_rfl) rfl #[.slice Ao28 y186.length co28] rfl (by (try simp only [List.map_toArray, List.map_cons, List.map_nil]); first | done | rfl | (simp only [List.length_drop, List.length_take]; rfl)) ?_; (with_reducible refine (frame_Scan.calls k _ _ y186 t190 t191 false _ ?side1 ?side2 A8.out).mono ?_); (case side1 => repeat (first | exact (by repeat (first | (with_reducible exact HR189.out) | (with_reducible refine Kd.C_alloc ?_ _) | (with_reducible refine Kd.C_drewN ?_ _) | (with_reducible refine Kd.C_drew ?_) | exact HR189.out)) | (with_reducible refine Kd.C_alloc ?_ _) | (with_reducible refine Kd.C_drewN ?_ _) | (with_reducible refine Kd.C_drew ?_))); (case side2 => exact HC189.out); rintro e w29 ⟨v193, rfl, ho0, hb⟩; refine ⟨_, rfl, ?_⟩; have n0_ := Aside0.mk (Kd.R_below (by (with_reducible repeat (first | apply Kd.R_alloc | apply Kd.R_drewN | apply Kd.R_drew)); exact HO174.out) hb); have n1_ := Aside0.mk (Kd.R_below (by (with_reducible repeat (first | apply Kd.R_alloc | apply Kd.R_drewN | apply Kd.R_drew)); exact HO178.out) hb); have n2_ := Aside0.mk (Kd.R_below (by (with_reducible repeat (first | apply Kd.R_alloc | apply Kd.R_drewN | apply Kd.R_drew)); exact HO181.out) hb); have n3_ := Aside0.mk (Kd.R_below (by (with_reducible repeat (first | apply Kd.R_alloc | apply Kd.R_drewN | apply Kd.R_drew)); exact HO185.out) hb); have n4_ := Aside0.mk (Kd.S_lower (Kd.S_new' (Kd.S_new' (Kd.S_new' (Kd.S_new' ho0 (Kd.R_lt (by (with_reducible repeat (first | apply Kd.R_alloc | apply Kd.R_drewN | apply Kd.R_drew)); exact HO174.out))) (Kd.R_lt (by (with_reducible repeat (first | apply Kd.R_alloc | apply Kd.R_drewN | apply Kd.R_drew)); exact HO178.out))) (Kd.R_lt (by (with_reducible repeat (first | apply Kd.R_alloc | apply Kd.R_drewN | apply Kd.R_drew)); exact HO181.out))) (Kd.R_lt (by (with_reducible repeat (first | apply Kd.R_alloc | apply Kd.R_drewN | apply Kd.R_drew)); exact HO185.out))) (below_size (by repeat (first | (with_reducible first | exact HB.out | apply below_alloc | apply pw_below_drewN | apply below_drew1) | exact HB.out)))); have n5_ := Aside0.mk (Kd.C_below (by repeat (first | (with_reducible exact HR189.out) | (with_reducible refine Kd.C_alloc ?_ _) | (with_reducible refine Kd.C_drewN ?_ _) | (with_reducible refine Kd.C_drew ?_) | exact HR189.out)) hb); have n6_ := Aside0.mk (below_step (by repeat (first | (with_reducible first | exact HB.out | apply below_alloc | apply pw_below_drewN | apply below_drew1) | exact HB.out)) hb); clear HO174; clear HO178; clear HO181; clear HO185; clear HR189; clear HB; have HO174 := n0_; have HO178 := n1_; have HO181 := n2_; have HO185 := n3_; have HO194 := n4_; have HR189 := n5_; have HB := n6_; clear n0_ n1_ n2_ n3_ n4_ n5_ n6_; (try clear hb); (try clear hb2); (try clear hk); (try clear hi); (try clear ho0)) | ((with_reducible refine gate_callee (f := 9) rfl ?_); refine goesL_ (some 31) rfl rfl Try.func9 (by kernel_rfl) rfl #[.slice none 0 0] rfl (by (try simp only [List.map_toArray, List.map_cons, List.map_nil]); first | done | rfl | (simp only [List.length_drop, List.length_take]; rfl)) ?_; (refine (frame_Scan.calls k _ _ ([] : List Int) t195 t196 t197 _ ?side1 ?side2 A9.out).mono ?_); (case side1 => exact Kd.C_nil _ _); (case side2 => exact Nat.le_refl _); rintro e w30 ⟨v198, rfl, ho0, hb⟩; refine ⟨_, rfl, ?_⟩; have n0_ := Aside0.mk (Kd.R_below (by (with_reducible repeat (first | apply Kd.R_alloc | apply Kd.R_drewN | apply Kd.R_drew)); exact HO174.out) hb); have n1_ := Aside0.mk (Kd.R_below (by (with_reducible repeat (first | apply Kd.R_alloc | apply Kd.R_drewN | apply Kd.R_drew)); exact HO178.out) hb); have n2_ := Aside0.mk (Kd.R_below (by (with_reducible repeat (first | apply Kd.R_alloc | apply Kd.R_drewN | apply Kd.R_drew)); exact HO181.out) hb); have n3_ := Aside0.mk (Kd.R_below (by (with_reducible repeat (first | apply Kd.R_alloc | apply Kd.R_drewN | apply Kd.R_drew)); exact HO185.out) hb); have n4_ := Aside0.mk (Kd.S_elder' (by (with_reducible repeat (first | apply Kd.S_alloc | apply Kd.S_drewN | apply Kd.S_drew)); exact HO194.out) (Kd.S_base ho0) hb); have n5_ := Aside0.mk (Kd.S_lower (Kd.S_new' (Kd.S_new' (Kd.S_new' (Kd.S_new' (Kd.S_new' ho0 (Kd.R_lt (by (with_reducible repeat (first | apply Kd.R_alloc | apply Kd.R_drewN | apply Kd.R_drew)); exact HO174.out))) (Kd.R_lt (by (with_reducible repeat (first | apply Kd.R_alloc | apply Kd.R_drewN | apply Kd.R_drew)); exact HO178.out))) (Kd.R_lt (by (with_reducible repeat (first | apply Kd.R_alloc | apply Kd.R_drewN | apply Kd.R_drew)); exact HO181.out))) (Kd.R_lt (by (with_reducible repeat (first | apply Kd.R_alloc | apply Kd.R_drewN | apply Kd.R_drew)); exact HO185.out))) (Kd.S_lt (by (with_reducible repeat (first | apply Kd.S_alloc | apply Kd.S_drewN | apply Kd.S_drew)); exact HO194.out))) (below_size (by repeat (first | (with_reducible first | exact HB.out | apply below_alloc | apply pw_below_drewN | apply below_drew1) | exact HB.out)))); have n6_ := Aside0.mk (Kd.C_below (by repeat (first | (with_reducible exact HR189.out) | (with_reducible refine Kd.C_alloc ?_ _) | (with_reducible refine Kd.C_drewN ?_ _) | (with_reducible refine Kd.C_drew ?_) | exact HR189.out)) hb); have n7_ := Aside0.mk (below_step (by repeat (first | (with_reducible first | exact HB.out | apply below_alloc | apply pw_below_drewN | apply below_drew1) | exact HB.out)) hb); clear HO174; clear HO178; clear HO181; clear HO185; clear HO194; clear HR189; clear HB; have HO174 := n0_; have HO178 := n1_; have HO181 := n2_; have HO185 := n3_; have HO194 := n4_; have HO199 := n5_; have HR189 := n6_; have HB := n7_; clear n0_ n1_ n2_ n3_ n4_ n5_ n6_ n7_; (try clear hb); (try clear hb2); (try clear hk); (try clear hi); (try clear ho0); obtain ⟨Ao31, co31, eo31⟩ := Kd.R_slice HO178.out; subst eo31; obtain ⟨Ao32, co32, eo32⟩ := Kd.S_slice HO194.out; subst eo32; obtain ⟨Ao33, co33, eo33⟩ := Kd.S_slice HO199.out; subst eo33))
                          go_ret
                          exact ⟨by first | rfl | (simp [errW_none, errW_some] <;> rfl) | (simp [*, errW_none, errW_some] <;> rfl), by repeat (first | (with_reducible first | exact HB.out | apply below_alloc | apply pw_below_drewN | apply below_drew1) | exact HB.out)⟩
                        · rw [if_neg c17] at H
                          have c17b0 : (t196 == 0) = false := beq_eq_false_iff_ne.mpr c17
                          have c17b1 : (t196 != 0) = true := bne_iff_ne.mpr c17
                          cases (Option.some.inj H).trans hlaw_.out
                      · rw [if_neg c16] at H
                        have c16b0 : ((t195.length : Int) == 0) = false := beq_eq_false_iff_ne.mpr c16
                        have c16b1 : ((t195.length : Int) != 0) = true := bne_iff_ne.mpr c16
                        have c16b2 : ¬ (t195 = []) := fun h_ => c16 (by rw [h_]; rfl)
                        cases (Option.some.inj H).trans hlaw_.out
                  · rw [if_neg c14] at H
                    have c14b0 : (t191 == 0) = false := beq_eq_false_iff_ne.mpr c14
                    have c14b1 : (t191 != 0) = true := bne_iff_ne.mpr c14
                    cases (Option.some.inj H).trans hlaw_.out
                · rw [if_neg c13] at H
                  have c13b0 : ((t190.length : Int) == 0) = false := beq_eq_false_iff_ne.mpr c13
                  have c13b1 : ((t190.length : Int) != 0) = true := bne_iff_ne.mpr c13
                  have c13b2 : ¬ (t190 = []) := fun h_ => c13 (by rw [h_]; rfl)
                  cases (Option.some.inj H).trans hlaw_.out
              · rw [if_neg c12] at H
                have c12b0 : (t183 == 0) = false := beq_eq_false_iff_ne.mpr c12
                have c12b1 : (t183 != 0) = true := bne_iff_ne.mpr c12
                cases (Option.some.inj H).trans hlaw_.out
            · rw [if_neg c11] at H
              have c11b0 : ((t175.length : Int) == 0) = false := beq_eq_false_iff_ne.mpr c11
              have c11b1 : ((t175.length : Int) != 0) = true := bne_iff_ne.mpr c11
              have c11b2 : ¬ (t175 = []) := fun h_ => c11 (by rw [h_]; rfl)
              cases (Option.some.inj H).trans hlaw_.out
          · rw [if_neg c10] at H
            have c10b0 : (t176 == 2) = false := beq_eq_false_iff_ne.mpr c10
            have c10b1 : (t176 != 2) = true := bne_iff_ne.mpr c10
            cases (Option.some.inj H).trans hlaw_.out
        · rw [if_neg c7] at H
          exact absurd H (by simp)
      · rw [if_neg c5] at H
        exact absurd H (by simp)
    · rw [if_neg c3] at H
      exact absurd H (by simp)
  · replace c2 := Bool.eq_false_iff.mpr c2
    subst c2
    have H1 : (some false) = some r := by rw [if_neg (show ¬ (false = true) by decide)] at H; exact H
    clear H
    have H := H1
    clear H1
    cases (Option.some.inj H).trans hlaw_.out

/-- THE ONE PURE STATEMENT of hourglasslaw3_FrameKnown: yours. -/
def hourglasslaw3_FrameKnown.Pure : Prop := ∃ k, hourglasslaw3_FrameKnown.f k  = some true
theorem hourglasslaw3_FrameKnown.walk (P : hourglasslaw3_FrameKnown.Pure)  (w : World)  :
    Calls Try.prog 3 #[] w fun e w' => e = .returned (.bool true) ∧ Below w.heap.size w w' := by
  obtain ⟨k, h⟩ := P  
  refine (hourglasslaw3_FrameKnown.calls k  true w h (Aside0.mk rfl)).mono ?_
  rintro e w' ⟨rfl, hd⟩
  exact ⟨rfl, hd⟩

/-! ### hourglassref1_w32: function 17 -/
def hourglassref1_w32.f (l0 : List Int) (a1 : Int) : Option (List Int) := (some (([] : List Int) : List Int)).bind fun y200 => (if y200.length + l0.length < 140737488355328 then ((some (y200 ++ l0 : List Int)).bind fun y203 => ((some (([(a1) % 256, (a1 / 256) % 256, (a1 / 65536) % 256, (a1 / 16777216) % 256] : List Int) : List Int)).bind fun y206 => (if y203.length + y206.length < 140737488355328 then (some (y203 ++ y206)) else (none)))) else (none))
set_option maxHeartbeats 8000000 in
set_option maxRecDepth 100000 in
theorem hourglassref1_w32.calls (A0 : Option Addr) (c0 : Nat) (l0 : List Int) (a1 : Int) (r : List Int) (w : World) (hr0 : Kd.C (Kd.int .u8) w A0 l0.length l0) (hc0 : l0.length ≤ c0) (h : hourglassref1_w32.f l0 a1 = some r) :
    Calls Try.prog 17 #[.slice A0 l0.length c0, .int .u32 a1] w fun e w' => ∃ v0_ : Value, e = .returned (v0_) ∧ Kd.R (Kd.int .u8) 5 w' w.heap.size (fun _ => True) v0_ r ∧ Below w.heap.size w w' := by
  have HR0 := Aside0.mk hr0
  have HC0 := Aside0.mk hc0
  clear hr0 hc0
  have HB := Aside0.mk (Below.refl w.heap.size w)
  have H : ((some (([] : List Int) : List Int)).bind fun y200 => (if y200.length + l0.length < 140737488355328 then ((some (y200 ++ l0 : List Int)).bind fun y203 => ((some (([(a1) % 256, (a1 / 256) % 256, (a1 / 65536) % 256, (a1 / 16777216) % 256] : List Int) : List Int)).bind fun y206 => (if y203.length + y206.length < 140737488355328 then (some (y203 ++ y206)) else (none)))) else (none))) = some r := h
  clear h
  obtain ⟨y200, hy200⟩ : ∃ y_ : List Int, y_ = (([] : List Int)) := ⟨_, rfl⟩
  replace H : (if y200.length + l0.length < 140737488355328 then ((some (y200 ++ l0 : List Int)).bind fun y203 => ((some (([(a1) % 256, (a1 / 256) % 256, (a1 / 65536) % 256, (a1 / 16777216) % 256] : List Int) : List Int)).bind fun y206 => (if y203.length + y206.length < 140737488355328 then (some (y203 ++ y206)) else (none)))) else (none)) = some r := by first | (rw [hy200]; with_reducible exact H) | (have H2_ := (Option.bind_some _ _).symm.trans H; rw [hy200]; with_reducible exact H2_) | (have H2_ := (Option.bind_some _ _).symm.trans H; with_reducible exact H2_) | with_reducible exact H | (rw [hy200]; exact H) | exact H
  have Ny200 := Aside0.mk hy200
  clear hy200
  by_cases c3 : y200.length + l0.length < 140737488355328
  · rw [if_pos c3] at H
    have LMc3 := Aside0.mk c3
    clear c3
    obtain ⟨y203, hy203⟩ : ∃ y_ : List Int, y_ = (y200 ++ l0) := ⟨_, rfl⟩
    replace H : ((some (([(a1) % 256, (a1 / 256) % 256, (a1 / 65536) % 256, (a1 / 16777216) % 256] : List Int) : List Int)).bind fun y206 => (if y203.length + y206.length < 140737488355328 then (some (y203 ++ y206)) else (none))) = some r := by first | (rw [hy203]; with_reducible exact H) | (have H2_ := (Option.bind_some _ _).symm.trans H; rw [hy203]; with_reducible exact H2_) | (have H2_ := (Option.bind_some _ _).symm.trans H; with_reducible exact H2_) | with_reducible exact H | (rw [hy203]; exact H) | exact H
    have Ny203 := Aside0.mk hy203
    clear hy203
    obtain ⟨y206, hy206⟩ : ∃ y_ : List Int, y_ = (([(a1) % 256, (a1 / 256) % 256, (a1 / 65536) % 256, (a1 / 16777216) % 256] : List Int)) := ⟨_, rfl⟩
    replace H : (if y203.length + y206.length < 140737488355328 then (some (y203 ++ y206)) else (none)) = some r := by first | (rw [hy206]; with_reducible exact H) | (have H2_ := (Option.bind_some _ _).symm.trans H; rw [hy206]; with_reducible exact H2_) | (have H2_ := (Option.bind_some _ _).symm.trans H; with_reducible exact H2_) | with_reducible exact H | (rw [hy206]; exact H) | exact H
    have Ny206 := Aside0.mk hy206
    clear hy206
    by_cases c4 : y203.length + y206.length < 140737488355328
    · rw [if_pos c4] at H
      have LMc4 := Aside0.mk c4
      clear c4
      obtain ⟨y209, hy209⟩ : ∃ y_ : List Int, y_ = (y203 ++ y206) := ⟨_, rfl⟩
      replace H : (some y209) = some r := by first | (rw [hy209]; with_reducible exact H) | (have H2_ := (Option.bind_some _ _).symm.trans H; rw [hy209]; with_reducible exact H2_) | (have H2_ := (Option.bind_some _ _).symm.trans H; with_reducible exact H2_) | with_reducible exact H | (rw [hy209]; exact H) | exact H
      have Ny209 := Aside0.mk hy209
      clear hy209
      obtain rfl := Option.some.inj H
      go_enter Try.func17, Try.ntmps17
      go_wp2_with (first | ((with_reducible refine gate_dst (N := 5) rfl ?_); refine Kd.R_lit (Kd.int .u8) _ 5 ?hg (N := 5) ?hd (xs := ([] : List Int)) (inner := []) (ok := fun _ => True) (okp := fun _ => True) ?hr ?hp (fun _ hk => hk) trivial (Below.refl _ _) (Nat.le_refl _) (by simp) ?_; (case hd => rfl); (case hg => rfl); (case hr => first | (go_simp; done) | (go_simp; rfl)); (case hp => exact (Reps.none _ _)); intro v201 w5 ho6 hb hg_ hnew_; clear hg_ hnew_; (first | rw [← Ny200.out] at ho6 | (simp only [Int.reduceToNat] at ho6; rw [← Ny200.out] at ho6)); have n0_ := Aside0.mk (Kd.R_lower ho6 (below_size (by repeat (first | (with_reducible first | exact HB.out | apply below_alloc | apply pw_below_drewN | apply below_drew1) | exact HB.out)))); have n1_ := Aside0.mk (below_step (by repeat (first | (with_reducible first | exact HB.out | apply below_alloc | apply pw_below_drewN | apply below_drew1) | exact HB.out)) hb); clear HB; have HO202 := n0_; have HB := n1_; clear n0_ n1_; clear hb ho6) | ((with_reducible refine gate_builtin (b := .append) (xs := #[.tmp 5, .tmp 6]) rfl ?_); at_builtin; refine Kd.R_append_rows (Kd.int .u8) (w0 := w) w.heap.size rfl (.tmp 5) (.tmp 6) 23 5 (.int .u8 0) 1 rfl Try.underlying23 info5 rfl (by decide) (by omega) v201 y200 l0 _ _ _ (fun _ => True) (fun _ => False) rfl rfl ?aO ?aR (fun _ _ h => h) (fun _ h => h.elim) ?aF ?aB ?aS ?aL ?_; (case aR => repeat (first | exact (Kd.C_below HR0.out HB.out) | (with_reducible refine Kd.C_alloc ?_ _) | (with_reducible refine Kd.C_drewN ?_ _) | (with_reducible refine Kd.C_drew ?_))); (case aB => exact (by repeat (first | (with_reducible first | exact HB.out | apply below_alloc | apply pw_below_drewN | apply below_drew1) | exact HB.out))); (case aF => exact (fun _ _ => trivial)); (case aO => exact (by (with_reducible repeat (first | apply Kd.R_alloc | apply Kd.R_drewN | apply Kd.R_drew)); exact HO202.out)); (case aS => exact (below_size (by repeat (first | (with_reducible first | exact HB.out | apply below_alloc | apply pw_below_drewN | apply below_drew1) | exact HB.out)))); (case aL => have := LMc3.out; omega); intro v204 w7 ho hb hg hat; rw [← Ny203.out] at ho; have n0_ := Aside0.mk (hb); have n1_ := Aside0.mk (ho); clear HB; clear HO202; have HB := n0_; have HO205 := n1_; clear n0_ n1_; clear ho hb hg hat) | ((with_reducible refine gate_dst (N := 19) rfl ?_); refine Kd.R_lit (Kd.int .u8) _ 5 ?hg (N := 19) ?hd (xs := ([(a1) % 256, (a1 / 256) % 256, (a1 / 65536) % 256, (a1 / 16777216) % 256] : List Int)) (inner := [.int .u8 ((a1) % 256), .int .u8 ((a1 / 256) % 256), .int .u8 ((a1 / 65536) % 256), .int .u8 ((a1 / 16777216) % 256)]) (ok := fun _ => True) (okp := fun _ => True) ?hr ?hp (fun _ hk => hk) trivial (Below.refl _ _) (Nat.le_refl _) (by simp) ?_; (case hd => rfl); (case hg => rfl); (case hr => first | (go_simp; done) | (go_simp; rfl)); (case hp => exact (Reps.one (show Kd.M (Kd.int .u8) _ _ _ ((a1) % 256) [.int .u8 ((a1) % 256)] from rfl) (Reps.one (show Kd.M (Kd.int .u8) _ _ _ ((a1 / 256) % 256) [.int .u8 ((a1 / 256) % 256)] from rfl) (Reps.one (show Kd.M (Kd.int .u8) _ _ _ ((a1 / 65536) % 256) [.int .u8 ((a1 / 65536) % 256)] from rfl) (Reps.one (show Kd.M (Kd.int .u8) _ _ _ ((a1 / 16777216) % 256) [.int .u8 ((a1 / 16777216) % 256)] from rfl) (Reps.none _ _)))))); intro v207 w8 ho9 hb hg_ hnew_; clear hg_ hnew_; (first | rw [← Ny206.out] at ho9 | (simp only [Int.reduceToNat] at ho9; rw [← Ny206.out] at ho9)); have n0_ := Aside0.mk (Kd.R_elder' (by (with_reducible repeat (first | apply Kd.R_alloc | apply Kd.R_drewN | apply Kd.R_drew)); exact HO205.out) (Kd.R_base ho9) hb); have n1_ := Aside0.mk (Kd.R_lower (Kd.R_new' ho9 (Kd.R_lt (by (with_reducible repeat (first | apply Kd.R_alloc | apply Kd.R_drewN | apply Kd.R_drew)); exact HO205.out))) (below_size (by repeat (first | (with_reducible first | exact HB.out | apply below_alloc | apply pw_below_drewN | apply below_drew1) | exact HB.out)))); have n2_ := Aside0.mk (below_step (by repeat (first | (with_reducible first | exact HB.out | apply below_alloc | apply pw_below_drewN | apply below_drew1) | exact HB.out)) hb); clear HO205; clear HB; have HO205 := n0_; have HO208 := n1_; have HB := n2_; clear n0_ n1_ n2_; clear hb ho9; obtain ⟨Ao11, co11, eo11⟩ := Kd.R_slice HO208.out; subst eo11) | ((with_reducible refine gate_builtin (b := .append) (xs := #[.tmp 7, .tmp 19]) rfl ?_); at_builtin; refine Kd.R_append_rows (Kd.int .u8) (w0 := w) w.heap.size rfl (.tmp 7) (.tmp 19) 23 5 (.int .u8 0) 1 rfl Try.underlying23 info5 rfl (by decide) (by omega) v204 y203 y206 _ _ _ (fun k_ => some k_ ≠ (.slice Ao11 y206.length co11 : Value).ownBlock) (fun _ => False) rfl rfl ?aO ?aR (fun _ _ h => h) (fun _ h => h.elim) ?aF ?aB ?aS ?aL ?_; (case aR => repeat (first | exact (Kd.R_reads' HO208.out).2.2 | (with_reducible refine Kd.C_alloc ?_ _) | (with_reducible refine Kd.C_drewN ?_ _) | (with_reducible refine Kd.C_drew ?_))); (case aB => exact (by repeat (first | (with_reducible first | exact HB.out | apply below_alloc | apply pw_below_drewN | apply below_drew1) | exact HB.out))); (case aF => exact (fun k_ hk => Kd.fresh' (Kd.R_lt (by (with_reducible repeat (first | apply Kd.R_alloc | apply Kd.R_drewN | apply Kd.R_drew)); exact HO208.out)) k_ hk)); (case aO => exact (by (with_reducible repeat (first | apply Kd.R_alloc | apply Kd.R_drewN | apply Kd.R_drew)); exact Kd.R_mono HO205.out (fun _ hk => hk.2))); (case aS => exact (below_size (by repeat (first | (with_reducible first | exact HB.out | apply below_alloc | apply pw_below_drewN | apply below_drew1) | exact HB.out)))); (case aL => have := LMc4.out; omega); intro v210 w10 ho hb hg hat; rw [← Ny209.out] at ho; have n0_ := Aside0.mk (Kd.R_after (ok := (fun _ => True)) (by (with_reducible repeat (first | apply Kd.R_alloc | apply Kd.R_drewN | apply Kd.R_drew)); exact HO208.out) hg hat); have n1_ := Aside0.mk (hb); have n2_ := Aside0.mk (ho); clear HO208; clear HB; clear HO205; have HO208 := n0_; have HB := n1_; have HO211 := n2_; clear n0_ n1_ n2_; clear ho hb hg hat))
      go_ret
      exact ⟨_, by first | rfl | (simp [errW_none, errW_some] <;> rfl) | (simp [*, errW_none, errW_some] <;> rfl), by (with_reducible repeat (first | apply Kd.R_alloc | apply Kd.R_drewN | apply Kd.R_drew)); exact Kd.R_mono HO211.out (fun _ hk => trivial), by repeat (first | (with_reducible first | exact HB.out | apply below_alloc | apply pw_below_drewN | apply below_drew1) | exact HB.out)⟩
    · rw [if_neg c4] at H
      exact absurd H (by simp)
  · rw [if_neg c3] at H
    exact absurd H (by simp)

end Go.Proofs.Ytacbaiflblngfaa.QFrame
