/- What the Go functions compute: each as a Lean function, with the proof that its call answers so; written by a program of this session over the kit's print. Conditions: each theorem's own. -/
import Derived.Test.YtbgdpkpljkcnfaaDoorQCivilx0
import Derived.Test.YtbgdpkpljkcnfaaDoorQCivilx3
import Derived.Test.YtbgdpkpljkcnfaaDoorQCivilx5
namespace Go.Proofs.YtbgdpkpljkcnfaaDoor.QCivil
open Go.RowKit Go.Proofs.YtbgdpkpljkcnfaaDoorW.PrintWords Go.Proofs.YtbgdpkpljkcnfaaDoorW.PrintLast Go.Proofs.YtbgdpkpljkcnfaaDoorW.PrintMore
attribute [local go_sem] max2_int min2_int max_two min_two max_three min_three max_four min_four   -- for this text's walks alone
set_option linter.unusedVariables false
set_option linter.unusedSimpArgs false

/-! ### hourglasslaw4_CivilMonths: function 7 -/
def hourglasslaw4_CivilMonths.j0 : Nat → Int → Int → Bool → Option (Bool)
  | 0, _, _, _ => none
  | k + 1, x0, x1, x29 => if x29 = true then (some true) else ((civil_Length.f k x0 x1).bind fun t262 => ((civil_Days.f k x0 x1 1).bind fun bt263 => ((civil_Days.f k x0 x1 t262).bind fun bt265 => ((civil_Days.f k x0 x1 (wrap64 (t262 + 1))).bind fun bt267 => ((civil_Days.f k x0 x1 0).bind fun bt269 => (if t262 ≥ 28 then (if t262 ≤ 31 then (if bt263.2 = 0 then (if bt265.2 = 0 then (if (wrap64 (bt265.1 - bt263.1)) = (wrap64 (t262 - 1)) then (if bt267.2 = 1 then (some (bt269.2 == 1)) else (some false)) else (some false)) else (some false)) else (some false)) else (some false)) else (some false)))))))
def hourglasslaw4_CivilMonths.f (k : Nat) (a0 : Int) (a1 : Int) : Option (Bool) := (hourglasslaw4_awake.f k).bind fun t261 => (if t261 = true then (if a0 < (-9999) then (hourglasslaw4_CivilMonths.j0 k a0 a1 true) else (if a0 > 9998 then (hourglasslaw4_CivilMonths.j0 k a0 a1 true) else (if a1 < 1 then (hourglasslaw4_CivilMonths.j0 k a0 a1 true) else (hourglasslaw4_CivilMonths.j0 k a0 a1 (decide (a1 > 12)))))) else (some false))
theorem hourglasslaw4_CivilMonths.mono_l : ∀ k, (∀ y0 y1 y2, LeO (hourglasslaw4_CivilMonths.j0 k y0 y1 y2) (hourglasslaw4_CivilMonths.j0 (k + 1) y0 y1 y2))
  | 0 => fun _ _ _ r h => by simp [hourglasslaw4_CivilMonths.j0] at h
  | k + 1 => by
    have ih0 := hourglasslaw4_CivilMonths.mono_l k
    · intro y0 y1 y2
      unfold hourglasslaw4_CivilMonths.j0
      repeat' first
      | (with_reducible exact ih0 _ _ _)
      | (with_reducible exact civil_Days.mono _ _ _ _)
      | (with_reducible exact civil_Length.mono _ _ _)
      | (with_reducible exact hourglasslaw4_awake.mono _)
      | (with_reducible exact LeO.refl _)
      | (with_reducible exact LeO.none _)
      | (with_reducible refine LeO.ite ?_ ?_)
      | (with_reducible refine LeO.bind ?_ (fun _ => ?_))
      | exact ih0 _ _ _
      | exact civil_Days.mono _ _ _ _
      | exact civil_Length.mono _ _ _
      | exact hourglasslaw4_awake.mono _
      | exact LeO.none _
      | refine LeO.ite ?_ ?_
      | refine LeO.bind ?_ (fun _ => ?_)
theorem hourglasslaw4_CivilMonths.mono : ∀ a0 a1 k, LeO (hourglasslaw4_CivilMonths.f k a0 a1) (hourglasslaw4_CivilMonths.f (k + 1) a0 a1) := by
  intro a0 a1 k
  have ih0 := hourglasslaw4_CivilMonths.mono_l k
  unfold hourglasslaw4_CivilMonths.f
  repeat' first
      | (with_reducible exact ih0 _ _ _)
      | (with_reducible exact civil_Days.mono _ _ _ _)
      | (with_reducible exact civil_Length.mono _ _ _)
      | (with_reducible exact hourglasslaw4_awake.mono _)
      | (with_reducible exact LeO.refl _)
      | (with_reducible exact LeO.none _)
      | (with_reducible refine LeO.ite ?_ ?_)
      | (with_reducible refine LeO.bind ?_ (fun _ => ?_))
      | exact ih0 _ _ _
      | exact civil_Days.mono _ _ _ _
      | exact civil_Length.mono _ _ _
      | exact hourglasslaw4_awake.mono _
      | exact LeO.none _
      | refine LeO.ite ?_ ?_
      | refine LeO.bind ?_ (fun _ => ?_)
set_option maxHeartbeats 8000000 in
set_option maxRecDepth 100000 in
theorem hourglasslaw4_CivilMonths.calls (k : Nat) (a0 : Int) (a1 : Int) (r : Bool) (w : World) (h : hourglasslaw4_CivilMonths.f k a0 a1 = some r) (hlaw_ : Aside0 (r = true)) :
    Calls Tryd.prog 7 #[.int .i64 a0, .int .i64 a1] w fun e w' => e = .returned (.bool r) ∧ Below w.heap.size w w' := by
  have hu23 := Tryd.underlying23
  have HB := Aside0.mk (Below.refl w.heap.size w)
  have H : ((hourglasslaw4_awake.f k).bind fun t261 => (if t261 = true then (if a0 < (-9999) then (hourglasslaw4_CivilMonths.j0 k a0 a1 true) else (if a0 > 9998 then (hourglasslaw4_CivilMonths.j0 k a0 a1 true) else (if a1 < 1 then (hourglasslaw4_CivilMonths.j0 k a0 a1 true) else (hourglasslaw4_CivilMonths.j0 k a0 a1 (decide (a1 > 12)))))) else (some false))) = some r := h
  clear h
  replace H := Option.bind_eq_some_iff.mp H
  obtain ⟨t261, A30, H⟩ := H
  replace H : (if t261 = true then (if a0 < (-9999) then (hourglasslaw4_CivilMonths.j0 k a0 a1 true) else (if a0 > 9998 then (hourglasslaw4_CivilMonths.j0 k a0 a1 true) else (if a1 < 1 then (hourglasslaw4_CivilMonths.j0 k a0 a1 true) else (hourglasslaw4_CivilMonths.j0 k a0 a1 (decide (a1 > 12)))))) else (some false)) = some r := H
  have A3 := Aside0.mk A30
  clear A30
  by_cases c4 : t261 = true
  · subst c4
    have H1 : (if a0 < (-9999) then (hourglasslaw4_CivilMonths.j0 k a0 a1 true) else (if a0 > 9998 then (hourglasslaw4_CivilMonths.j0 k a0 a1 true) else (if a1 < 1 then (hourglasslaw4_CivilMonths.j0 k a0 a1 true) else (hourglasslaw4_CivilMonths.j0 k a0 a1 (decide (a1 > 12)))))) = some r := by rw [if_pos rfl] at H; exact H
    clear H
    have H := H1
    clear H1
    have HC5 := Aside0.mk H
    clear H
    go_enter Tryd.func7, Tryd.ntmps7
    go_upto_region 3 with (first | ((with_reducible refine gate_callee (f := 11) rfl ?_); refine goesL_ (some 14) rfl rfl Tryd.func11 (by kernel_rfl) rfl #[] rfl (by (try simp only [List.map_toArray, List.map_cons, List.map_nil]); first | done | rfl | (simp only [List.length_drop, List.length_take]; rfl)) ?_; (with_reducible refine (hourglasslaw4_awake.calls k  true _ A3.out).mono ?_); rintro e w6 ⟨rfl, hb⟩; refine ⟨_, rfl, ?_⟩; have n0_ := Aside0.mk (below_step (by repeat (first | (with_reducible first | exact HB.out | apply below_alloc | apply pw_below_drewN | apply below_drew1) | exact HB.out)) hb); clear HB; have HB := n0_; clear n0_; (try clear hb); (try clear hb2); (try clear hk); (try clear hi)))
    (try simp only [Act.put, List.setIfInBounds_toArray, List.set_cons_zero, List.set_cons_succ])
    go_cut [29] (fun v29 wc => ∃ (kq : Nat) (x29_4 : Bool), v29 = .bool x29_4 ∧ Aside0 (hourglasslaw4_CivilMonths.j0 kq a0 a1 x29_4 = some r) ∧ Aside0 (kq ≤ k) ∧ Aside0 (Below w.heap.size w wc))
    case first =>
      have H := HC5.out
      clear HC5
      by_cases c7 : a0 < (-9999)
      · rw [if_pos c7] at H
        have c7b0 : decide (a0 < (-9999)) = true := decide_eq_true c7
        clear c7
        (first | rw [c7b0] | (simp only [i64_w, i32_w]; rw [c7b0]) | skip)
        have H' := Aside0.mk H
        clear H
        go_wp2
        go_meet
        case rel => exact ⟨_, (true), (by first | rfl | (simp; done) | (simp [*]; done)), H', ⟨by first | omega | exact Nat.le_refl _⟩, ⟨by repeat (first | (with_reducible first | exact HB.out | apply below_alloc | apply pw_below_drewN | apply below_drew1) | exact HB.out)⟩⟩
      · rw [if_neg c7] at H
        have c7b0 : decide (a0 < (-9999)) = false := decide_eq_false c7
        clear c7
        (first | rw [c7b0] | (simp only [i64_w, i32_w]; rw [c7b0]) | skip)
        by_cases c8 : a0 > 9998
        · rw [if_pos c8] at H
          have c8b0 : decide (9998 < a0) = true := decide_eq_true c8
          clear c8
          have H' := Aside0.mk H
          clear H
          go_wp2
          go_meet
          case rel => exact ⟨_, (true), (by first | rfl | (simp; done) | (simp [*]; done)), H', ⟨by first | omega | exact Nat.le_refl _⟩, ⟨by repeat (first | (with_reducible first | exact HB.out | apply below_alloc | apply pw_below_drewN | apply below_drew1) | exact HB.out)⟩⟩
        · rw [if_neg c8] at H
          have c8b0 : decide (9998 < a0) = false := decide_eq_false c8
          clear c8
          by_cases c9 : a1 < 1
          · rw [if_pos c9] at H
            have c9b0 : decide (a1 < 1) = true := decide_eq_true c9
            clear c9
            have H' := Aside0.mk H
            clear H
            go_wp2
            go_meet
            case rel => exact ⟨_, (true), (by first | rfl | (simp; done) | (simp [*]; done)), H', ⟨by first | omega | exact Nat.le_refl _⟩, ⟨by repeat (first | (with_reducible first | exact HB.out | apply below_alloc | apply pw_below_drewN | apply below_drew1) | exact HB.out)⟩⟩
          · rw [if_neg c9] at H
            have c9b0 : decide (a1 < 1) = false := decide_eq_false c9
            clear c9
            have H' := Aside0.mk H
            clear H
            go_wp2
            go_meet
            case rel => exact ⟨_, (decide (a1 > 12)), (by first | rfl | (simp; done) | (simp [*]; done)), H', ⟨by first | omega | exact Nat.le_refl _⟩, ⟨by repeat (first | (with_reducible first | exact HB.out | apply below_alloc | apply pw_below_drewN | apply below_drew1) | exact HB.out)⟩⟩
    case rest =>
      clear HC5
      try clear c1
      try clear p2
      try clear c4
      try clear c7
      try clear c7b0
      try clear c8
      try clear c8b0
      try clear c9
      try clear c9b0
      obtain ⟨kq, x29_4, rfl, HA, HJ4, HB⟩ := hcut
      cases kq with
      | zero => exact absurd HA.out (by simp [hourglasslaw4_CivilMonths.j0])
      | succ kj4 =>
        have H := HA.out
        clear HA
        simp only [hourglasslaw4_CivilMonths.j0] at H
        by_cases c10 : x29_4 = true
        · subst c10
          have H1 : (some true) = some r := by rw [if_pos rfl] at H; exact H
          clear H
          have H := H1
          clear H1
          obtain rfl := Option.some.inj H
          go_wp2
          go_ret
          exact ⟨by first | rfl | (simp [errW_none, errW_some] <;> rfl) | (simp [*, errW_none, errW_some] <;> rfl), by repeat (first | (with_reducible first | exact HB.out | apply below_alloc | apply pw_below_drewN | apply below_drew1) | exact HB.out)⟩
        · replace c10 := Bool.eq_false_iff.mpr c10
          subst c10
          have H1 : ((civil_Length.f kj4 a0 a1).bind fun t262 => ((civil_Days.f kj4 a0 a1 1).bind fun bt263 => ((civil_Days.f kj4 a0 a1 t262).bind fun bt265 => ((civil_Days.f kj4 a0 a1 (wrap64 (t262 + 1))).bind fun bt267 => ((civil_Days.f kj4 a0 a1 0).bind fun bt269 => (if t262 ≥ 28 then (if t262 ≤ 31 then (if bt263.2 = 0 then (if bt265.2 = 0 then (if (wrap64 (bt265.1 - bt263.1)) = (wrap64 (t262 - 1)) then (if bt267.2 = 1 then (some (bt269.2 == 1)) else (some false)) else (some false)) else (some false)) else (some false)) else (some false)) else (some false))))))) = some r := by rw [if_neg (show ¬ (false = true) by decide)] at H; exact H
          clear H
          have H := H1
          clear H1
          replace H := Option.bind_eq_some_iff.mp H
          obtain ⟨t262, A110, H⟩ := H
          replace H : ((civil_Days.f kj4 a0 a1 1).bind fun bt263 => ((civil_Days.f kj4 a0 a1 t262).bind fun bt265 => ((civil_Days.f kj4 a0 a1 (wrap64 (t262 + 1))).bind fun bt267 => ((civil_Days.f kj4 a0 a1 0).bind fun bt269 => (if t262 ≥ 28 then (if t262 ≤ 31 then (if bt263.2 = 0 then (if bt265.2 = 0 then (if (wrap64 (bt265.1 - bt263.1)) = (wrap64 (t262 - 1)) then (if bt267.2 = 1 then (some (bt269.2 == 1)) else (some false)) else (some false)) else (some false)) else (some false)) else (some false)) else (some false)))))) = some r := H
          have A11 := Aside0.mk A110
          clear A110
          replace H := Option.bind_eq_some_iff.mp H
          obtain ⟨⟨t263, t264⟩, A120, H⟩ := H
          replace H : ((civil_Days.f kj4 a0 a1 t262).bind fun bt265 => ((civil_Days.f kj4 a0 a1 (wrap64 (t262 + 1))).bind fun bt267 => ((civil_Days.f kj4 a0 a1 0).bind fun bt269 => (if t262 ≥ 28 then (if t262 ≤ 31 then (if t264 = 0 then (if bt265.2 = 0 then (if (wrap64 (bt265.1 - t263)) = (wrap64 (t262 - 1)) then (if bt267.2 = 1 then (some (bt269.2 == 1)) else (some false)) else (some false)) else (some false)) else (some false)) else (some false)) else (some false))))) = some r := H
          have A12 := Aside0.mk A120
          clear A120
          replace H := Option.bind_eq_some_iff.mp H
          obtain ⟨⟨t265, t266⟩, A130, H⟩ := H
          replace H : ((civil_Days.f kj4 a0 a1 (wrap64 (t262 + 1))).bind fun bt267 => ((civil_Days.f kj4 a0 a1 0).bind fun bt269 => (if t262 ≥ 28 then (if t262 ≤ 31 then (if t264 = 0 then (if t266 = 0 then (if (wrap64 (t265 - t263)) = (wrap64 (t262 - 1)) then (if bt267.2 = 1 then (some (bt269.2 == 1)) else (some false)) else (some false)) else (some false)) else (some false)) else (some false)) else (some false)))) = some r := H
          have A13 := Aside0.mk A130
          clear A130
          replace H := Option.bind_eq_some_iff.mp H
          obtain ⟨⟨t267, t268⟩, A140, H⟩ := H
          replace H : ((civil_Days.f kj4 a0 a1 0).bind fun bt269 => (if t262 ≥ 28 then (if t262 ≤ 31 then (if t264 = 0 then (if t266 = 0 then (if (wrap64 (t265 - t263)) = (wrap64 (t262 - 1)) then (if t268 = 1 then (some (bt269.2 == 1)) else (some false)) else (some false)) else (some false)) else (some false)) else (some false)) else (some false))) = some r := H
          have A14 := Aside0.mk A140
          clear A140
          replace H := Option.bind_eq_some_iff.mp H
          obtain ⟨⟨t269, t270⟩, A150, H⟩ := H
          replace H : (if t262 ≥ 28 then (if t262 ≤ 31 then (if t264 = 0 then (if t266 = 0 then (if (wrap64 (t265 - t263)) = (wrap64 (t262 - 1)) then (if t268 = 1 then (some (t270 == 1)) else (some false)) else (some false)) else (some false)) else (some false)) else (some false)) else (some false)) = some r := H
          have A15 := Aside0.mk A150
          clear A150
          by_cases c16 : t262 ≥ 28
          · rw [if_pos c16] at H
            have c16b0 : decide (28 ≤ t262) = true := decide_eq_true c16
            clear c16
            by_cases c17 : t262 ≤ 31
            · rw [if_pos c17] at H
              have c17b0 : decide (t262 ≤ 31) = true := decide_eq_true c17
              clear c17
              by_cases c18 : t264 = 0
              · rw [if_pos c18] at H
                have c18b0 : (t264 == 0) = true := beq_iff_eq.mpr c18
                have c18b1 : (t264 != 0) = false := bne_eq_false_iff_eq.mpr c18
                clear c18
                by_cases c19 : t266 = 0
                · rw [if_pos c19] at H
                  have c19b0 : (t266 == 0) = true := beq_iff_eq.mpr c19
                  have c19b1 : (t266 != 0) = false := bne_eq_false_iff_eq.mpr c19
                  clear c19
                  by_cases c20 : (wrap64 (t265 - t263)) = (wrap64 (t262 - 1))
                  · rw [if_pos c20] at H
                    have c20b0 : ((wrap64 (t265 - t263)) == (wrap64 (t262 - 1))) = true := beq_iff_eq.mpr c20
                    have c20b1 : ((wrap64 (t265 - t263)) != (wrap64 (t262 - 1))) = false := bne_eq_false_iff_eq.mpr c20
                    clear c20
                    by_cases c21 : t268 = 1
                    · rw [if_pos c21] at H
                      have c21b0 : (t268 == 1) = true := beq_iff_eq.mpr c21
                      have c21b1 : (t268 != 1) = false := bne_eq_false_iff_eq.mpr c21
                      clear c21
                      obtain rfl := Option.some.inj H
                      go_wp2_with (first | ((with_reducible refine gate_callee (f := 19) rfl ?_); refine goesL_ (some 32) rfl rfl Tryd.func19 (by kernel_rfl) rfl #[.int .i64 a0, .int .i64 a1] rfl (by (try simp only [List.map_toArray, List.map_cons, List.map_nil]); first | done | rfl | (simp only [List.length_drop, List.length_take]; rfl)) ?_; (with_reducible refine (civil_Length.calls kj4 a0 a1 t262 _ A11.out).mono ?_); rintro e w' ⟨rfl, ⟨nd, rfl⟩⟩; refine ⟨_, rfl, ?_⟩) | ((with_reducible refine gate_callee (f := 12) rfl ?_); refine goesL_ (some 37) rfl rfl Tryd.func12 (by kernel_rfl) rfl #[.agg #[.int .i64 a0, .int .i64 a1, .int .i64 1]] rfl (by (try simp only [List.map_toArray, List.map_cons, List.map_nil]); first | done | rfl | (simp only [List.length_drop, List.length_take]; rfl)) ?_; (with_reducible refine (civil_Days.calls kj4 a0 a1 1 t263 t264 _ A12.out).mono ?_); rintro e w22 ⟨rfl, hb⟩; refine ⟨_, rfl, ?_⟩; have n0_ := Aside0.mk (below_step (by repeat (first | (with_reducible first | exact HB.out | apply below_alloc | apply pw_below_drewN | apply below_drew1) | exact HB.out)) hb); clear HB; have HB := n0_; clear n0_; (try clear hb); (try clear hb2); (try clear hk); (try clear hi)) | ((with_reducible refine gate_callee (f := 12) rfl ?_); refine goesL_ (some 45) rfl rfl Tryd.func12 (by kernel_rfl) rfl #[.agg #[.int .i64 a0, .int .i64 a1, .int .i64 t262]] rfl (by (try simp only [List.map_toArray, List.map_cons, List.map_nil]); first | done | rfl | (simp only [List.length_drop, List.length_take]; rfl)) ?_; (with_reducible refine (civil_Days.calls kj4 a0 a1 t262 t265 t266 _ A13.out).mono ?_); rintro e w23 ⟨rfl, hb⟩; refine ⟨_, rfl, ?_⟩; have n0_ := Aside0.mk (below_step (by repeat (first | (with_reducible first | exact HB.out | apply below_alloc | apply pw_below_drewN | apply below_drew1) | exact HB.out)) hb); clear HB; have HB := n0_; clear n0_; (try clear hb); (try clear hb2); (try clear hk); (try clear hi)) | ((with_reducible refine gate_callee (f := 12) rfl ?_); refine goesL_ (some 54) rfl rfl Tryd.func12 (by kernel_rfl) rfl #[.agg #[.int .i64 a0, .int .i64 a1, .int .i64 (wrap64 (t262 + 1))]] rfl (by (try simp only [List.map_toArray, List.map_cons, List.map_nil]); first | done | rfl | (simp only [List.length_drop, List.length_take]; rfl)) ?_; (with_reducible refine (civil_Days.calls kj4 a0 a1 (wrap64 (t262 + 1)) t267 t268 _ A14.out).mono ?_); rintro e w24 ⟨rfl, hb⟩; refine ⟨_, rfl, ?_⟩; have n0_ := Aside0.mk (below_step (by repeat (first | (with_reducible first | exact HB.out | apply below_alloc | apply pw_below_drewN | apply below_drew1) | exact HB.out)) hb); clear HB; have HB := n0_; clear n0_; (try clear hb); (try clear hb2); (try clear hk); (try clear hi)) | ((with_reducible refine gate_callee (f := 12) rfl ?_); refine goesL_ (some 61) rfl rfl Tryd.func12 (by kernel_rfl) rfl #[.agg #[.int .i64 a0, .int .i64 a1, .int .i64 0]] rfl (by (try simp only [List.map_toArray, List.map_cons, List.map_nil]); first | done | rfl | (simp only [List.length_drop, List.length_take]; rfl)) ?_; (with_reducible refine (civil_Days.calls kj4 a0 a1 0 t269 t270 _ A15.out).mono ?_); rintro e w25 ⟨rfl, hb⟩; refine ⟨_, rfl, ?_⟩; have n0_ := Aside0.mk (below_step (by repeat (first | (with_reducible first | exact HB.out | apply below_alloc | apply pw_below_drewN | apply below_drew1) | exact HB.out)) hb); clear HB; have HB := n0_; clear n0_; (try clear hb); (try clear hb2); (try clear hk); (try clear hi)))
                      go_ret
                      exact ⟨by first | rfl | (simp [errW_none, errW_some] <;> rfl) | (simp [*, errW_none, errW_some] <;> rfl), by repeat (first | (with_reducible first | exact HB.out | apply below_alloc | apply pw_below_drewN | apply below_drew1) | exact HB.out)⟩
                    · rw [if_neg c21] at H
                      have c21b0 : (t268 == 1) = false := beq_eq_false_iff_ne.mpr c21
                      have c21b1 : (t268 != 1) = true := bne_iff_ne.mpr c21
                      cases (Option.some.inj H).trans hlaw_.out
                  · rw [if_neg c20] at H
                    have c20b0 : ((wrap64 (t265 - t263)) == (wrap64 (t262 - 1))) = false := beq_eq_false_iff_ne.mpr c20
                    have c20b1 : ((wrap64 (t265 - t263)) != (wrap64 (t262 - 1))) = true := bne_iff_ne.mpr c20
                    cases (Option.some.inj H).trans hlaw_.out
                · rw [if_neg c19] at H
                  have c19b0 : (t266 == 0) = false := beq_eq_false_iff_ne.mpr c19
                  have c19b1 : (t266 != 0) = true := bne_iff_ne.mpr c19
                  cases (Option.some.inj H).trans hlaw_.out
              · rw [if_neg c18] at H
                have c18b0 : (t264 == 0) = false := beq_eq_false_iff_ne.mpr c18
                have c18b1 : (t264 != 0) = true := bne_iff_ne.mpr c18
                cases (Option.some.inj H).trans hlaw_.out
            · rw [if_neg c17] at H
              have c17b0 : decide (t262 ≤ 31) = false := decide_eq_false c17
              clear c17
              cases (Option.some.inj H).trans hlaw_.out
          · rw [if_neg c16] at H
            have c16b0 : decide (28 ≤ t262) = false := decide_eq_false c16
            clear c16
            cases (Option.some.inj H).trans hlaw_.out
  · replace c4 := Bool.eq_false_iff.mpr c4
    subst c4
    have H1 : (some false) = some r := by rw [if_neg (show ¬ (false = true) by decide)] at H; exact H
    clear H
    have H := H1
    clear H1
    cases (Option.some.inj H).trans hlaw_.out

/-- THE ONE PURE STATEMENT of hourglasslaw4_CivilMonths: yours. -/
def hourglasslaw4_CivilMonths.Pure : Prop := ∀ (a0 : Int) (a1 : Int), (Lit.int .i64 a0).wf = true → (Lit.int .i64 a1).wf = true → ∃ k, hourglasslaw4_CivilMonths.f k a0 a1 = some true
theorem hourglasslaw4_CivilMonths.walk (P : hourglasslaw4_CivilMonths.Pure) (a0 : Int) (a1 : Int) (w : World) (w0 : (Lit.int .i64 a0).wf = true) (w1 : (Lit.int .i64 a1).wf = true) :
    Calls Tryd.prog 7 #[.int .i64 a0, .int .i64 a1] w fun e w' => e = .returned (.bool true) ∧ Below w.heap.size w w' := by
  obtain ⟨k, h⟩ := P a0 a1 w0 w1
  refine (hourglasslaw4_CivilMonths.calls k a0 a1 true w h (Aside0.mk rfl)).mono ?_
  rintro e w' ⟨rfl, hd⟩
  exact ⟨rfl, hd⟩

/-! ### civil_number: function 34 -/
mutual
def civil_number.l0 : Nat → ByteArray → Int → Int → Int → Option (Int × Bool)
  | 0, _, _, _, _ => none
  | k + 1, x0, x4, x7, x8 => if x8 < x7 then (if 0 ≤ x8 then (if x8 < (x0.size : Int) then (if (bt x0 x8) < 48 then (civil_number.j1 k x0 x4 x8 x7 x8 true) else (civil_number.j1 k x0 x4 x8 x7 x8 (decide ((bt x0 x8) > 57)))) else (none)) else (none)) else (some (x4, true))
def civil_number.j1 : Nat → ByteArray → Int → Int → Int → Int → Bool → Option (Int × Bool)
  | 0, _, _, _, _, _, _ => none
  | k + 1, x0, x4, x5, x7, x8, x20 => if x20 = true then (some (0, false)) else (if 0 ≤ x5 then (if x5 < (x0.size : Int) then (civil_number.l0 k x0 (wrap64 ((wrap64 (10 * x4)) + (((bt x0 x5) - 48) % 256))) x7 (wrap64 (x8 + 1))) else (none)) else (none))
end
def civil_number.f (k : Nat) (a0 : ByteArray) : Option (Int × Bool) := civil_number.l0 k a0 0 (a0.size : Int) 0
theorem civil_number.mono_l : ∀ k, (∀ y0 y1 y2 y3, LeO (civil_number.l0 k y0 y1 y2 y3) (civil_number.l0 (k + 1) y0 y1 y2 y3)) ∧ (∀ y0 y1 y2 y3 y4 y5, LeO (civil_number.j1 k y0 y1 y2 y3 y4 y5) (civil_number.j1 (k + 1) y0 y1 y2 y3 y4 y5))
  | 0 => ⟨fun _ _ _ _ r h => by simp [civil_number.l0] at h, fun _ _ _ _ _ _ r h => by simp [civil_number.j1] at h⟩
  | k + 1 => by
    obtain ⟨ih0, ih1⟩ := civil_number.mono_l k
    refine ⟨?_, ?_⟩
    · intro y0 y1 y2 y3
      unfold civil_number.l0
      repeat' first
      | (with_reducible exact ih0 _ _ _ _)
      | (with_reducible exact ih1 _ _ _ _ _ _)
      | (with_reducible exact LeO.refl _)
      | (with_reducible exact LeO.none _)
      | (with_reducible refine LeO.ite ?_ ?_)
      | (with_reducible refine LeO.bind ?_ (fun _ => ?_))
      | exact ih0 _ _ _ _
      | exact ih1 _ _ _ _ _ _
      | exact LeO.none _
      | refine LeO.ite ?_ ?_
      | refine LeO.bind ?_ (fun _ => ?_)
    · intro y0 y1 y2 y3 y4 y5
      unfold civil_number.j1
      repeat' first
      | (with_reducible exact ih0 _ _ _ _)
      | (with_reducible exact ih1 _ _ _ _ _ _)
      | (with_reducible exact LeO.refl _)
      | (with_reducible exact LeO.none _)
      | (with_reducible refine LeO.ite ?_ ?_)
      | (with_reducible refine LeO.bind ?_ (fun _ => ?_))
      | exact ih0 _ _ _ _
      | exact ih1 _ _ _ _ _ _
      | exact LeO.none _
      | refine LeO.ite ?_ ?_
      | refine LeO.bind ?_ (fun _ => ?_)
theorem civil_number.mono : ∀ a0 k, LeO (civil_number.f k a0) (civil_number.f (k + 1) a0) := by
  intro a0 k
  obtain ⟨ih0, ih1⟩ := civil_number.mono_l k
  unfold civil_number.f
  repeat' first
      | (with_reducible exact ih0 _ _ _ _)
      | (with_reducible exact ih1 _ _ _ _ _ _)
      | (with_reducible exact LeO.refl _)
      | (with_reducible exact LeO.none _)
      | (with_reducible refine LeO.ite ?_ ?_)
      | (with_reducible refine LeO.bind ?_ (fun _ => ?_))
      | exact ih0 _ _ _ _
      | exact ih1 _ _ _ _ _ _
      | exact LeO.none _
      | refine LeO.ite ?_ ?_
      | refine LeO.bind ?_ (fun _ => ?_)
set_option maxHeartbeats 8000000 in
set_option maxRecDepth 100000 in
theorem civil_number.calls (k : Nat) (a0 : ByteArray) (r1 : Int) (r2 : Bool) (w : World) (h : civil_number.f k a0 = some (r1, r2)) :
    Calls Tryd.prog 34 #[.string a0] w fun e w' => e = .returned (.tuple #[.int .i64 r1, .bool r2]) ∧ Drawn0 w w' := by
  have H : (civil_number.l0 k a0 0 (a0.size : Int) 0) = some (r1, r2) := h
  clear h
  have H' := Aside0.mk H
  clear H
  go_enter Tryd.func34, Tryd.ntmps34
  go_wp2
  go_loopg [4, 8] k (fun kq v4 v8 w' => ∃ (x4_1 : Int) (x8_1 : Int), v4 = .int .i64 x4_1 ∧ v8 = .int .i64 x8_1 ∧ Aside0 (civil_number.l0 kq a0 x4_1 (a0.size : Int) x8_1 = some (r1, r2)) ∧ Aside0 (kq ≤ k) ∧ Drawn0 w w')
  case atStart => exact ⟨(0), (0), (by first | rfl | (simp; done) | (simp [*]; done)), (by first | rfl | (simp; done) | (simp [*]; done)), H', ⟨Nat.le_refl _⟩, by repeat (first | exact Drawn0.refl _ | apply Drawn0.step)⟩
  case round =>
    clear H'
    obtain ⟨x4_1, x8_1, rfl, rfl, HA, HK1, ⟨m1, rfl⟩⟩ := hrel
    cases gk with
    | zero => exact absurd HA.out (by simp [civil_number.l0])
    | succ k1 =>
      have H := HA.out
      clear HA
      simp only [civil_number.l0] at H
      by_cases c2 : x8_1 < (a0.size : Int)
      · rw [if_pos c2] at H
        have c2b0 : decide (x8_1 < (a0.size : Int)) = true := decide_eq_true c2
        clear c2
        have HC3 := Aside0.mk H
        clear H
        go_upto_region 5 with (fail)
        go_cut [20] (fun v20 wc => ∃ (kq : Nat) (x20_2 : Bool), v20 = .bool x20_2 ∧ Aside0 (civil_number.j1 kq a0 x4_1 x8_1 (a0.size : Int) x8_1 x20_2 = some (r1, r2)) ∧ Aside0 (kq ≤ k1) ∧ Drawn0 w wc)
        case first =>
          have H := HC3.out
          clear HC3
          by_cases c4 : 0 ≤ x8_1
          · rw [if_pos c4] at H
            have c4b0 : decide (0 ≤ x8_1) = true := decide_eq_true c4
            clear c4
            (first | rw [c4b0] | (simp only [i64_w, i32_w]; rw [c4b0]) | skip)
            by_cases c5 : x8_1 < (a0.size : Int)
            · rw [if_pos c5] at H
              have c5b0 : decide (x8_1 < (a0.size : Int)) = true := decide_eq_true c5
              clear c5
              by_cases c7 : (bt a0 x8_1) < 48
              · rw [if_pos c7] at H
                have c7b0 : decide ((bt a0 x8_1) < 48) = true := decide_eq_true c7
                clear c7
                have H' := Aside0.mk H
                clear H
                have p6 : 0 ≤ (x8_1 : Int) := of_decide_eq_true (by first | (with_reducible assumption) | assumption)
                have q6 : x8_1 < (a0.size : Int) := of_decide_eq_true (by first | (with_reducible assumption) | assumption)
                have hx6 := bt_at a0 x8_1
                replace p6 := eq_true p6
                replace q6 := eq_true q6
                go_wp2
                go_meet
                case rel => exact ⟨_, (true), (by first | rfl | (simp; done) | (simp [*]; done)), H', ⟨by have := HK1.out; first | omega | exact Nat.le_refl _⟩, by repeat (first | exact Drawn0.refl _ | apply Drawn0.step)⟩
              · rw [if_neg c7] at H
                have c7b0 : decide ((bt a0 x8_1) < 48) = false := decide_eq_false c7
                clear c7
                have H' := Aside0.mk H
                clear H
                have p6 : 0 ≤ (x8_1 : Int) := of_decide_eq_true (by first | (with_reducible assumption) | assumption)
                have q6 : x8_1 < (a0.size : Int) := of_decide_eq_true (by first | (with_reducible assumption) | assumption)
                have hx6 := bt_at a0 x8_1
                replace p6 := eq_true p6
                replace q6 := eq_true q6
                have p8 : 0 ≤ (x8_1 : Int) := of_decide_eq_true (by first | (with_reducible assumption) | assumption)
                have q8 : x8_1 < (a0.size : Int) := of_decide_eq_true (by first | (with_reducible assumption) | assumption)
                have hx8 := bt_at a0 x8_1
                replace p8 := eq_true p8
                replace q8 := eq_true q8
                go_wp2
                go_meet
                case rel => exact ⟨_, (decide ((bt a0 x8_1) > 57)), (by first | rfl | (simp; done) | (simp [*]; done)), H', ⟨by have := HK1.out; first | omega | exact Nat.le_refl _⟩, by repeat (first | exact Drawn0.refl _ | apply Drawn0.step)⟩
            · rw [if_neg c5] at H
              exact absurd H (by simp)
          · rw [if_neg c4] at H
            exact absurd H (by simp)
        case rest =>
          clear HC3
          try clear c2
          try clear c2b0
          try clear p2
          try clear c3
          try clear c4
          try clear c4b0
          try clear c5
          try clear c5b0
          try clear p6
          try clear q6
          try clear hx6
          try clear c7
          try clear c7b0
          try clear p8
          try clear q8
          try clear hx8
          try clear p6
          try clear p8
          try clear q6
          try clear q8
          obtain ⟨kq, x20_2, rfl, HA, HJ2, ⟨mc2, rfl⟩⟩ := hcut
          cases kq with
          | zero => exact absurd HA.out (by simp [civil_number.j1])
          | succ kj2 =>
            have H := HA.out
            clear HA
            simp only [civil_number.j1] at H
            by_cases c9 : x20_2 = true
            · subst c9
              have H1 : (some (0, false)) = some (r1, r2) := by rw [if_pos rfl] at H; exact H
              clear H
              have H := H1
              clear H1
              simp only [Option.some.injEq, Prod.mk.injEq] at H
              obtain ⟨rfl, rfl⟩ := H
              go_wp2
              go_ret2
              exact ⟨by first | rfl | (simp; done) | (simp [*]; done), by repeat (first | exact Drawn0.refl _ | apply Drawn0.step)⟩
            · replace c9 := Bool.eq_false_iff.mpr c9
              subst c9
              have H1 : (if 0 ≤ x8_1 then (if x8_1 < (a0.size : Int) then (civil_number.l0 kj2 a0 (wrap64 ((wrap64 (10 * x4_1)) + (((bt a0 x8_1) - 48) % 256))) (a0.size : Int) (wrap64 (x8_1 + 1))) else (none)) else (none)) = some (r1, r2) := by rw [if_neg (show ¬ (false = true) by decide)] at H; exact H
              clear H
              have H := H1
              clear H1
              by_cases c10 : 0 ≤ x8_1
              · rw [if_pos c10] at H
                have c10b0 : decide (0 ≤ x8_1) = true := decide_eq_true c10
                clear c10
                by_cases c11 : x8_1 < (a0.size : Int)
                · rw [if_pos c11] at H
                  have c11b0 : decide (x8_1 < (a0.size : Int)) = true := decide_eq_true c11
                  clear c11
                  have H' := Aside0.mk H
                  clear H
                  have p12 : 0 ≤ (x8_1 : Int) := of_decide_eq_true (by first | (with_reducible assumption) | assumption)
                  have q12 : x8_1 < (a0.size : Int) := of_decide_eq_true (by first | (with_reducible assumption) | assumption)
                  have hx12 := bt_at a0 x8_1
                  replace p12 := eq_true p12
                  replace q12 := eq_true q12
                  go_wp2
                  go_roundg kj2
                  case measure => have := HK1.out; have := HJ2.out; omega
                  case rel => exact ⟨(wrap64 ((wrap64 (10 * x4_1)) + (((bt a0 x8_1) - 48) % 256))), (wrap64 (x8_1 + 1)), (by first | rfl | (simp; done) | (simp [*]; done)), (by first | rfl | (simp; done) | (simp [*]; done)), H', ⟨by have := HK1.out; have := HJ2.out; omega⟩, by repeat (first | exact Drawn0.refl _ | apply Drawn0.step)⟩
                · rw [if_neg c11] at H
                  exact absurd H (by simp)
              · rw [if_neg c10] at H
                exact absurd H (by simp)
      · rw [if_neg c2] at H
        have c2b0 : decide (x8_1 < (a0.size : Int)) = false := decide_eq_false c2
        clear c2
        simp only [Option.some.injEq, Prod.mk.injEq] at H
        obtain ⟨rfl, rfl⟩ := H
        go_wp2
        go_ret2
        exact ⟨by first | rfl | (simp; done) | (simp [*]; done), by repeat (first | exact Drawn0.refl _ | apply Drawn0.step)⟩

end Go.Proofs.YtbgdpkpljkcnfaaDoor.QCivil
