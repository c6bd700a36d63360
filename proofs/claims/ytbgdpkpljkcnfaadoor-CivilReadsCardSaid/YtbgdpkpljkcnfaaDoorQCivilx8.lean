/- What the Go functions compute: each as a Lean function, with the proof that its call answers so; written by a program of this session over the kit's print. Conditions: each theorem's own. -/
import Derived.Test.YtbgdpkpljkcnfaaDoorQCivilx0
import Derived.Test.YtbgdpkpljkcnfaaDoorQCivilx3
import Derived.Test.YtbgdpkpljkcnfaaDoorQCivilx4
import Derived.Test.YtbgdpkpljkcnfaaDoorQCivilx5
namespace Go.Proofs.YtbgdpkpljkcnfaaDoor.QCivil
open Go.RowKit Go.Proofs.YtbgdpkpljkcnfaaDoorW.PrintWords Go.Proofs.YtbgdpkpljkcnfaaDoorW.PrintLast Go.Proofs.YtbgdpkpljkcnfaaDoorW.PrintMore
attribute [local go_sem] max2_int min2_int max_two min_two max_three min_three max_four min_four   -- for this text's walks alone
set_option linter.unusedVariables false
set_option linter.unusedSimpArgs false

/-! ### hourglasslaw4_CivilYears: function 5 -/
mutual
def hourglasslaw4_CivilYears.j0 : Nat → Int → Bool → Option (Bool)
  | 0, _, _ => none
  | k + 1, x0, x19 => if x19 = true then (some true) else ((civil_Days.f k x0 1 1).bind fun bt238 => ((civil_Days.f k (wrap64 (x0 + 1)) 1 1).bind fun bt240 => ((civil_Days.f k (wrap64 (x0 + 400)) 1 1).bind fun bt242 => ((civil_Leap.f x0).bind fun t244 => (if t244 = true then (hourglasslaw4_CivilYears.j1 k x0 bt238.1 bt238.2 bt240.1 bt240.2 bt242.1 bt242.2 366) else (hourglasslaw4_CivilYears.j1 k x0 bt238.1 bt238.2 bt240.1 bt240.2 bt242.1 bt242.2 365))))))
def hourglasslaw4_CivilYears.j1 : Nat → Int → Int → Int → Int → Int → Int → Int → Int → Option (Bool)
  | 0, _, _, _, _, _, _, _, _ => none
  | k + 1, x0, x3, x4, x5, x6, x7, x8, x9 => hourglasslaw4_CivilYears.l0 k x0 x3 x4 x5 x6 x7 x8 x9 0 1
def hourglasslaw4_CivilYears.l0 : Nat → Int → Int → Int → Int → Int → Int → Int → Int → Int → Int → Option (Bool)
  | 0, _, _, _, _, _, _, _, _, _, _ => none
  | k + 1, x0, x3, x4, x5, x6, x7, x8, x9, x10, x11 => if x11 ≤ 12 then ((civil_Length.f k x0 x11).bind fun t245 => (hourglasslaw4_CivilYears.l0 k x0 x3 x4 x5 x6 x7 x8 x9 (wrap64 (x10 + t245)) (wrap64 (x11 + 1)))) else (if x4 = 0 then (if x6 = 0 then (if x8 = 0 then (if (wrap64 (x5 - x3)) = x9 then (if x10 = x9 then (if (wrap64 (x7 - x3)) = 146097 then ((civil_Weekday.f x3).bind fun t246 => ((civil_Weekday.f x7).bind fun t247 => (some (t246 == t247)))) else (some false)) else (some false)) else (some false)) else (some false)) else (some false)) else (some false))
end
def hourglasslaw4_CivilYears.f (k : Nat) (a0 : Int) : Option (Bool) := (hourglasslaw4_awake.f k).bind fun t237 => (if t237 = true then (if a0 < (-9999) then (hourglasslaw4_CivilYears.j0 k a0 true) else (hourglasslaw4_CivilYears.j0 k a0 (decide (a0 > 9598)))) else (some false))
theorem hourglasslaw4_CivilYears.mono_l : ∀ k, (∀ y0 y1, LeO (hourglasslaw4_CivilYears.j0 k y0 y1) (hourglasslaw4_CivilYears.j0 (k + 1) y0 y1)) ∧ (∀ y0 y1 y2 y3 y4 y5 y6 y7, LeO (hourglasslaw4_CivilYears.j1 k y0 y1 y2 y3 y4 y5 y6 y7) (hourglasslaw4_CivilYears.j1 (k + 1) y0 y1 y2 y3 y4 y5 y6 y7)) ∧ (∀ y0 y1 y2 y3 y4 y5 y6 y7 y8 y9, LeO (hourglasslaw4_CivilYears.l0 k y0 y1 y2 y3 y4 y5 y6 y7 y8 y9) (hourglasslaw4_CivilYears.l0 (k + 1) y0 y1 y2 y3 y4 y5 y6 y7 y8 y9))
  | 0 => ⟨fun _ _ r h => by simp [hourglasslaw4_CivilYears.j0] at h, fun _ _ _ _ _ _ _ _ r h => by simp [hourglasslaw4_CivilYears.j1] at h, fun _ _ _ _ _ _ _ _ _ _ r h => by simp [hourglasslaw4_CivilYears.l0] at h⟩
  | k + 1 => by
    obtain ⟨ih0, ih1, ih2⟩ := hourglasslaw4_CivilYears.mono_l k
    refine ⟨?_, ?_, ?_⟩
    · intro y0 y1
      unfold hourglasslaw4_CivilYears.j0
      repeat' first
      | (with_reducible exact ih0 _ _)
      | (with_reducible exact ih1 _ _ _ _ _ _ _ _)
      | (with_reducible exact ih2 _ _ _ _ _ _ _ _ _ _)
      | (with_reducible exact civil_Days.mono _ _ _ _)
      | (with_reducible exact civil_Length.mono _ _ _)
      | (with_reducible exact hourglasslaw4_awake.mono _)
      | (with_reducible exact LeO.refl _)
      | (with_reducible exact LeO.none _)
      | (with_reducible refine LeO.ite ?_ ?_)
      | (with_reducible refine LeO.bind ?_ (fun _ => ?_))
      | exact ih0 _ _
      | exact ih1 _ _ _ _ _ _ _ _
      | exact ih2 _ _ _ _ _ _ _ _ _ _
      | exact civil_Days.mono _ _ _ _
      | exact civil_Length.mono _ _ _
      | exact hourglasslaw4_awake.mono _
      | exact LeO.none _
      | refine LeO.ite ?_ ?_
      | refine LeO.bind ?_ (fun _ => ?_)
    · intro y0 y1 y2 y3 y4 y5 y6 y7
      unfold hourglasslaw4_CivilYears.j1
      repeat' first
      | (with_reducible exact ih0 _ _)
      | (with_reducible exact ih1 _ _ _ _ _ _ _ _)
      | (with_reducible exact ih2 _ _ _ _ _ _ _ _ _ _)
      | (with_reducible exact civil_Days.mono _ _ _ _)
      | (with_reducible exact civil_Length.mono _ _ _)
      | (with_reducible exact hourglasslaw4_awake.mono _)
      | (with_reducible exact LeO.refl _)
      | (with_reducible exact LeO.none _)
      | (with_reducible refine LeO.ite ?_ ?_)
      | (with_reducible refine LeO.bind ?_ (fun _ => ?_))
      | exact ih0 _ _
      | exact ih1 _ _ _ _ _ _ _ _
      | exact ih2 _ _ _ _ _ _ _ _ _ _
      | exact civil_Days.mono _ _ _ _
      | exact civil_Length.mono _ _ _
      | exact hourglasslaw4_awake.mono _
      | exact LeO.none _
      | refine LeO.ite ?_ ?_
      | refine LeO.bind ?_ (fun _ => ?_)
    · intro y0 y1 y2 y3 y4 y5 y6 y7 y8 y9
      unfold hourglasslaw4_CivilYears.l0
      repeat' first
      | (with_reducible exact ih0 _ _)
      | (with_reducible exact ih1 _ _ _ _ _ _ _ _)
      | (with_reducible exact ih2 _ _ _ _ _ _ _ _ _ _)
      | (with_reducible exact civil_Days.mono _ _ _ _)
      | (with_reducible exact civil_Length.mono _ _ _)
      | (with_reducible exact hourglasslaw4_awake.mono _)
      | (with_reducible exact LeO.refl _)
      | (with_reducible exact LeO.none _)
      | (with_reducible refine LeO.ite ?_ ?_)
      | (with_reducible refine LeO.bind ?_ (fun _ => ?_))
      | exact ih0 _ _
      | exact ih1 _ _ _ _ _ _ _ _
      | exact ih2 _ _ _ _ _ _ _ _ _ _
      | exact civil_Days.mono _ _ _ _
      | exact civil_Length.mono _ _ _
      | exact hourglasslaw4_awake.mono _
      | exact LeO.none _
      | refine LeO.ite ?_ ?_
      | refine LeO.bind ?_ (fun _ => ?_)
theorem hourglasslaw4_CivilYears.mono : ∀ a0 k, LeO (hourglasslaw4_CivilYears.f k a0) (hourglasslaw4_CivilYears.f (k + 1) a0) := by
  intro a0 k
  obtain ⟨ih0, ih1, ih2⟩ := hourglasslaw4_CivilYears.mono_l k
  unfold hourglasslaw4_CivilYears.f
  repeat' first
      | (with_reducible exact ih0 _ _)
      | (with_reducible exact ih1 _ _ _ _ _ _ _ _)
      | (with_reducible exact ih2 _ _ _ _ _ _ _ _ _ _)
      | (with_reducible exact civil_Days.mono _ _ _ _)
      | (with_reducible exact civil_Length.mono _ _ _)
      | (with_reducible exact hourglasslaw4_awake.mono _)
      | (with_reducible exact LeO.refl _)
      | (with_reducible exact LeO.none _)
      | (with_reducible refine LeO.ite ?_ ?_)
      | (with_reducible refine LeO.bind ?_ (fun _ => ?_))
      | exact ih0 _ _
      | exact ih1 _ _ _ _ _ _ _ _
      | exact ih2 _ _ _ _ _ _ _ _ _ _
      | exact civil_Days.mono _ _ _ _
      | exact civil_Length.mono _ _ _
      | exact hourglasslaw4_awake.mono _
      | exact LeO.none _
      | refine LeO.ite ?_ ?_
      | refine LeO.bind ?_ (fun _ => ?_)
set_option maxHeartbeats 8000000 in
set_option maxRecDepth 100000 in
theorem hourglasslaw4_CivilYears.calls (k : Nat) (a0 : Int) (r : Bool) (w : World) (h : hourglasslaw4_CivilYears.f k a0 = some r) (hlaw_ : Aside0 (r = true)) :
    Calls Tryd.prog 5 #[.int .i64 a0] w fun e w' => e = .returned (.bool r) ∧ Below w.heap.size w w' := by
  have hu23 := Tryd.underlying23
  have HB := Aside0.mk (Below.refl w.heap.size w)
  have H : ((hourglasslaw4_awake.f k).bind fun t237 => (if t237 = true then (if a0 < (-9999) then (hourglasslaw4_CivilYears.j0 k a0 true) else (hourglasslaw4_CivilYears.j0 k a0 (decide (a0 > 9598)))) else (some false))) = some r := h
  clear h
  replace H := Option.bind_eq_some_iff.mp H
  obtain ⟨t237, A20, H⟩ := H
  replace H : (if t237 = true then (if a0 < (-9999) then (hourglasslaw4_CivilYears.j0 k a0 true) else (hourglasslaw4_CivilYears.j0 k a0 (decide (a0 > 9598)))) else (some false)) = some r := H
  have A2 := Aside0.mk A20
  clear A20
  by_cases c3 : t237 = true
  · subst c3
    have H1 : (if a0 < (-9999) then (hourglasslaw4_CivilYears.j0 k a0 true) else (hourglasslaw4_CivilYears.j0 k a0 (decide (a0 > 9598)))) = some r := by rw [if_pos rfl] at H; exact H
    clear H
    have H := H1
    clear H1
    have HC4 := Aside0.mk H
    clear H
    go_enter Tryd.func5, Tryd.ntmps5
    go_upto_region 3 with (first | ((with_reducible refine gate_callee (f := 11) rfl ?_); refine goesL_ (some 12) rfl rfl Tryd.func11 (by kernel_rfl) rfl #[] rfl (by (try simp only [List.map_toArray, List.map_cons, List.map_nil]); first | done | rfl | (simp only [List.length_drop, List.length_take]; rfl)) ?_; (with_reducible refine (hourglasslaw4_awake.calls k  true _ A2.out).mono ?_); rintro e w5 ⟨rfl, hb⟩; refine ⟨_, rfl, ?_⟩; have n0_ := Aside0.mk (below_step (by repeat (first | (with_reducible first | exact HB.out | apply below_alloc | apply pw_below_drewN | apply below_drew1) | exact HB.out)) hb); clear HB; have HB := n0_; clear n0_; (try clear hb); (try clear hb2); (try clear hk); (try clear hi)))
    (try simp only [Act.put, List.setIfInBounds_toArray, List.set_cons_zero, List.set_cons_succ])
    go_cut [19] (fun v19 wc => ∃ (kq : Nat) (x19_3 : Bool), v19 = .bool x19_3 ∧ Aside0 (hourglasslaw4_CivilYears.j0 kq a0 x19_3 = some r) ∧ Aside0 (kq ≤ k) ∧ Aside0 (Below w.heap.size w wc))
    case first =>
      have H := HC4.out
      clear HC4
      by_cases c6 : a0 < (-9999)
      · rw [if_pos c6] at H
        have c6b0 : decide (a0 < (-9999)) = true := decide_eq_true c6
        clear c6
        (first | rw [c6b0] | (simp only [i64_w, i32_w]; rw [c6b0]) | skip)
        have H' := Aside0.mk H
        clear H
        go_wp2
        go_meet
        case rel => exact ⟨_, (true), (by first | rfl | (simp; done) | (simp [*]; done)), H', ⟨by first | omega | exact Nat.le_refl _⟩, ⟨by repeat (first | (with_reducible first | exact HB.out | apply below_alloc | apply pw_below_drewN | apply below_drew1) | exact HB.out)⟩⟩
      · rw [if_neg c6] at H
        have c6b0 : decide (a0 < (-9999)) = false := decide_eq_false c6
        clear c6
        (first | rw [c6b0] | (simp only [i64_w, i32_w]; rw [c6b0]) | skip)
        have H' := Aside0.mk H
        clear H
        go_wp2
        go_meet
        case rel => exact ⟨_, (decide (a0 > 9598)), (by first | rfl | (simp; done) | (simp [*]; done)), H', ⟨by first | omega | exact Nat.le_refl _⟩, ⟨by repeat (first | (with_reducible first | exact HB.out | apply below_alloc | apply pw_below_drewN | apply below_drew1) | exact HB.out)⟩⟩
    case rest =>
      clear HC4
      try clear c1
      try clear p2
      try clear c3
      try clear c5
      try clear c6
      try clear c6b0
      obtain ⟨kq, x19_3, rfl, HA, HJ3, HB⟩ := hcut
      cases kq with
      | zero => exact absurd HA.out (by simp [hourglasslaw4_CivilYears.j0])
      | succ kj3 =>
        have H := HA.out
        clear HA
        simp only [hourglasslaw4_CivilYears.j0] at H
        by_cases c7 : x19_3 = true
        · subst c7
          have H1 : (some true) = some r := by rw [if_pos rfl] at H; exact H
          clear H
          have H := H1
          clear H1
          obtain rfl := Option.some.inj H
          go_wp2
          go_ret
          exact ⟨by first | rfl | (simp [errW_none, errW_some] <;> rfl) | (simp [*, errW_none, errW_some] <;> rfl), by repeat (first | (with_reducible first | exact HB.out | apply below_alloc | apply pw_below_drewN | apply below_drew1) | exact HB.out)⟩
        · replace c7 := Bool.eq_false_iff.mpr c7
          subst c7
          have H1 : ((civil_Days.f kj3 a0 1 1).bind fun bt238 => ((civil_Days.f kj3 (wrap64 (a0 + 1)) 1 1).bind fun bt240 => ((civil_Days.f kj3 (wrap64 (a0 + 400)) 1 1).bind fun bt242 => ((civil_Leap.f a0).bind fun t244 => (if t244 = true then (hourglasslaw4_CivilYears.j1 kj3 a0 bt238.1 bt238.2 bt240.1 bt240.2 bt242.1 bt242.2 366) else (hourglasslaw4_CivilYears.j1 kj3 a0 bt238.1 bt238.2 bt240.1 bt240.2 bt242.1 bt242.2 365)))))) = some r := by rw [if_neg (show ¬ (false = true) by decide)] at H; exact H
          clear H
          have H := H1
          clear H1
          replace H := Option.bind_eq_some_iff.mp H
          obtain ⟨⟨t238, t239⟩, A80, H⟩ := H
          replace H : ((civil_Days.f kj3 (wrap64 (a0 + 1)) 1 1).bind fun bt240 => ((civil_Days.f kj3 (wrap64 (a0 + 400)) 1 1).bind fun bt242 => ((civil_Leap.f a0).bind fun t244 => (if t244 = true then (hourglasslaw4_CivilYears.j1 kj3 a0 t238 t239 bt240.1 bt240.2 bt242.1 bt242.2 366) else (hourglasslaw4_CivilYears.j1 kj3 a0 t238 t239 bt240.1 bt240.2 bt242.1 bt242.2 365))))) = some r := H
          have A8 := Aside0.mk A80
          clear A80
          replace H := Option.bind_eq_some_iff.mp H
          obtain ⟨⟨t240, t241⟩, A90, H⟩ := H
          replace H : ((civil_Days.f kj3 (wrap64 (a0 + 400)) 1 1).bind fun bt242 => ((civil_Leap.f a0).bind fun t244 => (if t244 = true then (hourglasslaw4_CivilYears.j1 kj3 a0 t238 t239 t240 t241 bt242.1 bt242.2 366) else (hourglasslaw4_CivilYears.j1 kj3 a0 t238 t239 t240 t241 bt242.1 bt242.2 365)))) = some r := H
          have A9 := Aside0.mk A90
          clear A90
          replace H := Option.bind_eq_some_iff.mp H
          obtain ⟨⟨t242, t243⟩, A100, H⟩ := H
          replace H : ((civil_Leap.f a0).bind fun t244 => (if t244 = true then (hourglasslaw4_CivilYears.j1 kj3 a0 t238 t239 t240 t241 t242 t243 366) else (hourglasslaw4_CivilYears.j1 kj3 a0 t238 t239 t240 t241 t242 t243 365))) = some r := H
          have A10 := Aside0.mk A100
          clear A100
          replace H := Option.bind_eq_some_iff.mp H
          obtain ⟨t244, A110, H⟩ := H
          replace H : (if t244 = true then (hourglasslaw4_CivilYears.j1 kj3 a0 t238 t239 t240 t241 t242 t243 366) else (hourglasslaw4_CivilYears.j1 kj3 a0 t238 t239 t240 t241 t242 t243 365)) = some r := H
          have A11 := Aside0.mk A110
          clear A110
          have HC12 := Aside0.mk H
          clear H
          go_upto_if 41 with (first | ((with_reducible refine gate_callee (f := 12) rfl ?_); refine goesL_ (some 23) rfl rfl Tryd.func12 (by kernel_rfl) rfl #[.agg #[.int .i64 a0, .int .i64 1, .int .i64 1]] rfl (by (try simp only [List.map_toArray, List.map_cons, List.map_nil]); first | done | rfl | (simp only [List.length_drop, List.length_take]; rfl)) ?_; (with_reducible refine (civil_Days.calls kj3 a0 1 1 t238 t239 _ A8.out).mono ?_); rintro e w13 ⟨rfl, hb⟩; refine ⟨_, rfl, ?_⟩; have n0_ := Aside0.mk (below_step (by repeat (first | (with_reducible first | exact HB.out | apply below_alloc | apply pw_below_drewN | apply below_drew1) | exact HB.out)) hb); clear HB; have HB := n0_; clear n0_; (try clear hb); (try clear hb2); (try clear hk); (try clear hi)) | ((with_reducible refine gate_callee (f := 12) rfl ?_); refine goesL_ (some 30) rfl rfl Tryd.func12 (by kernel_rfl) rfl #[.agg #[.int .i64 (wrap64 (a0 + 1)), .int .i64 1, .int .i64 1]] rfl (by (try simp only [List.map_toArray, List.map_cons, List.map_nil]); first | done | rfl | (simp only [List.length_drop, List.length_take]; rfl)) ?_; (with_reducible refine (civil_Days.calls kj3 (wrap64 (a0 + 1)) 1 1 t240 t241 _ A9.out).mono ?_); rintro e w14 ⟨rfl, hb⟩; refine ⟨_, rfl, ?_⟩; have n0_ := Aside0.mk (below_step (by repeat (first | (with_reducible first | exact HB.out | apply below_alloc | apply pw_below_drewN | apply below_drew1) | exact HB.out)) hb); clear HB; have HB := n0_; clear n0_; (try clear hb); (try clear hb2); (try clear hk); (try clear hi)) | ((with_reducible refine gate_callee (f := 12) rfl ?_); refine goesL_ (some 37) rfl rfl Tryd.func12 (by kernel_rfl) rfl #[.agg #[.int .i64 (wrap64 (a0 + 400)), .int .i64 1, .int .i64 1]] rfl (by (try simp only [List.map_toArray, List.map_cons, List.map_nil]); first | done | rfl | (simp only [List.length_drop, List.length_take]; rfl)) ?_; (with_reducible refine (civil_Days.calls kj3 (wrap64 (a0 + 400)) 1 1 t242 t243 _ A10.out).mono ?_); rintro e w15 ⟨rfl, hb⟩; refine ⟨_, rfl, ?_⟩; have n0_ := Aside0.mk (below_step (by repeat (first | (with_reducible first | exact HB.out | apply below_alloc | apply pw_below_drewN | apply below_drew1) | exact HB.out)) hb); clear HB; have HB := n0_; clear n0_; (try clear hb); (try clear hb2); (try clear hk); (try clear hi)) | ((with_reducible refine gate_callee (f := 17) rfl ?_); refine goesL_ (some 41) rfl rfl Tryd.func17 (by kernel_rfl) rfl #[.int .i64 a0] rfl (by (try simp only [List.map_toArray, List.map_cons, List.map_nil]); first | done | rfl | (simp only [List.length_drop, List.length_take]; rfl)) ?_; (with_reducible refine (civil_Leap.calls a0 t244 _ A11.out).mono ?_); rintro e w' ⟨rfl, ⟨nd, rfl⟩⟩; refine ⟨_, rfl, ?_⟩))
          (try simp only [Act.put, List.setIfInBounds_toArray, List.set_cons_zero, List.set_cons_succ])
          go_cut [9] (fun v9 wc => ∃ (kq : Nat) (x9_11 : Int), v9 = .int .i64 x9_11 ∧ Aside0 (hourglasslaw4_CivilYears.j1 kq a0 t238 t239 t240 t241 t242 t243 x9_11 = some r) ∧ Aside0 (kq ≤ kj3) ∧ Aside0 (Below w.heap.size w wc))
          case first =>
            have H := HC12.out
            clear HC12
            by_cases c16 : t244 = true
            · subst c16
              have H1 : (hourglasslaw4_CivilYears.j1 kj3 a0 t238 t239 t240 t241 t242 t243 366) = some r := by rw [if_pos rfl] at H; exact H
              clear H
              have H := H1
              clear H1
              have H' := Aside0.mk H
              clear H
              go_wp2
              go_meet
              case rel => exact ⟨_, (366), (by first | rfl | (simp; done) | (simp [*]; done)), H', ⟨by have := HJ3.out; first | omega | exact Nat.le_refl _⟩, ⟨by repeat (first | (with_reducible first | exact HB.out | apply below_alloc | apply pw_below_drewN | apply below_drew1) | exact HB.out)⟩⟩
            · replace c16 := Bool.eq_false_iff.mpr c16
              subst c16
              have H1 : (hourglasslaw4_CivilYears.j1 kj3 a0 t238 t239 t240 t241 t242 t243 365) = some r := by rw [if_neg (show ¬ (false = true) by decide)] at H; exact H
              clear H
              have H := H1
              clear H1
              have H' := Aside0.mk H
              clear H
              go_wp2
              go_meet
              case rel => exact ⟨_, (365), (by first | rfl | (simp; done) | (simp [*]; done)), H', ⟨by have := HJ3.out; first | omega | exact Nat.le_refl _⟩, ⟨by repeat (first | (with_reducible first | exact HB.out | apply below_alloc | apply pw_below_drewN | apply below_drew1) | exact HB.out)⟩⟩
          case rest =>
            clear HC12
            try clear c1
            try clear p2
            try clear c3
            try clear c5
            try clear c6
            try clear c6b0
            try clear p6
            try clear c7
            try clear c11
            try clear c12
            try clear c16
            try clear p2
            obtain ⟨kq, x9_11, rfl, HA, HJ11, HB⟩ := hcut
            cases kq with
            | zero => exact absurd HA.out (by simp [hourglasslaw4_CivilYears.j1])
            | succ kj11 =>
              have H := HA.out
              clear HA
              simp only [hourglasslaw4_CivilYears.j1] at H
              have H' := Aside0.mk H
              clear H
              go_wp2
              go_loopg [10, 11] kj11 (fun kq v10 v11 w' => ∃ (x10_3 : Int) (x11_3 : Int), v10 = .int .i64 x10_3 ∧ v11 = .int .i64 x11_3 ∧ Aside0 (hourglasslaw4_CivilYears.l0 kq a0 t238 t239 t240 t241 t242 t243 x9_11 x10_3 x11_3 = some r) ∧ Aside0 (kq ≤ kj11) ∧ Aside0 (Below w.heap.size w w'))
              case atStart => exact ⟨(0), (1), (by first | rfl | (simp; done) | (simp [*]; done)), (by first | rfl | (simp; done) | (simp [*]; done)), H', ⟨Nat.le_refl _⟩, ⟨by repeat (first | (with_reducible first | exact HB.out | apply below_alloc | apply pw_below_drewN | apply below_drew1) | exact HB.out)⟩⟩
              case round =>
                clear H'
                try clear c1
                try clear p2
                try clear c3
                try clear c5
                try clear c6
                try clear c6b0
                try clear p6
                try clear c7
                try clear c11
                try clear c12
                try clear c16
                try clear p2
                try clear p6
                obtain ⟨x10_3, x11_3, rfl, rfl, HA, HK3, HB⟩ := hrel
                cases gk with
                | zero => exact absurd HA.out (by simp [hourglasslaw4_CivilYears.l0])
                | succ k3 =>
                  have H := HA.out
                  clear HA
                  simp only [hourglasslaw4_CivilYears.l0] at H
                  by_cases c17 : x11_3 ≤ 12
                  · rw [if_pos c17] at H
                    have c17b0 : decide (x11_3 ≤ 12) = true := decide_eq_true c17
                    clear c17
                    replace H := Option.bind_eq_some_iff.mp H
                    obtain ⟨t245, A180, H⟩ := H
                    replace H : (hourglasslaw4_CivilYears.l0 k3 a0 t238 t239 t240 t241 t242 t243 x9_11 (wrap64 (x10_3 + t245)) (wrap64 (x11_3 + 1))) = some r := H
                    have A18 := Aside0.mk A180
                    clear A180
                    have H' := Aside0.mk H
                    clear H
                    go_wp2_with (first | ((with_reducible refine gate_callee (f := 19) rfl ?_); refine goesL_ (some 49) rfl rfl Tryd.func19 (by kernel_rfl) rfl #[.int .i64 a0, .int .i64 x11_3] rfl (by (try simp only [List.map_toArray, List.map_cons, List.map_nil]); first | done | rfl | (simp only [List.length_drop, List.length_take]; rfl)) ?_; (with_reducible refine (civil_Length.calls k3 a0 x11_3 t245 _ A18.out).mono ?_); rintro e w' ⟨rfl, ⟨nd, rfl⟩⟩; refine ⟨_, rfl, ?_⟩))
                    go_roundg k3
                    case measure => have := HJ3.out; have := HJ11.out; have := HK3.out; omega
                    case rel => exact ⟨(wrap64 (x10_3 + t245)), (wrap64 (x11_3 + 1)), (by first | rfl | (simp; done) | (simp [*]; done)), (by first | rfl | (simp; done) | (simp [*]; done)), H', ⟨by have := HJ3.out; have := HJ11.out; have := HK3.out; omega⟩, ⟨by repeat (first | (with_reducible first | exact HB.out | apply below_alloc | apply pw_below_drewN | apply below_drew1) | exact HB.out)⟩⟩
                  · rw [if_neg c17] at H
                    have c17b0 : decide (x11_3 ≤ 12) = false := decide_eq_false c17
                    clear c17
                    by_cases c19 : t239 = 0
                    · rw [if_pos c19] at H
                      have c19b0 : (t239 == 0) = true := beq_iff_eq.mpr c19
                      have c19b1 : (t239 != 0) = false := bne_eq_false_iff_eq.mpr c19
                      clear c19
                      by_cases c20 : t241 = 0
                      · rw [if_pos c20] at H
                        have c20b0 : (t241 == 0) = true := beq_iff_eq.mpr c20
                        have c20b1 : (t241 != 0) = false := bne_eq_false_iff_eq.mpr c20
                        clear c20
                        by_cases c21 : t243 = 0
                        · rw [if_pos c21] at H
                          have c21b0 : (t243 == 0) = true := beq_iff_eq.mpr c21
                          have c21b1 : (t243 != 0) = false := bne_eq_false_iff_eq.mpr c21
                          clear c21
                          by_cases c22 : (wrap64 (t240 - t238)) = x9_11
                          · rw [if_pos c22] at H
                            have c22b0 : ((wrap64 (t240 - t238)) == x9_11) = true := beq_iff_eq.mpr c22
                            have c22b1 : ((wrap64 (t240 - t238)) != x9_11) = false := bne_eq_false_iff_eq.mpr c22
                            clear c22
                            by_cases c23 : x10_3 = x9_11
                            · rw [if_pos c23] at H
                              have c23b0 : (x10_3 == x9_11) = true := beq_iff_eq.mpr c23
                              have c23b1 : (x10_3 != x9_11) = false := bne_eq_false_iff_eq.mpr c23
                              clear c23
                              by_cases c24 : (wrap64 (t242 - t238)) = 146097
                              · rw [if_pos c24] at H
                                have c24b0 : ((wrap64 (t242 - t238)) == 146097) = true := beq_iff_eq.mpr c24
                                have c24b1 : ((wrap64 (t242 - t238)) != 146097) = false := bne_eq_false_iff_eq.mpr c24
                                clear c24
                                replace H := Option.bind_eq_some_iff.mp H
                                obtain ⟨t246, A250, H⟩ := H
                                replace H : ((civil_Weekday.f t242).bind fun t247 => (some (t246 == t247))) = some r := H
                                have A25 := Aside0.mk A250
                                clear A250
                                replace H := Option.bind_eq_some_iff.mp H
                                obtain ⟨t247, A260, H⟩ := H
                                replace H : (some (t246 == t247)) = some r := H
                                have A26 := Aside0.mk A260
                                clear A260
                                obtain rfl := Option.some.inj H
                                go_wp2_with (first | (go_at_call 21; (with_reducible refine (civil_Weekday.calls t238 t246 _ A25.out).mono ?_); rintro e w' ⟨rfl, ⟨nd, rfl⟩⟩) | (go_at_call 21; (with_reducible refine (civil_Weekday.calls t242 t247 _ A26.out).mono ?_); rintro e w' ⟨rfl, ⟨nd, rfl⟩⟩))
                                go_ret
                                exact ⟨by first | rfl | (simp [errW_none, errW_some] <;> rfl) | (simp [*, errW_none, errW_some] <;> rfl), by repeat (first | (with_reducible first | exact HB.out | apply below_alloc | apply pw_below_drewN | apply below_drew1) | exact HB.out)⟩
                              · rw [if_neg c24] at H
                                have c24b0 : ((wrap64 (t242 - t238)) == 146097) = false := beq_eq_false_iff_ne.mpr c24
                                have c24b1 : ((wrap64 (t242 - t238)) != 146097) = true := bne_iff_ne.mpr c24
                                cases (Option.some.inj H).trans hlaw_.out
                            · rw [if_neg c23] at H
                              have c23b0 : (x10_3 == x9_11) = false := beq_eq_false_iff_ne.mpr c23
                              have c23b1 : (x10_3 != x9_11) = true := bne_iff_ne.mpr c23
                              cases (Option.some.inj H).trans hlaw_.out
                          · rw [if_neg c22] at H
                            have c22b0 : ((wrap64 (t240 - t238)) == x9_11) = false := beq_eq_false_iff_ne.mpr c22
                            have c22b1 : ((wrap64 (t240 - t238)) != x9_11) = true := bne_iff_ne.mpr c22
                            cases (Option.some.inj H).trans hlaw_.out
                        · rw [if_neg c21] at H
                          have c21b0 : (t243 == 0) = false := beq_eq_false_iff_ne.mpr c21
                          have c21b1 : (t243 != 0) = true := bne_iff_ne.mpr c21
                          cases (Option.some.inj H).trans hlaw_.out
                      · rw [if_neg c20] at H
                        have c20b0 : (t241 == 0) = false := beq_eq_false_iff_ne.mpr c20
                        have c20b1 : (t241 != 0) = true := bne_iff_ne.mpr c20
                        cases (Option.some.inj H).trans hlaw_.out
                    · rw [if_neg c19] at H
                      have c19b0 : (t239 == 0) = false := beq_eq_false_iff_ne.mpr c19
                      have c19b1 : (t239 != 0) = true := bne_iff_ne.mpr c19
                      cases (Option.some.inj H).trans hlaw_.out
  · replace c3 := Bool.eq_false_iff.mpr c3
    subst c3
    have H1 : (some false) = some r := by rw [if_neg (show ¬ (false = true) by decide)] at H; exact H
    clear H
    have H := H1
    clear H1
    cases (Option.some.inj H).trans hlaw_.out

/-- THE ONE PURE STATEMENT of hourglasslaw4_CivilYears: yours. -/
def hourglasslaw4_CivilYears.Pure : Prop := ∀ (a0 : Int), (Lit.int .i64 a0).wf = true → ∃ k, hourglasslaw4_CivilYears.f k a0 = some true
theorem hourglasslaw4_CivilYears.walk (P : hourglasslaw4_CivilYears.Pure) (a0 : Int) (w : World) (w0 : (Lit.int .i64 a0).wf = true) :
    Calls Tryd.prog 5 #[.int .i64 a0] w fun e w' => e = .returned (.bool true) ∧ Below w.heap.size w w' := by
  obtain ⟨k, h⟩ := P a0 w0
  refine (hourglasslaw4_CivilYears.calls k a0 true w h (Aside0.mk rfl)).mono ?_
  rintro e w' ⟨rfl, hd⟩
  exact ⟨rfl, hd⟩

end Go.Proofs.YtbgdpkpljkcnfaaDoor.QCivil
