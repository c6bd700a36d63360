/- What the Go functions compute: each as a Lean function, with the proof that its call answers so; written by a program of this session over the kit's print. Conditions: each theorem's own. -/
import Derived.Test.YtacbaiflblngfaaQFramex0
import Derived.Test.YtacbaiflblngfaaQFramex2
import Derived.Test.YtacbaiflblngfaaQFramex4
import Derived.Test.YtacbaiflblngfaaQFramex5
import Derived.Test.YtacbaiflblngfaaQFramex10
namespace Go.Proofs.Ytacbaiflblngfaa.QFrame
open Go.RowKit Go.Proofs.YtacbaiflblngfaaW.PrintWords Go.Proofs.YtacbaiflblngfaaW.PrintLast Go.Proofs.YtacbaiflblngfaaW.PrintMore
attribute [local go_sem] max2_int min2_int max_two min_two max_three min_three max_four min_four u32_signed u32_max
set_option linter.unusedVariables false
set_option linter.unusedSimpArgs false

/-! ### hourglasslaw3_FrameTorn: function 5 -/
mutual
def hourglasslaw3_FrameTorn.j0 : Nat → List (List Int) → Int → Int → Bool → Option (Bool)
  | 0, _, _, _, _ => none
  | k + 1, x0, x1, x2, x22 => if x22 = true then (some true) else (hourglasslaw3_FrameTorn.l0 k x0 x1 x2 ([] : List Int) 0 0)
def hourglasslaw3_FrameTorn.l0 : Nat → List (List Int) → Int → Int → List Int → Int → Int → Option (Bool)
  | 0, _, _, _, _, _, _ => none
  | k + 1, x0, x1, x2, x7, x8, x9 => if x9 < (x0.length : Int) then (if 0 ≤ x9 then (if ((rd_L1 x0 x9).length : Int) > 200 then (some true) else ((frame_Put.f k x7 (rd_L1 x0 x9)).bind fun bt278 => (if (bt278.1.length : Int) ≤ x1 then (hourglasslaw3_FrameTorn.l0 k x0 x1 x2 bt278.1 (wrap64 (x9 + 1)) (wrap64 (x9 + 1))) else (hourglasslaw3_FrameTorn.l0 k x0 x1 x2 bt278.1 x8 (wrap64 (x9 + 1)))))) else (none)) else (if x1 < 0 then (hourglasslaw3_FrameTorn.j2 k x0 x1 x2 x7 x8 true) else (hourglasslaw3_FrameTorn.j2 k x0 x1 x2 x7 x8 (decide (x1 ≥ (x7.length : Int)))))
def hourglasslaw3_FrameTorn.j2 : Nat → List (List Int) → Int → Int → List Int → Int → Bool → Option (Bool)
  | 0, _, _, _, _, _, _ => none
  | k + 1, x0, x1, x2, x7, x8, x57 => if x57 = true then (some true) else ((some (([] : List Int) : List Int)).bind fun y282 => (if 0 ≤ x1 then (if x1 ≤ (x7.length : Int) then ((some (x7.take (x1 : Int).toNat : List Int)).bind fun y285 => (if y282.length + y285.length < 140737488355328 then ((some (y282 ++ y285 : List Int)).bind fun y289 => (if x1 < (x7.length : Int) then ((some (([Go.bits .xor .u8 (rd x7 x1) x2] : List Int) : List Int)).bind fun y293 => (if y289.length + y293.length < 140737488355328 then ((frame_Scan.f k (y289 ++ y293)).bind fun bt299 => (if 0 ≤ x8 then (if x8 ≤ (x0.length : Int) then ((hourglassref1_Same.f k bt299.1 (x0.take (x8 : Int).toNat)).bind fun t308 => (if t308 = true then (if bt299.2.1 ≤ x1 then (some (!bt299.2.2)) else (some false)) else (some false))) else (none)) else (none))) else (none))) else (none))) else (none))) else (none)) else (none)))
end
def hourglasslaw3_FrameTorn.f (k : Nat) (l0 : List (List Int)) (a1 : Int) (a2 : Int) : Option (Bool) := (hourglasslaw3_awake.f k).bind fun t275 => (if t275 = true then (if (l0.length : Int) > 10 then (hourglasslaw3_FrameTorn.j0 k l0 a1 a2 true) else (hourglasslaw3_FrameTorn.j0 k l0 a1 a2 (a2 == 0))) else (some false))
theorem hourglasslaw3_FrameTorn.mono_l : ∀ k, (∀ y0 y1 y2 y3, LeO (hourglasslaw3_FrameTorn.j0 k y0 y1 y2 y3) (hourglasslaw3_FrameTorn.j0 (k + 1) y0 y1 y2 y3)) ∧ (∀ y0 y1 y2 y3 y4 y5, LeO (hourglasslaw3_FrameTorn.l0 k y0 y1 y2 y3 y4 y5) (hourglasslaw3_FrameTorn.l0 (k + 1) y0 y1 y2 y3 y4 y5)) ∧ (∀ y0 y1 y2 y3 y4 y5, LeO (hourglasslaw3_FrameTorn.j2 k y0 y1 y2 y3 y4 y5) (hourglasslaw3_FrameTorn.j2 (k + 1) y0 y1 y2 y3 y4 y5))
  | 0 => ⟨fun _ _ _ _ r h => by simp [hourglasslaw3_FrameTorn.j0] at h, fun _ _ _ _ _ _ r h => by simp [hourglasslaw3_FrameTorn.l0] at h, fun _ _ _ _ _ _ r h => by simp [hourglasslaw3_FrameTorn.j2] at h⟩
  | k + 1 => by
    obtain ⟨ih0, ih1, ih2⟩ := hourglasslaw3_FrameTorn.mono_l k
    refine ⟨?_, ?_, ?_⟩
    · intro y0 y1 y2 y3
      unfold hourglasslaw3_FrameTorn.j0
      repeat' first
      | (with_reducible exact ih0 _ _ _ _)
      | (with_reducible exact ih1 _ _ _ _ _ _)
      | (with_reducible exact ih2 _ _ _ _ _ _)
      | (with_reducible exact frame_Put.mono _ _ _)
      | (with_reducible exact frame_Scan.mono _ _)
      | (with_reducible exact hourglasslaw3_awake.mono _)
      | (with_reducible exact hourglassref1_Same.mono _ _ _)
      | (with_reducible exact LeO.refl _)
      | (with_reducible exact LeO.none _)
      | (with_reducible refine LeO.ite ?_ ?_)
      | (with_reducible refine LeO.bind ?_ (fun _ => ?_))
      | exact ih0 _ _ _ _
      | exact ih1 _ _ _ _ _ _
      | exact ih2 _ _ _ _ _ _
      | exact frame_Put.mono _ _ _
      | exact frame_Scan.mono _ _
      | exact hourglasslaw3_awake.mono _
      | exact hourglassref1_Same.mono _ _ _
      | exact LeO.none _
      | refine LeO.ite ?_ ?_
      | refine LeO.bind ?_ (fun _ => ?_)
    · intro y0 y1 y2 y3 y4 y5
      unfold hourglasslaw3_FrameTorn.l0
      repeat' first
      | (with_reducible exact ih0 _ _ _ _)
      | (with_reducible exact ih1 _ _ _ _ _ _)
      | (with_reducible exact ih2 _ _ _ _ _ _)
      | (with_reducible exact frame_Put.mono _ _ _)
      | (with_reducible exact frame_Scan.mono _ _)
      | (with_reducible exact hourglasslaw3_awake.mono _)
      | (with_reducible exact hourglassref1_Same.mono _ _ _)
      | (with_reducible exact LeO.refl _)
      | (with_reducible exact LeO.none _)
      | (with_reducible refine LeO.ite ?_ ?_)
      | (with_reducible refine LeO.bind ?_ (fun _ => ?_))
      | exact ih0 _ _ _ _
      | exact ih1 _ _ _ _ _ _
      | exact ih2 _ _ _ _ _ _
      | exact frame_Put.mono _ _ _
      | exact frame_Scan.mono _ _
      | exact hourglasslaw3_awake.mono _
      | exact hourglassref1_Same.mono _ _ _
      | exact LeO.none _
      | refine LeO.ite ?_ ?_
      | refine LeO.bind ?_ (fun _ => ?_)
    · intro y0 y1 y2 y3 y4 y5
      unfold hourglasslaw3_FrameTorn.j2
      repeat' first
      | (with_reducible exact ih0 _ _ _ _)
      | (with_reducible exact ih1 _ _ _ _ _ _)
      | (with_reducible exact ih2 _ _ _ _ _ _)
      | (with_reducible exact frame_Put.mono _ _ _)
      | (with_reducible exact frame_Scan.mono _ _)
      | (with_reducible exact hourglasslaw3_awake.mono _)
      | (with_reducible exact hourglassref1_Same.mono _ _ _)
      | (with_reducible exact LeO.refl _)
      | (with_reducible exact LeO.none _)
      | (with_reducible refine LeO.ite ?_ ?_)
      | (with_reducible refine LeO.bind ?_ (fun _ => ?_))
      | exact ih0 _ _ _ _
      | exact ih1 _ _ _ _ _ _
      | exact ih2 _ _ _ _ _ _
      | exact frame_Put.mono _ _ _
      | exact frame_Scan.mono _ _
      | exact hourglasslaw3_awake.mono _
      | exact hourglassref1_Same.mono _ _ _
      | exact LeO.none _
      | refine LeO.ite ?_ ?_
      | refine LeO.bind ?_ (fun _ => ?_)
theorem hourglasslaw3_FrameTorn.mono : ∀ a0 a1 a2 k, LeO (hourglasslaw3_FrameTorn.f k a0 a1 a2) (hourglasslaw3_FrameTorn.f (k + 1) a0 a1 a2) := by
  intro a0 a1 a2 k
  obtain ⟨ih0, ih1, ih2⟩ := hourglasslaw3_FrameTorn.mono_l k
  unfold hourglasslaw3_FrameTorn.f
  repeat' first
      | (with_reducible exact ih0 _ _ _ _)
      | (with_reducible exact ih1 _ _ _ _ _ _)
      | (with_reducible exact ih2 _ _ _ _ _ _)
      | (with_reducible exact frame_Put.mono _ _ _)
      | (with_reducible exact frame_Scan.mono _ _)
      | (with_reducible exact hourglasslaw3_awake.mono _)
      | (with_reducible exact hourglassref1_Same.mono _ _ _)
      | (with_reducible exact LeO.refl _)
      | (with_reducible exact LeO.none _)
      | (with_reducible refine LeO.ite ?_ ?_)
      | (with_reducible refine LeO.bind ?_ (fun _ => ?_))
      | exact ih0 _ _ _ _
      | exact ih1 _ _ _ _ _ _
      | exact ih2 _ _ _ _ _ _
      | exact frame_Put.mono _ _ _
      | exact frame_Scan.mono _ _
      | exact hourglasslaw3_awake.mono _
      | exact hourglassref1_Same.mono _ _ _
      | exact LeO.none _
      | refine LeO.ite ?_ ?_
      | refine LeO.bind ?_ (fun _ => ?_)
def hourglasslaw3_FrameTorn.T17 : Bool × List (List Nat × List Nat) := (true, [([], []), ([], []), ([], []), ([1, 2], [1, 2]), ([0, 3], [0, 3]), ([], []), ([], []), ([5, 6], [5, 6]), ([7], [7]), ([], []), ([8, 9], [8, 9]), ([10], [10]), ([4, 11, 4], [4, 11]), ([12, 12, 0, 1, 2, 3, 4, 5, 6, 7, 8, 9, 10, 11, 12], [12])])
def hourglasslaw3_FrameTorn.B17 : List Nat := [0, 0, 0, 6, 15, 0, 0, 96, 224, 0, 992, 2016, 4095, 8191]
theorem hourglasslaw3_FrameTorn.tab17 : rtab .any (opsOf Try.f5 17) = hourglasslaw3_FrameTorn.T17 := by kernel_rfl
theorem hourglasslaw3_FrameTorn.bits17 : waitsOk hourglasslaw3_FrameTorn.T17.2 hourglasslaw3_FrameTorn.B17 = true := by kernel_rfl
set_option maxHeartbeats 8000000 in
set_option maxRecDepth 100000 in
theorem hourglasslaw3_FrameTorn.calls (k : Nat) (A0 : Option Addr) (c0 : Nat) (l0 : List (List Int)) (a1 : Int) (a2 : Int) (r : Bool) (w : World) (hr0 : Kd.C (Kd.slice 5 (Kd.int .u8)) w A0 l0.length l0) (hc0 : l0.length ≤ c0) (h : hourglasslaw3_FrameTorn.f k l0 a1 a2 = some r) (hlaw_ : Aside0 (r = true)) :
    Calls Try.prog 5 #[.slice A0 l0.length c0, .int .i64 a1, .int .u8 a2] w fun e w' => e = .returned (.bool r) ∧ Below w.heap.size w w' := by
  have HR0 := Aside0.mk hr0
  have HC0 := Aside0.mk hc0
  clear hr0 hc0
  have HB := Aside0.mk (Below.refl w.heap.size w)
  have H : ((hourglasslaw3_awake.f k).bind fun t275 => (if t275 = true then (if (l0.length : Int) > 10 then (hourglasslaw3_FrameTorn.j0 k l0 a1 a2 true) else (hourglasslaw3_FrameTorn.j0 k l0 a1 a2 (a2 == 0))) else (some false))) = some r := h
  clear h
  replace H := Option.bind_eq_some_iff.mp H
  obtain ⟨t275, A40, H⟩ := H
  replace H : (if t275 = true then (if (l0.length : Int) > 10 then (hourglasslaw3_FrameTorn.j0 k l0 a1 a2 true) else (hourglasslaw3_FrameTorn.j0 k l0 a1 a2 (a2 == 0))) else (some false)) = some r := H
  have A4 := Aside0.mk A40
  clear A40
  by_cases c5 : t275 = true
  · subst c5
    have H1 : (if (l0.length : Int) > 10 then (hourglasslaw3_FrameTorn.j0 k l0 a1 a2 true) else (hourglasslaw3_FrameTorn.j0 k l0 a1 a2 (a2 == 0))) = some r := by rw [if_pos rfl] at H; exact H
    clear H
    have H := H1
    clear H1
    have HC6 := Aside0.mk H
    clear H
    go_enter Try.func5, Try.ntmps5
    go_upto_region 3 with (first | ((with_reducible refine gate_callee (f := 7) rfl ?_); refine goesL_ (some 14) rfl rfl Try.func7 (by kernel_rfl) rfl #[] rfl (by (try simp only [List.map_toArray, List.map_cons, List.map_nil]); first | done | rfl | (simp only [List.length_drop, List.length_take]; rfl)) ?_; (with_reducible refine (hourglasslaw3_awake.calls k  true _ A4.out).mono ?_); rintro e w7 ⟨rfl, hb⟩; refine ⟨_, rfl, ?_⟩; have n0_ := Aside0.mk (below_step (by repeat (first | (with_reducible first | exact HB.out | apply below_alloc | apply pw_below_drewN | apply below_drew1) | exact HB.out)) hb); clear HB; have HB := n0_; clear n0_; (try clear hb); (try clear hb2); (try clear hk); (try clear hi)))
    (try simp only [Act.put, List.setIfInBounds_toArray, List.set_cons_zero, List.set_cons_succ])
    go_cut [22] (fun v22 wc => ∃ (kq : Nat) (x22_5 : Bool), v22 = .bool x22_5 ∧ Aside0 (hourglasslaw3_FrameTorn.j0 kq l0 a1 a2 x22_5 = some r) ∧ Aside0 (kq ≤ k) ∧ Aside0 (Below w.heap.size w wc))
    case first =>
      have H := HC6.out
      clear HC6
      by_cases c8 : (l0.length : Int) > 10
      · rw [if_pos c8] at H
        have c8b0 : decide (10 < (l0.length : Int)) = true := decide_eq_true c8
        have c8b1 : decide (10 < l0.length) = true := decide_eq_true (by omega)
        clear c8
        (first | rw [c8b0] | (simp only [i64_w, i32_w]; rw [c8b0]) | skip)
        have H' := Aside0.mk H
        clear H
        go_wp2
        go_meet
        case rel => exact ⟨_, (true), (by first | rfl | (simp; done) | (simp [*]; done)), H', ⟨by first | omega | exact Nat.le_refl _⟩, ⟨by repeat (first | (with_reducible first | exact HB.out | apply below_alloc | apply pw_below_drewN | apply below_drew1) | exact HB.out)⟩⟩
      · rw [if_neg c8] at H
        have c8b0 : decide (10 < (l0.length : Int)) = false := decide_eq_false c8
        have c8b1 : decide (10 < l0.length) = false := decide_eq_false (by omega)
        clear c8
        (first | rw [c8b0] | (simp only [i64_w, i32_w]; rw [c8b0]) | skip)
        have H' := Aside0.mk H
        clear H
        go_wp2
        go_meet
        case rel => exact ⟨_, ((a2 == 0)), (by first | rfl | (simp; done) | (simp [*]; done)), H', ⟨by first | omega | exact Nat.le_refl _⟩, ⟨by repeat (first | (with_reducible first | exact HB.out | apply below_alloc | apply pw_below_drewN | apply below_drew1) | exact HB.out)⟩⟩
    case rest =>
      clear HC6
      try clear p2
      try clear c5
      try clear c7
      try clear c8
      try clear c8b0
      try clear c8b1
      obtain ⟨kq, x22_5, rfl, HA, HJ5, HB⟩ := hcut
      cases kq with
      | zero => exact absurd HA.out (by simp [hourglasslaw3_FrameTorn.j0])
      | succ kj5 =>
        have H := HA.out
        clear HA
        simp only [hourglasslaw3_FrameTorn.j0] at H
        by_cases c9 : x22_5 = true
        · subst c9
          have H1 : (some true) = some r := by rw [if_pos rfl] at H; exact H
          clear H
          have H := H1
          clear H1
          obtain rfl := Option.some.inj H
          go_wp2
          go_ret
          exact ⟨by first | rfl | (simp [errW_none, errW_some] <;> rfl) | (simp [*, errW_none, errW_some] <;> rfl), by repeat (first | (with_reducible first | exact HB.out | apply below_alloc | apply pw_below_drewN | apply below_drew1) | exact HB.out)⟩
        · replace c9 := Bool.eq_false_iff.mpr c9
          subst c9
          have H1 : (hourglasslaw3_FrameTorn.l0 kj5 l0 a1 a2 ([] : List Int) 0 0) = some r := by rw [if_neg (show ¬ (false = true) by decide)] at H; exact H
          clear H
          have H := H1
          clear H1
          have H' := Aside0.mk H
          clear H
          go_wp2
          go_loopg [7, 8, 9] kj5 (fun kq v7 v8 v9 w' => ∃ (x7_2 : List Int) (x8_2 : Int) (x9_2 : Int), v8 = .int .i64 x8_2 ∧ v9 = .int .i64 x9_2 ∧ Aside0 (hourglasslaw3_FrameTorn.l0 kq l0 a1 a2 x7_2 x8_2 x9_2 = some r) ∧ Aside0 (kq ≤ kj5) ∧ Aside0 (Kd.R (Kd.int .u8) 5 w' w.heap.size (fun _ => True) v7 x7_2) ∧ Aside0 (Below w.heap.size w w'))
          case atStart => exact ⟨(([] : List Int)), (0), (0), (by first | rfl | (simp; done) | (simp [*]; done)), (by first | rfl | (simp; done) | (simp [*]; done)), H', ⟨Nat.le_refl _⟩, ⟨by first | exact Kd.R_nil _ _ _ _ _ | exact Kd.N_nil _ _ _ _ _ | exact Kd.V_nil _ _ _ _ _ | exact Kd.Q_nil _ _ _ _ _ | exact Kd.S_nil _ _ _ _ _⟩, ⟨by repeat (first | (with_reducible first | exact HB.out | apply below_alloc | apply pw_below_drewN | apply below_drew1) | exact HB.out)⟩⟩
          case round =>
            clear H'
            try clear p2
            try clear c5
            try clear c7
            try clear c8
            try clear c8b0
            try clear c8b1
            try clear c9
            try clear p2
            obtain ⟨x7_2, x8_2, x9_2, rfl, rfl, HA, HK2, HO_7, HB⟩ := hrel
            cases gk with
            | zero => exact absurd HA.out (by simp [hourglasslaw3_FrameTorn.l0])
            | succ k2 =>
              have H := HA.out
              clear HA
              simp only [hourglasslaw3_FrameTorn.l0] at H
              by_cases c10 : x9_2 < (l0.length : Int)
              · rw [if_pos c10] at H
                have c10b0 : decide (x9_2 < (l0.length : Int)) = true := decide_eq_true c10
                clear c10
                by_cases c11 : 0 ≤ x9_2
                · rw [if_pos c11] at H
                  have c11b0 : decide (0 ≤ x9_2) = true := decide_eq_true c11
                  clear c11
                  by_cases c12 : ((rd_L1 l0 x9_2).length : Int) > 200
                  · rw [if_pos c12] at H
                    have c12b0 : decide (200 < ((rd_L1 l0 x9_2).length : Int)) = true := decide_eq_true c12
                    have c12b1 : decide (200 < (rd_L1 l0 x9_2).length) = true := decide_eq_true (by omega)
                    clear c12
                    obtain rfl := Option.some.inj H
                    have p276 : 0 ≤ (x9_2 : Int) := of_decide_eq_true (by first | (with_reducible assumption) | assumption)
                    have q276 : x9_2 < (l0.length : Int) := of_decide_eq_true (by first | (with_reducible assumption) | assumption)
                    obtain ⟨ad276, A276_0, c276_0, e276, hx276_0, hl276_0, hi276_0⟩ := at_L1 HR0.out x9_2 p276 q276
                    cases e276
                    replace hx276_0 := (HB.out.cell (World.block_lt_of_cell? w _ hx276_0)).trans hx276_0
                    have HR276_0 := Aside0.mk hi276_0
                    have HC276_0 := Aside0.mk hl276_0
                    clear hi276_0 hl276_0
                    replace p276 := eq_true p276
                    replace q276 := eq_true q276
                    go_wp2
                    go_ret
                    exact ⟨by first | rfl | (simp [errW_none, errW_some] <;> rfl) | (simp [*, errW_none, errW_some] <;> rfl), by repeat (first | (with_reducible first | exact HB.out | apply below_alloc | apply pw_below_drewN | apply below_drew1) | exact HB.out)⟩
                  · rw [if_neg c12] at H
                    have c12b0 : decide (200 < ((rd_L1 l0 x9_2).length : Int)) = false := decide_eq_false c12
                    have c12b1 : decide (200 < (rd_L1 l0 x9_2).length) = false := decide_eq_false (by omega)
                    clear c12
                    replace H := Option.bind_eq_some_iff.mp H
                    obtain ⟨⟨t278, t279⟩, A130, H⟩ := H
                    replace H : (if (t278.length : Int) ≤ a1 then (hourglasslaw3_FrameTorn.l0 k2 l0 a1 a2 t278 (wrap64 (x9_2 + 1)) (wrap64 (x9_2 + 1))) else (hourglasslaw3_FrameTorn.l0 k2 l0 a1 a2 t278 x8_2 (wrap64 (x9_2 + 1)))) = some r := H
                    have A13 := Aside0.mk A130
                    clear A130
                    by_cases c14 : (t278.length : Int) ≤ a1
                    · rw [if_pos c14] at H
                      have c14b0 : decide ((t278.length : Int) ≤ a1) = true := decide_eq_true c14
                      clear c14
                      have H' := Aside0.mk H
                      clear H
                      have p276 : 0 ≤ (x9_2 : Int) := of_decide_eq_true (by first | (with_reducible assumption) | assumption)
                      have q276 : x9_2 < (l0.length : Int) := of_decide_eq_true (by first | (with_reducible assumption) | assumption)
                      obtain ⟨ad276, A276_0, c276_0, e276, hx276_0, hl276_0, hi276_0⟩ := at_L1 HR0.out x9_2 p276 q276
                      cases e276
                      replace hx276_0 := (HB.out.cell (World.block_lt_of_cell? w _ hx276_0)).trans hx276_0
                      have HR276_0 := Aside0.mk hi276_0
                      have HC276_0 := Aside0.mk hl276_0
                      clear hi276_0 hl276_0
                      replace p276 := eq_true p276
                      replace q276 := eq_true q276
                      have p277 : 0 ≤ (x9_2 : Int) := of_decide_eq_true (by first | (with_reducible assumption) | assumption)
                      have q277 : x9_2 < (l0.length : Int) := of_decide_eq_true (by first | (with_reducible assumption) | assumption)
                      obtain ⟨ad277, A277_0, c277_0, e277, hx277_0, hl277_0, hi277_0⟩ := at_L1 HR0.out x9_2 p277 q277
                      obtain rfl : ad276 = ad277 := (by injection e277)
                      replace hx277_0 := (HB.out.cell (World.block_lt_of_cell? w _ hx277_0)).trans hx277_0
                      have HR277_0 := Aside0.mk hi277_0
                      have HC277_0 := Aside0.mk hl277_0
                      clear hi277_0 hl277_0
                      replace p277 := eq_true p277
                      replace q277 := eq_true q277
                      have ea_ := Option.some.inj (hx276_0.symm.trans hx277_0)
                      injection ea_ with ea_ en_ ec_
                      subst ea_
                      subst ec_
                      clear en_
                      obtain ⟨Ao15, co15, eo15⟩ := Kd.R_slice HO_7.out
                      subst eo15
                      go_wp2_with (first | ((with_reducible refine gate_callee (f := 8) rfl ?_); refine goesL_ (some 41) rfl rfl Try.func8 (by kernel_rfl) rfl #[.slice Ao15 x7_2.length co15, .slice A276_0 (rd_L1 l0 x9_2).length c276_0] rfl (by (try simp only [List.map_toArray, List.map_cons, List.map_nil]); first | done | rfl | (simp only [List.length_drop, List.length_take]; rfl)) ?_; (with_reducible refine (frame_Put.calls k2 _ _ x7_2 _ _ (rd_L1 l0 x9_2) t278 t279 _ ?side1 ?side2 ?side3 ?side4 A13.out).mono ?_); (case side1 => repeat (first | exact (Kd.R_reads' HO_7.out).2.2 | (with_reducible refine Kd.C_alloc ?_ _) | (with_reducible refine Kd.C_drewN ?_ _) | (with_reducible refine Kd.C_drew ?_))); (case side2 => exact (Kd.R_reads' HO_7.out).2.1); (case side3 => repeat (first | exact (Kd.C_below HR277_0.out HB.out) | (with_reducible refine Kd.C_alloc ?_ _) | (with_reducible refine Kd.C_drewN ?_ _) | (with_reducible refine Kd.C_drew ?_))); (case side4 => exact HC277_0.out); rintro e w16 ⟨v280, rfl, ho0, hb⟩; refine ⟨_, rfl, ?_⟩; have n0_ := Aside0.mk (Kd.R_elder' (by (with_reducible repeat (first | apply Kd.R_alloc | apply Kd.R_drewN | apply Kd.R_drew)); exact HO_7.out) (Kd.R_base ho0) hb); have n1_ := Aside0.mk (Kd.R_lower (Kd.R_new' ho0 (Kd.R_lt (by (with_reducible repeat (first | apply Kd.R_alloc | apply Kd.R_drewN | apply Kd.R_drew)); exact HO_7.out))) (below_size (by repeat (first | (with_reducible first | exact HB.out | apply below_alloc | apply pw_below_drewN | apply below_drew1) | exact HB.out)))); have n2_ := Aside0.mk (below_step (by repeat (first | (with_reducible first | exact HB.out | apply below_alloc | apply pw_below_drewN | apply below_drew1) | exact HB.out)) hb); clear HO_7; clear HB; have HO_7 := n0_; have HO281 := n1_; have HB := n2_; clear n0_ n1_ n2_; (try clear hb); (try clear hb2); (try clear hk); (try clear hi); (try clear ho0); obtain ⟨Ao17, co17, eo17⟩ := Kd.R_slice HO281.out; subst eo17))
                      go_roundg k2
                      case measure => have := HJ5.out; have := HK2.out; omega
                      case rel => exact ⟨(t278), (wrap64 (x9_2 + 1)), (wrap64 (x9_2 + 1)), (by first | rfl | (simp; done) | (simp [*]; done)), (by first | rfl | (simp; done) | (simp [*]; done)), H', ⟨by have := HJ5.out; have := HK2.out; omega⟩, ⟨by (with_reducible repeat (first | apply Kd.R_alloc | apply Kd.R_drewN | apply Kd.R_drew)); exact Kd.R_mono HO281.out (fun _ hk => trivial)⟩, ⟨by repeat (first | (with_reducible first | exact HB.out | apply below_alloc | apply pw_below_drewN | apply below_drew1) | exact HB.out)⟩⟩
                    · rw [if_neg c14] at H
                      have c14b0 : decide ((t278.length : Int) ≤ a1) = false := decide_eq_false c14
                      clear c14
                      have H' := Aside0.mk H
                      clear H
                      have p276 : 0 ≤ (x9_2 : Int) := of_decide_eq_true (by first | (with_reducible assumption) | assumption)
                      have q276 : x9_2 < (l0.length : Int) := of_decide_eq_true (by first | (with_reducible assumption) | assumption)
                      obtain ⟨ad276, A276_0, c276_0, e276, hx276_0, hl276_0, hi276_0⟩ := at_L1 HR0.out x9_2 p276 q276
                      cases e276
                      replace hx276_0 := (HB.out.cell (World.block_lt_of_cell? w _ hx276_0)).trans hx276_0
                      have HR276_0 := Aside0.mk hi276_0
                      have HC276_0 := Aside0.mk hl276_0
                      clear hi276_0 hl276_0
                      replace p276 := eq_true p276
                      replace q276 := eq_true q276
                      have p277 : 0 ≤ (x9_2 : Int) := of_decide_eq_true (by first | (with_reducible assumption) | assumption)
                      have q277 : x9_2 < (l0.length : Int) := of_decide_eq_true (by first | (with_reducible assumption) | assumption)
                      obtain ⟨ad277, A277_0, c277_0, e277, hx277_0, hl277_0, hi277_0⟩ := at_L1 HR0.out x9_2 p277 q277
                      obtain rfl : ad276 = ad277 := (by injection e277)
                      replace hx277_0 := (HB.out.cell (World.block_lt_of_cell? w _ hx277_0)).trans hx277_0
                      have HR277_0 := Aside0.mk hi277_0
                      have HC277_0 := Aside0.mk hl277_0
                      clear hi277_0 hl277_0
                      replace p277 := eq_true p277
                      replace q277 := eq_true q277
                      have ea_ := Option.some.inj (hx276_0.symm.trans hx277_0)
                      injection ea_ with ea_ en_ ec_
                      subst ea_
                      subst ec_
                      clear en_
                      obtain ⟨Ao18, co18, eo18⟩ := Kd.R_slice HO_7.out
                      subst eo18
                      go_wp2_with (first | ((with_reducible refine gate_callee (f := 8) rfl ?_); refine goesL_ (some 41) rfl rfl Try.func8 (by kernel_rfl) rfl #[.slice Ao18 x7_2.length co18, .slice A276_0 (rd_L1 l0 x9_2).length c276_0] rfl (by (try simp only [List.map_toArray, List.map_cons, List.map_nil]); first | done | rfl | (simp only [List.length_drop, List.length_take]; rfl)) ?_; (with_reducible refine (frame_Put.calls k2 _ _ x7_2 _ _ (rd_L1 l0 x9_2) t278 t279 _ ?side1 ?side2 ?side3 ?side4 A13.out).mono ?_); (case side1 => repeat (first | exact (Kd.R_reads' HO_7.out).2.2 | (with_reducible refine Kd.C_alloc ?_ _) | (with_reducible refine Kd.C_drewN ?_ _) | (with_reducible refine Kd.C_drew ?_))); (case side2 => exact (Kd.R_reads' HO_7.out).2.1); (case side3 => repeat (first | exact (Kd.C_below HR277_0.out HB.out) | (with_reducible refine Kd.C_alloc ?_ _) | (with_reducible refine Kd.C_drewN ?_ _) | (with_reducible refine Kd.C_drew ?_))); (case side4 => exact HC277_0.out); rintro e w19 ⟨v280, rfl, ho0, hb⟩; refine ⟨_, rfl, ?_⟩; have n0_ := Aside0.mk (Kd.R_elder' (by (with_reducible repeat (first | apply Kd.R_alloc | apply Kd.R_drewN | apply Kd.R_drew)); exact HO_7.out) (Kd.R_base ho0) hb); have n1_ := Aside0.mk (Kd.R_lower (Kd.R_new' ho0 (Kd.R_lt (by (with_reducible repeat (first | apply Kd.R_alloc | apply Kd.R_drewN | apply Kd.R_drew)); exact HO_7.out))) (below_size (by repeat (first | (with_reducible first | exact HB.out | apply below_alloc | apply pw_below_drewN | apply below_drew1) | exact HB.out)))); have n2_ := Aside0.mk (below_step (by repeat (first | (with_reducible first | exact HB.out | apply below_alloc | apply pw_below_drewN | apply below_drew1) | exact HB.out)) hb); clear HO_7; clear HB; have HO_7 := n0_; have HO281 := n1_; have HB := n2_; clear n0_ n1_ n2_; (try clear hb); (try clear hb2); (try clear hk); (try clear hi); (try clear ho0); obtain ⟨Ao20, co20, eo20⟩ := Kd.R_slice HO281.out; subst eo20))
                      go_roundg k2
                      case measure => have := HJ5.out; have := HK2.out; omega
                      case rel => exact ⟨(t278), (x8_2), (wrap64 (x9_2 + 1)), (by first | rfl | (simp; done) | (simp [*]; done)), (by first | rfl | (simp; done) | (simp [*]; done)), H', ⟨by have := HJ5.out; have := HK2.out; omega⟩, ⟨by (with_reducible repeat (first | apply Kd.R_alloc | apply Kd.R_drewN | apply Kd.R_drew)); exact Kd.R_mono HO281.out (fun _ hk => trivial)⟩, ⟨by repeat (first | (with_reducible first | exact HB.out | apply below_alloc | apply pw_below_drewN | apply below_drew1) | exact HB.out)⟩⟩
                · rw [if_neg c11] at H
                  exact absurd H (by simp)
              · rw [if_neg c10] at H
                have c10b0 : decide (x9_2 < (l0.length : Int)) = false := decide_eq_false c10
                clear c10
                have HC21 := Aside0.mk H
                clear H
                go_upto_region 15 with (fail)
                go_cut [57] (fun v57 wc => ∃ (kq : Nat) (x57_20 : Bool), v57 = .bool x57_20 ∧ Aside0 (hourglasslaw3_FrameTorn.j2 kq l0 a1 a2 x7_2 x8_2 x57_20 = some r) ∧ Aside0 (kq ≤ k2) ∧ Aside0 (Kd.R (Kd.int .u8) 5 wc w.heap.size (fun _ => True) u7 x7_2) ∧ Aside0 (Below w.heap.size w wc))
                case first =>
                  have H := HC21.out
                  clear HC21
                  by_cases c22 : a1 < 0
                  · rw [if_pos c22] at H
                    have c22b0 : decide (a1 < 0) = true := decide_eq_true c22
                    clear c22
                    (first | rw [c22b0] | (simp only [i64_w, i32_w]; rw [c22b0]) | skip)
                    have H' := Aside0.mk H
                    clear H
                    go_wp2
                    go_meet
                    case rel => exact ⟨_, (true), (by first | rfl | (simp; done) | (simp [*]; done)), H', ⟨by have := HJ5.out; have := HK2.out; first | omega | exact Nat.le_refl _⟩, ⟨by (with_reducible repeat (first | apply Kd.R_alloc | apply Kd.R_drewN | apply Kd.R_drew)); exact HO_7.out⟩, ⟨by repeat (first | (with_reducible first | exact HB.out | apply below_alloc | apply pw_below_drewN | apply below_drew1) | exact HB.out)⟩⟩
                  · rw [if_neg c22] at H
                    have c22b0 : decide (a1 < 0) = false := decide_eq_false c22
                    clear c22
                    (first | rw [c22b0] | (simp only [i64_w, i32_w]; rw [c22b0]) | skip)
                    have H' := Aside0.mk H
                    clear H
                    obtain ⟨Ao23, co23, eo23⟩ := Kd.R_slice HO_7.out
                    subst eo23
                    go_wp2
                    go_meet
                    case rel => exact ⟨_, (decide (a1 ≥ (x7_2.length : Int))), (by first | rfl | (simp; done) | (simp [*]; done)), H', ⟨by have := HJ5.out; have := HK2.out; first | omega | exact Nat.le_refl _⟩, ⟨by (with_reducible repeat (first | apply Kd.R_alloc | apply Kd.R_drewN | apply Kd.R_drew)); exact HO_7.out⟩, ⟨by repeat (first | (with_reducible first | exact HB.out | apply below_alloc | apply pw_below_drewN | apply below_drew1) | exact HB.out)⟩⟩
                case rest =>
                  clear HC21
                  try clear c1
                  try clear c2
                  try clear p2
                  try clear q2
                  try clear hx2
                  try clear c5
                  try clear p6
                  try clear c7
                  try clear c8
                  try clear c8b0
                  try clear c8b1
                  try clear c9
                  try clear c10
                  try clear c10b0
                  try clear c11
                  try clear c11b0
                  try clear c12
                  try clear c12b0
                  try clear c12b1
                  try clear c14
                  try clear c14b0
                  try clear c22
                  try clear c22b0
                  try clear hx276_0
                  try clear hx277_0
                  try clear p2
                  try clear p276
                  try clear p277
                  try clear q276
                  try clear q277
                  obtain ⟨kq, x57_20, rfl, HA, HJ20, HO_7, HB⟩ := hcut
                  cases kq with
                  | zero => exact absurd HA.out (by simp [hourglasslaw3_FrameTorn.j2])
                  | succ kj20 =>
                    have H := HA.out
                    clear HA
                    simp only [hourglasslaw3_FrameTorn.j2] at H
                    by_cases c24 : x57_20 = true
                    · subst c24
                      have H1 : (some true) = some r := by rw [if_pos rfl] at H; exact H
                      clear H
                      have H := H1
                      clear H1
                      obtain rfl := Option.some.inj H
                      go_wp2
                      go_ret
                      exact ⟨by first | rfl | (simp [errW_none, errW_some] <;> rfl) | (simp [*, errW_none, errW_some] <;> rfl), by repeat (first | (with_reducible first | exact HB.out | apply below_alloc | apply pw_below_drewN | apply below_drew1) | exact HB.out)⟩
                    · replace c24 := Bool.eq_false_iff.mpr c24
                      subst c24
                      have H1 : ((some (([] : List Int) : List Int)).bind fun y282 => (if 0 ≤ a1 then (if a1 ≤ (x7_2.length : Int) then ((some (x7_2.take (a1 : Int).toNat : List Int)).bind fun y285 => (if y282.length + y285.length < 140737488355328 then ((some (y282 ++ y285 : List Int)).bind fun y289 => (if a1 < (x7_2.length : Int) then ((some (([Go.bits .xor .u8 (rd x7_2 a1) a2] : List Int) : List Int)).bind fun y293 => (if y289.length + y293.length < 140737488355328 then ((frame_Scan.f kj20 (y289 ++ y293)).bind fun bt299 => (if 0 ≤ x8_2 then (if x8_2 ≤ (l0.length : Int) then ((hourglassref1_Same.f kj20 bt299.1 (l0.take (x8_2 : Int).toNat)).bind fun t308 => (if t308 = true then (if bt299.2.1 ≤ a1 then (some (!bt299.2.2)) else (some false)) else (some false))) else (none)) else (none))) else (none))) else (none))) else (none))) else (none)) else (none))) = some r := by rw [if_neg (show ¬ (false = true) by decide)] at H; exact H
                      clear H
                      have H := H1
                      clear H1
                      obtain ⟨y282, hy282⟩ : ∃ y_ : List Int, y_ = (([] : List Int)) := ⟨_, rfl⟩
                      replace H : (if 0 ≤ a1 then (if a1 ≤ (x7_2.length : Int) then ((some (x7_2.take (a1 : Int).toNat : List Int)).bind fun y285 => (if y282.length + y285.length < 140737488355328 then ((some (y282 ++ y285 : List Int)).bind fun y289 => (if a1 < (x7_2.length : Int) then ((some (([Go.bits .xor .u8 (rd x7_2 a1) a2] : List Int) : List Int)).bind fun y293 => (if y289.length + y293.length < 140737488355328 then ((frame_Scan.f kj20 (y289 ++ y293)).bind fun bt299 => (if 0 ≤ x8_2 then (if x8_2 ≤ (l0.length : Int) then ((hourglassref1_Same.f kj20 bt299.1 (l0.take (x8_2 : Int).toNat)).bind fun t308 => (if t308 = true then (if bt299.2.1 ≤ a1 then (some (!bt299.2.2)) else (some false)) else (some false))) else (none)) else (none))) else (none))) else (none))) else (none))) else (none)) else (none)) = some r := by first | (rw [hy282]; with_reducible exact H) | (have H2_ := (Option.bind_some _ _).symm.trans H; rw [hy282]; with_reducible exact H2_) | (have H2_ := (Option.bind_some _ _).symm.trans H; with_reducible exact H2_) | with_reducible exact H | (rw [hy282]; exact H) | exact H
                      have Ny282 := Aside0.mk hy282
                      clear hy282
                      by_cases c25 : 0 ≤ a1
                      · rw [if_pos c25] at H
                        have c25b0 := eq_true c25
                        have c25b1 : decide (0 ≤ a1) = true := decide_eq_true c25
                        clear c25
                        by_cases c26 : a1 ≤ (x7_2.length : Int)
                        · rw [if_pos c26] at H
                          have c26b0 := eq_true c26
                          have c26b1 : decide (a1 ≤ (x7_2.length : Int)) = true := decide_eq_true c26
                          clear c26
                          obtain ⟨y285, hy285⟩ : ∃ y_ : List Int, y_ = (x7_2.take (a1 : Int).toNat) := ⟨_, rfl⟩
                          replace H : (if y282.length + y285.length < 140737488355328 then ((some (y282 ++ y285 : List Int)).bind fun y289 => (if a1 < (x7_2.length : Int) then ((some (([Go.bits .xor .u8 (rd x7_2 a1) a2] : List Int) : List Int)).bind fun y293 => (if y289.length + y293.length < 140737488355328 then ((frame_Scan.f kj20 (y289 ++ y293)).bind fun bt299 => (if 0 ≤ x8_2 then (if x8_2 ≤ (l0.length : Int) then ((hourglassref1_Same.f kj20 bt299.1 (l0.take (x8_2 : Int).toNat)).bind fun t308 => (if t308 = true then (if bt299.2.1 ≤ a1 then (some (!bt299.2.2)) else (some false)) else (some false))) else (none)) else (none))) else (none))) else (none))) else (none)) = some r := by first | (rw [hy285]; with_reducible exact H) | (have H2_ := (Option.bind_some _ _).symm.trans H; rw [hy285]; with_reducible exact H2_) | (have H2_ := (Option.bind_some _ _).symm.trans H; with_reducible exact H2_) | with_reducible exact H | (rw [hy285]; exact H) | exact H
                          have Ny285 := Aside0.mk hy285
                          clear hy285
                          by_cases c27 : y282.length + y285.length < 140737488355328
                          · rw [if_pos c27] at H
                            have LMc27 := Aside0.mk c27
                            clear c27
                            obtain ⟨y289, hy289⟩ : ∃ y_ : List Int, y_ = (y282 ++ y285) := ⟨_, rfl⟩
                            replace H : (if a1 < (x7_2.length : Int) then ((some (([Go.bits .xor .u8 (rd x7_2 a1) a2] : List Int) : List Int)).bind fun y293 => (if y289.length + y293.length < 140737488355328 then ((frame_Scan.f kj20 (y289 ++ y293)).bind fun bt299 => (if 0 ≤ x8_2 then (if x8_2 ≤ (l0.length : Int) then ((hourglassref1_Same.f kj20 bt299.1 (l0.take (x8_2 : Int).toNat)).bind fun t308 => (if t308 = true then (if bt299.2.1 ≤ a1 then (some (!bt299.2.2)) else (some false)) else (some false))) else (none)) else (none))) else (none))) else (none)) = some r := by first | (rw [hy289]; with_reducible exact H) | (have H2_ := (Option.bind_some _ _).symm.trans H; rw [hy289]; with_reducible exact H2_) | (have H2_ := (Option.bind_some _ _).symm.trans H; with_reducible exact H2_) | with_reducible exact H | (rw [hy289]; exact H) | exact H
                            have Ny289 := Aside0.mk hy289
                            clear hy289
                            by_cases c28 : a1 < (x7_2.length : Int)
                            · rw [if_pos c28] at H
                              have c28b0 : decide (a1 < (x7_2.length : Int)) = true := decide_eq_true c28
                              clear c28
                              obtain ⟨y293, hy293⟩ : ∃ y_ : List Int, y_ = (([Go.bits .xor .u8 (rd x7_2 a1) a2] : List Int)) := ⟨_, rfl⟩
                              replace H : (if y289.length + y293.length < 140737488355328 then ((frame_Scan.f kj20 (y289 ++ y293)).bind fun bt299 => (if 0 ≤ x8_2 then (if x8_2 ≤ (l0.length : Int) then ((hourglassref1_Same.f kj20 bt299.1 (l0.take (x8_2 : Int).toNat)).bind fun t308 => (if t308 = true then (if bt299.2.1 ≤ a1 then (some (!bt299.2.2)) else (some false)) else (some false))) else (none)) else (none))) else (none)) = some r := by first | (rw [hy293]; with_reducible exact H) | (have H2_ := (Option.bind_some _ _).symm.trans H; rw [hy293]; with_reducible exact H2_) | (have H2_ := (Option.bind_some _ _).symm.trans H; with_reducible exact H2_) | with_reducible exact H | (rw [hy293]; exact H) | exact H
                              have Ny293 := Aside0.mk hy293
                              clear hy293
                              by_cases c29 : y289.length + y293.length < 140737488355328
                              · rw [if_pos c29] at H
                                have LMc29 := Aside0.mk c29
                                clear c29
                                obtain ⟨y296, hy296⟩ : ∃ y_ : List Int, y_ = (y289 ++ y293) := ⟨_, rfl⟩
                                replace H : ((frame_Scan.f kj20 y296).bind fun bt299 => (if 0 ≤ x8_2 then (if x8_2 ≤ (l0.length : Int) then ((hourglassref1_Same.f kj20 bt299.1 (l0.take (x8_2 : Int).toNat)).bind fun t308 => (if t308 = true then (if bt299.2.1 ≤ a1 then (some (!bt299.2.2)) else (some false)) else (some false))) else (none)) else (none))) = some r := by first | (rw [hy296]; with_reducible exact H) | (have H2_ := (Option.bind_some _ _).symm.trans H; rw [hy296]; with_reducible exact H2_) | (have H2_ := (Option.bind_some _ _).symm.trans H; with_reducible exact H2_) | with_reducible exact H | (rw [hy296]; exact H) | exact H
                                have Ny296 := Aside0.mk hy296
                                clear hy296
                                replace H := Option.bind_eq_some_iff.mp H
                                obtain ⟨⟨t299, t300, t301⟩, A300, H⟩ := H
                                replace H : (if 0 ≤ x8_2 then (if x8_2 ≤ (l0.length : Int) then ((hourglassref1_Same.f kj20 t299 (l0.take (x8_2 : Int).toNat)).bind fun t308 => (if t308 = true then (if t300 ≤ a1 then (some (!t301)) else (some false)) else (some false))) else (none)) else (none)) = some r := H
                                have A30 := Aside0.mk A300
                                clear A300
                                by_cases c31 : 0 ≤ x8_2
                                · rw [if_pos c31] at H
                                  have c31b0 := eq_true c31
                                  have c31b1 : decide (0 ≤ x8_2) = true := decide_eq_true c31
                                  clear c31
                                  by_cases c32 : x8_2 ≤ (l0.length : Int)
                                  · rw [if_pos c32] at H
                                    have c32b0 := eq_true c32
                                    have c32b1 : decide (x8_2 ≤ (l0.length : Int)) = true := decide_eq_true c32
                                    clear c32
                                    obtain ⟨y304, hy304⟩ : ∃ y_ : List (List Int), y_ = (l0.take (x8_2 : Int).toNat) := ⟨_, rfl⟩
                                    replace H : ((hourglassref1_Same.f kj20 t299 y304).bind fun t308 => (if t308 = true then (if t300 ≤ a1 then (some (!t301)) else (some false)) else (some false))) = some r := by first | (rw [hy304]; with_reducible exact H) | (have H2_ := (Option.bind_some _ _).symm.trans H; rw [hy304]; with_reducible exact H2_) | (have H2_ := (Option.bind_some _ _).symm.trans H; with_reducible exact H2_) | with_reducible exact H | (rw [hy304]; exact H) | exact H
                                    have Ny304 := Aside0.mk hy304
                                    clear hy304
                                    replace H := Option.bind_eq_some_iff.mp H
                                    obtain ⟨t308, A330, H⟩ := H
                                    replace H : (if t308 = true then (if t300 ≤ a1 then (some (!t301)) else (some false)) else (some false)) = some r := H
                                    have A33 := Aside0.mk A330
                                    clear A330
                                    by_cases c34 : t308 = true
                                    · subst c34
                                      have H1 : (if t300 ≤ a1 then (some (!t301)) else (some false)) = some r := by rw [if_pos rfl] at H; exact H
                                      clear H
                                      have H := H1
                                      clear H1
                                      by_cases c35 : t300 ≤ a1
                                      · rw [if_pos c35] at H
                                        have c35b0 : decide (t300 ≤ a1) = true := decide_eq_true c35
                                        clear c35
                                        obtain rfl := Option.some.inj H
                                        try go_wp2
                                        have n0_ := Aside0.mk (Kd.R_drew HO_7.out)
                                        have n1_ := Aside0.mk (below_drew1 HB.out)
                                        clear HO_7
                                        clear HB
                                        have HO_7 := n0_
                                        have HB := n1_
                                        clear n0_ n1_
                                        obtain ⟨Ao38, co38, eo38⟩ := Kd.R_slice HO_7.out
                                        (first | subst eo38 | (injection eo38 with f1_ f2_ f3_; have f4_ := f1_.symm; have f5_ := f3_.symm; clear f1_ f2_ f3_; subst f4_; subst f5_))
                                        have q37 : (a1 : Int) ≤ ((x7_2.length : Int) : Int) := of_decide_eq_true (by first | (with_reducible assumption) | assumption)
                                        obtain ⟨i037, hi037, _, hsz37, _⟩ := info_parts info5
                                        have hroom37 : x7_2.length ≤ co38 := (Kd.R_reads' HO_7.out).2.1
                                        have hC37 : Kd.C (Kd.int .u8) _ Ao38 x7_2.length x7_2 := (Kd.R_reads' HO_7.out).2.2
                                        have hcut37 := cut_to (P := Try.prog) 23 5 .i64 Try.underlying23 hi037 Ao38 x7_2.length co38 a1 (of_decide_eq_true (by first | (with_reducible assumption) | assumption)) q37 hroom37
                                        have hr37 := Kd.C_take (m := (a1 : Int).toNat) hC37 (by omega)
                                        have hy37 : y285.length = (a1 : Int).toNat := (by rw [Ny285.out, List.length_take]; omega)
                                        rw [← Ny285.out] at hr37
                                        rw [← hy37] at hcut37
                                        have HR288 := Aside0.mk hr37
                                        have HC288 := Aside0.mk (show y285.length ≤ co38 from by omega)
                                        clear hr37 hC37 hroom37 hi037 hsz37
                                        have KY37 := Aside0.mk hy37
                                        clear hy37
                                        have KL37 := Aside0.mk (show (a1 : Int).toNat ≤ x7_2.length from by omega)
                                        replace q37 := eq_true q37
                                        have p292 : 0 ≤ (a1 : Int) := of_decide_eq_true (by first | (with_reducible assumption) | assumption)
                                        have q292 : a1 < (x7_2.length : Int) := of_decide_eq_true (by first | (with_reducible assumption) | assumption)
                                        obtain ⟨ad292, e292, hx292_0⟩ := Kd.at_int (Kd.R_reads' HO_7.out).2.2 a1 p292 q292
                                        cases e292
                                        replace p292 := eq_true p292
                                        replace q292 := eq_true q292
                                        refine start_ (n := 14) (S := fun w' => w'.cell? (ad292.add (a1).toNat) = some (.int .u8 (rd x7_2 a1))) (ds := []) #[false, false, false, false, false, false, false, false, false, false, false, false, false, false] (by kernel_rfl) rfl rfl (hx292_0) (fun hHeld => ?_); refine with_tabW hourglasslaw3_FrameTorn.tab17 hourglasslaw3_FrameTorn.bits17 (fun HT_ HW_ => ?_)
                                        generalize wc.drew = w36 at HO_7 HB HR288 hx292_0 hHeld ⊢
                                        refine pure_ (i := 1) (N := some 59) (v := ?_) (a' := ?_) #[false, true, false, false, false, false, false, false, false, false, false, false, false, false] rfl rfl (any_of HT_.out (by kernel_rfl)) (fun _ _ _ h => h) (Or.inl ⟨by rfl, ?_⟩) ?_ ?_
                                        rotate_left
                                        · intro w'
                                          go_simp
                                          with_reducible rfl
                                        rotate_left
                                        · simp only [Act.put, List.setIfInBounds_toArray, List.set_cons_zero, List.set_cons_succ, i64_w, i32_w]
                                          rfl
                                        refine pure_ (i := 2) (N := some 60) (v := ?_) (a' := ?_) #[false, true, true, false, false, false, false, false, false, false, false, false, false, false] rfl rfl (any_of HT_.out (by kernel_rfl)) (fun _ _ _ h => h) (Or.inl ⟨by rfl, ?_⟩) ?_ ?_
                                        rotate_left
                                        · intro w'
                                          go_simp
                                          with_reducible rfl
                                        rotate_left
                                        · simp only [Act.put, List.setIfInBounds_toArray, List.set_cons_zero, List.set_cons_succ, i64_w, i32_w]
                                          rfl
                                        refine pure_ (i := 3) (N := some 61) (v := ?_) (a' := ?_) #[false, true, true, true, false, false, false, false, false, false, false, false, false, false] rfl rfl (any_of HT_.out (by kernel_rfl)) (fun _ _ _ h => h) (Or.inl ⟨by rfl, ?_⟩) ?_ ?_
                                        rotate_left
                                        · intro w'
                                          go_simp
                                          with_reducible rfl
                                        rotate_left
                                        · simp only [Act.put, List.setIfInBounds_toArray, List.set_cons_zero, List.set_cons_succ, i64_w, i32_w]
                                          rfl
                                        refine pure_ (i := 5) (N := some 63) (v := ?_) (a' := ?_) #[false, true, true, true, false, true, false, false, false, false, false, false, false, false] rfl rfl (any_of HT_.out (by kernel_rfl)) (fun _ _ _ h => h) (Or.inl ⟨by rfl, ?_⟩) ?_ ?_
                                        rotate_left
                                        · intro w'
                                          go_simp
                                          with_reducible rfl
                                        rotate_left
                                        · simp only [Act.put, List.setIfInBounds_toArray, List.set_cons_zero, List.set_cons_succ, i64_w, i32_w]
                                          rfl
                                        refine pure_ (i := 6) (N := some 64) (v := ?_) (a' := ?_) #[false, true, true, true, false, true, true, false, false, false, false, false, false, false] rfl rfl (any_of HT_.out (by kernel_rfl)) (fun _ _ _ h => h) (Or.inl ⟨by rfl, ?_⟩) ?_ ?_
                                        rotate_left
                                        · intro w'
                                          go_simp
                                          with_reducible rfl
                                        rotate_left
                                        · simp only [Act.put, List.setIfInBounds_toArray, List.set_cons_zero, List.set_cons_succ, i64_w, i32_w]
                                          rfl
                                        refine pure_ (i := 7) (N := some 65) (v := ?_) (a' := ?_) #[false, true, true, true, false, true, true, true, false, false, false, false, false, false] rfl rfl (any_of HT_.out (by kernel_rfl)) (fun _ _ _ h => h) (Or.inl ⟨by rfl, ?_⟩) ?_ ?_
                                        rotate_left
                                        · intro w'
                                          go_simp
                                          with_reducible rfl
                                        rotate_left
                                        · simp only [Act.put, List.setIfInBounds_toArray, List.set_cons_zero, List.set_cons_succ, i64_w, i32_w]
                                          rfl
                                        refine pure_ (i := 9) (N := some 67) (v := ?_) (a' := ?_) #[false, true, true, true, false, true, true, true, false, true, false, false, false, false] rfl rfl (any_of HT_.out (by kernel_rfl)) (fun _ _ _ h => h) (Or.inl ⟨by rfl, ?_⟩) ?_ ?_
                                        rotate_left
                                        · intro w'
                                          go_simp
                                          with_reducible rfl
                                        rotate_left
                                        · simp only [Act.put, List.setIfInBounds_toArray, List.set_cons_zero, List.set_cons_succ, i64_w, i32_w]
                                          rfl
                                        refine take_ (i := 8) (N := some 66) (v := ?_) (a' := ?_) #[false, true, true, true, false, true, true, true, true, true, false, false, false, false] rfl rfl (take_ofW HT_.out HW_.out (by kernel_rfl)) (fun _ _ _ h => h) (Or.inl ⟨by rfl, ?_⟩) hHeld ?_ ?_
                                        rotate_left
                                        · intro w' s0
                                          go_simp
                                          with_reducible rfl
                                        rotate_left
                                        · simp only [Act.put, List.setIfInBounds_toArray, List.set_cons_zero, List.set_cons_succ, i64_w, i32_w]
                                          rfl
                                        refine pure_ (i := 10) (N := some 68) (v := ?_) (a' := ?_) #[false, true, true, true, false, true, true, true, true, true, true, false, false, false] rfl rfl (any_of HT_.out (by kernel_rfl)) (fun _ _ _ h => h) (Or.inl ⟨by rfl, ?_⟩) ?_ ?_
                                        rotate_left
                                        · intro w'
                                          go_simp
                                          with_reducible rfl
                                        rotate_left
                                        · simp only [Act.put, List.setIfInBounds_toArray, List.set_cons_zero, List.set_cons_succ, i64_w, i32_w]
                                          rfl
                                        refine join_ (σ := Value × Value × Value) 2 #[true, true, true, true, true, true, true, true, true, true, true, true, false, false] (fun s_ => [(58, s_.1), (62, s_.2.1), (69, s_.2.2)]) (fun s_ w' => (w'.cell? (ad292.add (a1).toNat) = some (.int .u8 (rd x7_2 a1))) ∧ (Kd.R (Kd.int .u8) 5 w' w.heap.size (fun k_ => some k_ ≠ (s_.2.2 : Value).ownBlock ∧ some k_ ≠ (.slice (some ad292) x7_2.length co38 : Value).ownBlock) s_.2.1 y289) ∧ (Kd.R (Kd.int .u8) 5 w' w.heap.size (fun k_ => some k_ ≠ (s_.2.1 : Value).ownBlock ∧ some k_ ≠ (.slice (some ad292) x7_2.length co38 : Value).ownBlock) s_.2.2 y293) ∧ (Kd.R (Kd.int .u8) 5 w' w.heap.size (fun k_ => some k_ ≠ (s_.2.1 : Value).ownBlock ∧ some k_ ≠ (s_.2.2 : Value).ownBlock) (.slice (some ad292) x7_2.length co38) x7_2) ∧ (Below w.heap.size w w')) ?_ ?_
                                        rotate_left
                                        · intro hCont
                                          refine two_ (i := 0) (j := 11) (Ni := some 58) (Nj := some 69) #[true, true, true, true, false, true, true, true, true, true, true, false, false, false] #[false, true, true, true, false, true, true, true, true, true, true, true, false, false] rfl rfl rfl rfl (two_of HT_.out (by kernel_rfl)) (by decide) (by decide) (fun K hK => ?_) (fun K hK => ?_)
                                          · skip
                                            refine Kd.R_lit_step (Kd.int .u8) _ 5 ?hg (N := 58) ?hd (xs := ([] : List Int)) (inner := []) (ok := fun _ => True) (okp := fun _ => True) ?hr ?hp (fun _ hk => hk) trivial (Below.refl _ _) (Nat.le_refl _) (by simp) ?_; (case hd => rfl); (case hg => rfl); (case hr => first | (go_simp; done) | (go_simp; rfl)); (case hp => exact (Reps.none _ _))
                                            intro v283 w39 ho40 hb hg_ hnew_
                                            have HS0_ := (hb.cell (World.block_lt_of_cell? _ _ (hHeld))).trans (hHeld)
                                            clear hg_ hnew_
                                            (first | rw [← Ny282.out] at ho40 | (simp only [Int.reduceToNat] at ho40; rw [← Ny282.out] at ho40))
                                            have n0_ := Aside0.mk (Kd.R_elder' (by (with_reducible repeat (first | apply Kd.R_alloc | apply Kd.R_drewN | apply Kd.R_drew)); exact HO_7.out) (Kd.R_base ho40) hb)
                                            have n1_ := Aside0.mk (Kd.R_lower (Kd.R_new' ho40 (Kd.R_lt (by (with_reducible repeat (first | apply Kd.R_alloc | apply Kd.R_drewN | apply Kd.R_drew)); exact HO_7.out))) (below_size (by repeat (first | (with_reducible first | exact HB.out | apply below_alloc | apply pw_below_drewN | apply below_drew1) | exact HB.out))))
                                            have n2_ := Aside0.mk (Kd.C_below (by repeat (first | (with_reducible exact HR288.out) | (with_reducible refine Kd.C_alloc ?_ _) | (with_reducible refine Kd.C_drewN ?_ _) | (with_reducible refine Kd.C_drew ?_) | exact HR288.out)) hb)
                                            have n3_ := Aside0.mk (below_step (by repeat (first | (with_reducible first | exact HB.out | apply below_alloc | apply pw_below_drewN | apply below_drew1) | exact HB.out)) hb)
                                            clear HO_7
                                            clear HR288
                                            clear HB
                                            have HO_7 := n0_
                                            have HO284 := n1_
                                            have HR288 := n2_
                                            have HB := n3_
                                            clear n0_ n1_ n2_ n3_
                                            clear hb ho40
                                            refine hK.out _ _ (HS0_) (fun hHeld => ?_)
                                            clear hK K
                                            refine norm_ (a' := ?_) ?_ ?_
                                            rotate_left
                                            · show Act.put _ (some 58) _ = _
                                              simp only [Act.put, List.setIfInBounds_toArray, List.set_cons_zero, List.set_cons_succ, i64_w, i32_w]
                                              rfl
                                            refine two_ (i := 4) (j := 11) (Ni := some 62) (Nj := some 69) #[true, true, true, true, true, true, true, true, true, true, true, false, false, false] #[true, true, true, true, false, true, true, true, true, true, true, true, false, false] rfl rfl rfl rfl (two_of HT_.out (by kernel_rfl)) (by decide) (by decide) (fun K hK => ?_) (fun K hK => ?_)
                                            · skip
                                              refine Kd.R_append_rows_step (Kd.int .u8) (w0 := w) w.heap.size (by rfl) (.tmp 58) (.tmp 61) 23 5 (.int .u8 0) 1 rfl Try.underlying23 info5 rfl (by decide) (by omega) v283 y282 y285 _ _ _ (fun k_ => some k_ ≠ (.slice (some ad292) x7_2.length co38 : Value).ownBlock) (fun _ => False) rfl rfl ?aO ?aR (fun _ _ h => h) (fun _ h => h.elim) ?aF ?aB ?aS ?aL ?_
                                              (case aR => repeat (first | exact (by repeat (first | (with_reducible exact HR288.out) | (with_reducible refine Kd.C_alloc ?_ _) | (with_reducible refine Kd.C_drewN ?_ _) | (with_reducible refine Kd.C_drew ?_) | exact HR288.out)) | (with_reducible refine Kd.C_alloc ?_ _) | (with_reducible refine Kd.C_drewN ?_ _) | (with_reducible refine Kd.C_drew ?_)))
                                              (case aB => exact (by repeat (first | (with_reducible first | exact HB.out | apply below_alloc | apply pw_below_drewN | apply below_drew1) | exact HB.out)))
                                              (case aF => exact (fun k_ hk => Kd.fresh' (Kd.R_lt (by (with_reducible repeat (first | apply Kd.R_alloc | apply Kd.R_drewN | apply Kd.R_drew)); exact HO_7.out)) k_ hk))
                                              (case aO => exact (by (with_reducible repeat (first | apply Kd.R_alloc | apply Kd.R_drewN | apply Kd.R_drew)); exact Kd.R_mono HO284.out (fun _ hk => hk.2)))
                                              (case aS => exact (below_size (by repeat (first | (with_reducible first | exact HB.out | apply below_alloc | apply pw_below_drewN | apply below_drew1) | exact HB.out))))
                                              (case aL => have := LMc27.out; omega)
                                              intro v290 w41 ho hb hg hat
                                              have HS0_ := cell_grown hg (hHeld) (by first | (rw [add_block]; exact (fun e_ => by have h_ := HO284.out.1 _ e_.symm; first | exact h_ rfl | exact h_.1 rfl | exact h_.2 rfl | exact h_.1.1 rfl | exact h_.1.2 rfl | exact h_.2.1 rfl | exact h_.2.2 rfl)) | (show some (Addr.add _ _).block ≠ _; rw [add_block]; exact (fun e_ => by have h_ := HO284.out.1 _ e_.symm; first | exact h_ rfl | exact h_.1 rfl | exact h_.2 rfl | exact h_.1.1 rfl | exact h_.1.2 rfl | exact h_.2.1 rfl | exact h_.2.2 rfl)) | exact (fun e_ => by have h_ := HO284.out.1 _ e_.symm; first | exact h_ rfl | exact h_.1 rfl | exact h_.2 rfl | exact h_.1.1 rfl | exact h_.1.2 rfl | exact h_.2.1 rfl | exact h_.2.2 rfl))
                                              rw [← Ny289.out] at ho
                                              have n0_ := Aside0.mk (Kd.R_after (ok := (fun _ => True)) (by (with_reducible repeat (first | apply Kd.R_alloc | apply Kd.R_drewN | apply Kd.R_drew)); exact HO_7.out) hg hat)
                                              have n1_ := Aside0.mk (hb)
                                              have n2_ := Aside0.mk ((show Kd.C (Kd.int .u8) w41 (some ad292) y285.length y285 from by rw [Ny285.out]; exact Kd.C_take (m := (a1 : Int).toNat) ((Kd.R_reads' (Kd.R_after (ok := (fun _ => True)) (by (with_reducible repeat (first | apply Kd.R_alloc | apply Kd.R_drewN | apply Kd.R_drew)); exact HO_7.out) hg hat)).2.2) KL37.out))
                                              have n3_ := Aside0.mk (ho)
                                              clear HO_7
                                              clear HB
                                              clear HR288
                                              clear HO284
                                              have HO_7 := n0_
                                              have HB := n1_
                                              have HR288 := n2_
                                              have HO291 := n3_
                                              clear n0_ n1_ n2_ n3_
                                              clear ho hb hg hat
                                              refine hK.out _ _ (HS0_) (fun hHeld => ?_)
                                              clear hK K
                                              refine norm_ (a' := ?_) ?_ ?_
                                              rotate_left
                                              · show Act.put _ (some 62) _ = _
                                                simp only [Act.put, List.setIfInBounds_toArray, List.set_cons_zero, List.set_cons_succ, i64_w, i32_w]
                                                rfl
                                              refine one_ (i := 11) (N := some 69) #[true, true, true, true, true, true, true, true, true, true, true, true, false, false] rfl rfl (one_of HT_.out (by kernel_rfl)) (by decide) (fun K hK => ?_)
                                              refine Kd.R_lit_step (Kd.int .u8) _ 5 ?hg (N := 69) ?hd (xs := ([Go.bits .xor .u8 (rd x7_2 a1) a2] : List Int)) (inner := [.int .u8 (Go.bits .xor .u8 (rd x7_2 a1) a2)]) (ok := fun _ => True) (okp := fun _ => True) ?hr ?hp (fun _ hk => hk) trivial (Below.refl _ _) (Nat.le_refl _) (by simp) ?_; (case hd => rfl); (case hg => rfl); (case hr => first | (go_simp; done) | (go_simp; rfl)); (case hp => exact (Reps.one (show Kd.M (Kd.int .u8) _ _ _ (Go.bits .xor .u8 (rd x7_2 a1) a2) [.int .u8 (Go.bits .xor .u8 (rd x7_2 a1) a2)] from rfl) (Reps.none _ _)))
                                              intro v294 w42 ho43 hb hg_ hnew_
                                              have HS0_ := (hb.cell (World.block_lt_of_cell? _ _ (hHeld))).trans (hHeld)
                                              clear hg_ hnew_
                                              (first | rw [← Ny293.out] at ho43 | (simp only [Int.reduceToNat] at ho43; rw [← Ny293.out] at ho43))
                                              have n0_ := Aside0.mk (Kd.R_elder' (by (with_reducible repeat (first | apply Kd.R_alloc | apply Kd.R_drewN | apply Kd.R_drew)); exact HO_7.out) (Kd.R_base ho43) hb)
                                              have n1_ := Aside0.mk (Kd.R_elder' (by (with_reducible repeat (first | apply Kd.R_alloc | apply Kd.R_drewN | apply Kd.R_drew)); exact HO291.out) (Kd.R_base ho43) hb)
                                              have n2_ := Aside0.mk (Kd.R_lower (Kd.R_new' (Kd.R_new' ho43 (Kd.R_lt (by (with_reducible repeat (first | apply Kd.R_alloc | apply Kd.R_drewN | apply Kd.R_drew)); exact HO_7.out))) (Kd.R_lt (by (with_reducible repeat (first | apply Kd.R_alloc | apply Kd.R_drewN | apply Kd.R_drew)); exact HO291.out))) (below_size (by repeat (first | (with_reducible first | exact HB.out | apply below_alloc | apply pw_below_drewN | apply below_drew1) | exact HB.out))))
                                              have n3_ := Aside0.mk (Kd.C_below (by repeat (first | (with_reducible exact HR288.out) | (with_reducible refine Kd.C_alloc ?_ _) | (with_reducible refine Kd.C_drewN ?_ _) | (with_reducible refine Kd.C_drew ?_) | exact HR288.out)) hb)
                                              have n4_ := Aside0.mk (below_step (by repeat (first | (with_reducible first | exact HB.out | apply below_alloc | apply pw_below_drewN | apply below_drew1) | exact HB.out)) hb)
                                              clear HO_7
                                              clear HO291
                                              clear HR288
                                              clear HB
                                              have HO_7 := n0_
                                              have HO291 := n1_
                                              have HO295 := n2_
                                              have HR288 := n3_
                                              have HB := n4_
                                              clear n0_ n1_ n2_ n3_ n4_
                                              clear hb ho43
                                              refine hK.out _ _ (HS0_) (fun hHeld => ?_)
                                              clear hK K
                                              refine norm_ (a' := ?_) ?_ ?_
                                              rotate_left
                                              · show Act.put _ (some 69) _ = _
                                                simp only [Act.put, List.setIfInBounds_toArray, List.set_cons_zero, List.set_cons_succ, i64_w, i32_w]
                                                rfl
                                              exact norm_ (by simp only [putAll, Act.put, List.setIfInBounds_toArray, List.set_cons_zero, List.set_cons_succ]) (hCont (v283, v290, v294) _ ⟨hHeld, (by (with_reducible repeat (first | apply Kd.R_alloc | apply Kd.R_drewN | apply Kd.R_drew)); exact Kd.R_mono HO291.out (fun _ hk => ⟨hk.2, hk.1⟩)), (by (with_reducible repeat (first | apply Kd.R_alloc | apply Kd.R_drewN | apply Kd.R_drew)); exact Kd.R_mono HO295.out (fun _ hk => ⟨hk.2, hk.1.2⟩)), (by (with_reducible repeat (first | apply Kd.R_alloc | apply Kd.R_drewN | apply Kd.R_drew)); exact Kd.R_mono HO_7.out (fun _ hk => ⟨hk.1.2, hk.2⟩)), (by repeat (first | (with_reducible first | exact HB.out | apply below_alloc | apply pw_below_drewN | apply below_drew1) | exact HB.out))⟩)
                                            · skip
                                              refine Kd.R_lit_step (Kd.int .u8) _ 5 ?hg (N := 69) ?hd (xs := ([Go.bits .xor .u8 (rd x7_2 a1) a2] : List Int)) (inner := [.int .u8 (Go.bits .xor .u8 (rd x7_2 a1) a2)]) (ok := fun _ => True) (okp := fun _ => True) ?hr ?hp (fun _ hk => hk) trivial (Below.refl _ _) (Nat.le_refl _) (by simp) ?_; (case hd => rfl); (case hg => rfl); (case hr => first | (go_simp; done) | (go_simp; rfl)); (case hp => exact (Reps.one (show Kd.M (Kd.int .u8) _ _ _ (Go.bits .xor .u8 (rd x7_2 a1) a2) [.int .u8 (Go.bits .xor .u8 (rd x7_2 a1) a2)] from rfl) (Reps.none _ _)))
                                              intro v294 w41 ho42 hb hg_ hnew_
                                              have HS0_ := (hb.cell (World.block_lt_of_cell? _ _ (hHeld))).trans (hHeld)
                                              clear hg_ hnew_
                                              (first | rw [← Ny293.out] at ho42 | (simp only [Int.reduceToNat] at ho42; rw [← Ny293.out] at ho42))
                                              have n0_ := Aside0.mk (Kd.R_elder' (by (with_reducible repeat (first | apply Kd.R_alloc | apply Kd.R_drewN | apply Kd.R_drew)); exact HO_7.out) (Kd.R_base ho42) hb)
                                              have n1_ := Aside0.mk (Kd.R_elder' (by (with_reducible repeat (first | apply Kd.R_alloc | apply Kd.R_drewN | apply Kd.R_drew)); exact HO284.out) (Kd.R_base ho42) hb)
                                              have n2_ := Aside0.mk (Kd.R_lower (Kd.R_new' (Kd.R_new' ho42 (Kd.R_lt (by (with_reducible repeat (first | apply Kd.R_alloc | apply Kd.R_drewN | apply Kd.R_drew)); exact HO_7.out))) (Kd.R_lt (by (with_reducible repeat (first | apply Kd.R_alloc | apply Kd.R_drewN | apply Kd.R_drew)); exact HO284.out))) (below_size (by repeat (first | (with_reducible first | exact HB.out | apply below_alloc | apply pw_below_drewN | apply below_drew1) | exact HB.out))))
                                              have n3_ := Aside0.mk (Kd.C_below (by repeat (first | (with_reducible exact HR288.out) | (with_reducible refine Kd.C_alloc ?_ _) | (with_reducible refine Kd.C_drewN ?_ _) | (with_reducible refine Kd.C_drew ?_) | exact HR288.out)) hb)
                                              have n4_ := Aside0.mk (below_step (by repeat (first | (with_reducible first | exact HB.out | apply below_alloc | apply pw_below_drewN | apply below_drew1) | exact HB.out)) hb)
                                              clear HO_7
                                              clear HO284
                                              clear HR288
                                              clear HB
                                              have HO_7 := n0_
                                              have HO284 := n1_
                                              have HO295 := n2_
                                              have HR288 := n3_
                                              have HB := n4_
                                              clear n0_ n1_ n2_ n3_ n4_
                                              clear hb ho42
                                              refine hK.out _ _ (HS0_) (fun hHeld => ?_)
                                              clear hK K
                                              refine norm_ (a' := ?_) ?_ ?_
                                              rotate_left
                                              · show Act.put _ (some 69) _ = _
                                                simp only [Act.put, List.setIfInBounds_toArray, List.set_cons_zero, List.set_cons_succ, i64_w, i32_w]
                                                rfl
                                              refine one_ (i := 4) (N := some 62) #[true, true, true, true, true, true, true, true, true, true, true, true, false, false] rfl rfl (one_of HT_.out (by kernel_rfl)) (by decide) (fun K hK => ?_)
                                              refine Kd.R_append_rows_step (Kd.int .u8) (w0 := w) w.heap.size (by rfl) (.tmp 58) (.tmp 61) 23 5 (.int .u8 0) 1 rfl Try.underlying23 info5 rfl (by decide) (by omega) v283 y282 y285 _ _ _ (fun k_ => some k_ ≠ (.slice (some ad292) x7_2.length co38 : Value).ownBlock ∧ some k_ ≠ (v294 : Value).ownBlock) (fun _ => False) rfl rfl ?aO ?aR (fun _ _ h => h) (fun _ h => h.elim) ?aF ?aB ?aS ?aL ?_
                                              (case aR => repeat (first | exact (by repeat (first | (with_reducible exact HR288.out) | (with_reducible refine Kd.C_alloc ?_ _) | (with_reducible refine Kd.C_drewN ?_ _) | (with_reducible refine Kd.C_drew ?_) | exact HR288.out)) | (with_reducible refine Kd.C_alloc ?_ _) | (with_reducible refine Kd.C_drewN ?_ _) | (with_reducible refine Kd.C_drew ?_)))
                                              (case aB => exact (by repeat (first | (with_reducible first | exact HB.out | apply below_alloc | apply pw_below_drewN | apply below_drew1) | exact HB.out)))
                                              (case aF => exact (fun k_ hk => ⟨Kd.fresh' (Kd.R_lt (by (with_reducible repeat (first | apply Kd.R_alloc | apply Kd.R_drewN | apply Kd.R_drew)); exact HO_7.out)) k_ hk, Kd.fresh' (Kd.R_lt (by (with_reducible repeat (first | apply Kd.R_alloc | apply Kd.R_drewN | apply Kd.R_drew)); exact HO295.out)) k_ hk⟩))
                                              (case aO => exact (by (with_reducible repeat (first | apply Kd.R_alloc | apply Kd.R_drewN | apply Kd.R_drew)); exact Kd.R_mono HO284.out (fun _ hk => ⟨hk.1.2, hk.2⟩)))
                                              (case aS => exact (below_size (by repeat (first | (with_reducible first | exact HB.out | apply below_alloc | apply pw_below_drewN | apply below_drew1) | exact HB.out))))
                                              (case aL => have := LMc27.out; omega)
                                              intro v290 w43 ho hb hg hat
                                              have HS0_ := cell_grown hg (hHeld) (by first | (rw [add_block]; exact (fun e_ => by have h_ := HO284.out.1 _ e_.symm; first | exact h_ rfl | exact h_.1 rfl | exact h_.2 rfl | exact h_.1.1 rfl | exact h_.1.2 rfl | exact h_.2.1 rfl | exact h_.2.2 rfl)) | (show some (Addr.add _ _).block ≠ _; rw [add_block]; exact (fun e_ => by have h_ := HO284.out.1 _ e_.symm; first | exact h_ rfl | exact h_.1 rfl | exact h_.2 rfl | exact h_.1.1 rfl | exact h_.1.2 rfl | exact h_.2.1 rfl | exact h_.2.2 rfl)) | exact (fun e_ => by have h_ := HO284.out.1 _ e_.symm; first | exact h_ rfl | exact h_.1 rfl | exact h_.2 rfl | exact h_.1.1 rfl | exact h_.1.2 rfl | exact h_.2.1 rfl | exact h_.2.2 rfl))
                                              rw [← Ny289.out] at ho
                                              have n0_ := Aside0.mk (Kd.R_after (ok := (fun k_ => some k_ ≠ (v294 : Value).ownBlock)) (by (with_reducible repeat (first | apply Kd.R_alloc | apply Kd.R_drewN | apply Kd.R_drew)); exact Kd.R_mono HO_7.out (fun _ hk => ⟨hk.2, hk.1.2⟩)) hg hat)
                                              have n1_ := Aside0.mk (Kd.R_after (ok := (fun k_ => some k_ ≠ (.slice (some ad292) x7_2.length co38 : Value).ownBlock)) (by (with_reducible repeat (first | apply Kd.R_alloc | apply Kd.R_drewN | apply Kd.R_drew)); exact Kd.R_mono HO295.out (fun _ hk => ⟨hk.1.2, hk.2⟩)) hg hat)
                                              have n2_ := Aside0.mk (hb)
                                              have n3_ := Aside0.mk ((show Kd.C (Kd.int .u8) w43 (some ad292) y285.length y285 from by rw [Ny285.out]; exact Kd.C_take (m := (a1 : Int).toNat) ((Kd.R_reads' (Kd.R_after (ok := (fun k_ => some k_ ≠ (v294 : Value).ownBlock)) (by (with_reducible repeat (first | apply Kd.R_alloc | apply Kd.R_drewN | apply Kd.R_drew)); exact Kd.R_mono HO_7.out (fun _ hk => ⟨hk.2, hk.1.2⟩)) hg hat)).2.2) KL37.out))
                                              have n4_ := Aside0.mk (ho)
                                              clear HO_7
                                              clear HO295
                                              clear HB
                                              clear HR288
                                              clear HO284
                                              have HO_7 := n0_
                                              have HO295 := n1_
                                              have HB := n2_
                                              have HR288 := n3_
                                              have HO291 := n4_
                                              clear n0_ n1_ n2_ n3_ n4_
                                              clear ho hb hg hat
                                              refine hK.out _ _ (HS0_) (fun hHeld => ?_)
                                              clear hK K
                                              refine norm_ (a' := ?_) ?_ ?_
                                              rotate_left
                                              · show Act.put _ (some 62) _ = _
                                                simp only [Act.put, List.setIfInBounds_toArray, List.set_cons_zero, List.set_cons_succ, i64_w, i32_w]
                                                rfl
                                              exact norm_ (by simp only [putAll, Act.put, List.setIfInBounds_toArray, List.set_cons_zero, List.set_cons_succ]) (hCont (v283, v290, v294) _ ⟨hHeld, (by (with_reducible repeat (first | apply Kd.R_alloc | apply Kd.R_drewN | apply Kd.R_drew)); exact Kd.R_mono HO291.out (fun _ hk => ⟨hk.2, hk.1⟩)), (by (with_reducible repeat (first | apply Kd.R_alloc | apply Kd.R_drewN | apply Kd.R_drew)); exact Kd.R_mono HO295.out (fun _ hk => ⟨hk.2, hk.1⟩)), (by (with_reducible repeat (first | apply Kd.R_alloc | apply Kd.R_drewN | apply Kd.R_drew)); exact Kd.R_mono HO_7.out (fun _ hk => ⟨hk.2, hk.1⟩)), (by repeat (first | (with_reducible first | exact HB.out | apply below_alloc | apply pw_below_drewN | apply below_drew1) | exact HB.out))⟩)
                                          · skip
                                            refine Kd.R_lit_step (Kd.int .u8) _ 5 ?hg (N := 69) ?hd (xs := ([Go.bits .xor .u8 (rd x7_2 a1) a2] : List Int)) (inner := [.int .u8 (Go.bits .xor .u8 (rd x7_2 a1) a2)]) (ok := fun _ => True) (okp := fun _ => True) ?hr ?hp (fun _ hk => hk) trivial (Below.refl _ _) (Nat.le_refl _) (by simp) ?_; (case hd => rfl); (case hg => rfl); (case hr => first | (go_simp; done) | (go_simp; rfl)); (case hp => exact (Reps.one (show Kd.M (Kd.int .u8) _ _ _ (Go.bits .xor .u8 (rd x7_2 a1) a2) [.int .u8 (Go.bits .xor .u8 (rd x7_2 a1) a2)] from rfl) (Reps.none _ _)))
                                            intro v294 w39 ho40 hb hg_ hnew_
                                            have HS0_ := (hb.cell (World.block_lt_of_cell? _ _ (hHeld))).trans (hHeld)
                                            clear hg_ hnew_
                                            (first | rw [← Ny293.out] at ho40 | (simp only [Int.reduceToNat] at ho40; rw [← Ny293.out] at ho40))
                                            have n0_ := Aside0.mk (Kd.R_elder' (by (with_reducible repeat (first | apply Kd.R_alloc | apply Kd.R_drewN | apply Kd.R_drew)); exact HO_7.out) (Kd.R_base ho40) hb)
                                            have n1_ := Aside0.mk (Kd.R_lower (Kd.R_new' ho40 (Kd.R_lt (by (with_reducible repeat (first | apply Kd.R_alloc | apply Kd.R_drewN | apply Kd.R_drew)); exact HO_7.out))) (below_size (by repeat (first | (with_reducible first | exact HB.out | apply below_alloc | apply pw_below_drewN | apply below_drew1) | exact HB.out))))
                                            have n2_ := Aside0.mk (Kd.C_below (by repeat (first | (with_reducible exact HR288.out) | (with_reducible refine Kd.C_alloc ?_ _) | (with_reducible refine Kd.C_drewN ?_ _) | (with_reducible refine Kd.C_drew ?_) | exact HR288.out)) hb)
                                            have n3_ := Aside0.mk (below_step (by repeat (first | (with_reducible first | exact HB.out | apply below_alloc | apply pw_below_drewN | apply below_drew1) | exact HB.out)) hb)
                                            clear HO_7
                                            clear HR288
                                            clear HB
                                            have HO_7 := n0_
                                            have HO295 := n1_
                                            have HR288 := n2_
                                            have HB := n3_
                                            clear n0_ n1_ n2_ n3_
                                            clear hb ho40
                                            refine hK.out _ _ (HS0_) (fun hHeld => ?_)
                                            clear hK K
                                            refine norm_ (a' := ?_) ?_ ?_
                                            rotate_left
                                            · show Act.put _ (some 69) _ = _
                                              simp only [Act.put, List.setIfInBounds_toArray, List.set_cons_zero, List.set_cons_succ, i64_w, i32_w]
                                              rfl
                                            refine one_ (i := 0) (N := some 58) #[true, true, true, true, false, true, true, true, true, true, true, true, false, false] rfl rfl (one_of HT_.out (by kernel_rfl)) (by decide) (fun K hK => ?_)
                                            refine Kd.R_lit_step (Kd.int .u8) _ 5 ?hg (N := 58) ?hd (xs := ([] : List Int)) (inner := []) (ok := fun _ => True) (okp := fun _ => True) ?hr ?hp (fun _ hk => hk) trivial (Below.refl _ _) (Nat.le_refl _) (by simp) ?_; (case hd => rfl); (case hg => rfl); (case hr => first | (go_simp; done) | (go_simp; rfl)); (case hp => exact (Reps.none _ _))
                                            intro v283 w41 ho42 hb hg_ hnew_
                                            have HS0_ := (hb.cell (World.block_lt_of_cell? _ _ (hHeld))).trans (hHeld)
                                            clear hg_ hnew_
                                            (first | rw [← Ny282.out] at ho42 | (simp only [Int.reduceToNat] at ho42; rw [← Ny282.out] at ho42))
                                            have n0_ := Aside0.mk (Kd.R_elder' (by (with_reducible repeat (first | apply Kd.R_alloc | apply Kd.R_drewN | apply Kd.R_drew)); exact HO_7.out) (Kd.R_base ho42) hb)
                                            have n1_ := Aside0.mk (Kd.R_elder' (by (with_reducible repeat (first | apply Kd.R_alloc | apply Kd.R_drewN | apply Kd.R_drew)); exact HO295.out) (Kd.R_base ho42) hb)
                                            have n2_ := Aside0.mk (Kd.R_lower (Kd.R_new' (Kd.R_new' ho42 (Kd.R_lt (by (with_reducible repeat (first | apply Kd.R_alloc | apply Kd.R_drewN | apply Kd.R_drew)); exact HO_7.out))) (Kd.R_lt (by (with_reducible repeat (first | apply Kd.R_alloc | apply Kd.R_drewN | apply Kd.R_drew)); exact HO295.out))) (below_size (by repeat (first | (with_reducible first | exact HB.out | apply below_alloc | apply pw_below_drewN | apply below_drew1) | exact HB.out))))
                                            have n3_ := Aside0.mk (Kd.C_below (by repeat (first | (with_reducible exact HR288.out) | (with_reducible refine Kd.C_alloc ?_ _) | (with_reducible refine Kd.C_drewN ?_ _) | (with_reducible refine Kd.C_drew ?_) | exact HR288.out)) hb)
                                            have n4_ := Aside0.mk (below_step (by repeat (first | (with_reducible first | exact HB.out | apply below_alloc | apply pw_below_drewN | apply below_drew1) | exact HB.out)) hb)
                                            clear HO_7
                                            clear HO295
                                            clear HR288
                                            clear HB
                                            have HO_7 := n0_
                                            have HO295 := n1_
                                            have HO284 := n2_
                                            have HR288 := n3_
                                            have HB := n4_
                                            clear n0_ n1_ n2_ n3_ n4_
                                            clear hb ho42
                                            refine hK.out _ _ (HS0_) (fun hHeld => ?_)
                                            clear hK K
                                            refine norm_ (a' := ?_) ?_ ?_
                                            rotate_left
                                            · show Act.put _ (some 58) _ = _
                                              simp only [Act.put, List.setIfInBounds_toArray, List.set_cons_zero, List.set_cons_succ, i64_w, i32_w]
                                              rfl
                                            refine one_ (i := 4) (N := some 62) #[true, true, true, true, true, true, true, true, true, true, true, true, false, false] rfl rfl (one_of HT_.out (by kernel_rfl)) (by decide) (fun K hK => ?_)
                                            refine Kd.R_append_rows_step (Kd.int .u8) (w0 := w) w.heap.size (by rfl) (.tmp 58) (.tmp 61) 23 5 (.int .u8 0) 1 rfl Try.underlying23 info5 rfl (by decide) (by omega) v283 y282 y285 _ _ _ (fun k_ => some k_ ≠ (.slice (some ad292) x7_2.length co38 : Value).ownBlock ∧ some k_ ≠ (v294 : Value).ownBlock) (fun _ => False) rfl rfl ?aO ?aR (fun _ _ h => h) (fun _ h => h.elim) ?aF ?aB ?aS ?aL ?_
                                            (case aR => repeat (first | exact (by repeat (first | (with_reducible exact HR288.out) | (with_reducible refine Kd.C_alloc ?_ _) | (with_reducible refine Kd.C_drewN ?_ _) | (with_reducible refine Kd.C_drew ?_) | exact HR288.out)) | (with_reducible refine Kd.C_alloc ?_ _) | (with_reducible refine Kd.C_drewN ?_ _) | (with_reducible refine Kd.C_drew ?_)))
                                            (case aB => exact (by repeat (first | (with_reducible first | exact HB.out | apply below_alloc | apply pw_below_drewN | apply below_drew1) | exact HB.out)))
                                            (case aF => exact (fun k_ hk => ⟨Kd.fresh' (Kd.R_lt (by (with_reducible repeat (first | apply Kd.R_alloc | apply Kd.R_drewN | apply Kd.R_drew)); exact HO_7.out)) k_ hk, Kd.fresh' (Kd.R_lt (by (with_reducible repeat (first | apply Kd.R_alloc | apply Kd.R_drewN | apply Kd.R_drew)); exact HO295.out)) k_ hk⟩))
                                            (case aO => exact (by (with_reducible repeat (first | apply Kd.R_alloc | apply Kd.R_drewN | apply Kd.R_drew)); exact Kd.R_mono HO284.out (fun _ hk => ⟨hk.1.2, hk.2⟩)))
                                            (case aS => exact (below_size (by repeat (first | (with_reducible first | exact HB.out | apply below_alloc | apply pw_below_drewN | apply below_drew1) | exact HB.out))))
                                            (case aL => have := LMc27.out; omega)
                                            intro v290 w43 ho hb hg hat
                                            have HS0_ := cell_grown hg (hHeld) (by first | (rw [add_block]; exact (fun e_ => by have h_ := HO284.out.1 _ e_.symm; first | exact h_ rfl | exact h_.1 rfl | exact h_.2 rfl | exact h_.1.1 rfl | exact h_.1.2 rfl | exact h_.2.1 rfl | exact h_.2.2 rfl)) | (show some (Addr.add _ _).block ≠ _; rw [add_block]; exact (fun e_ => by have h_ := HO284.out.1 _ e_.symm; first | exact h_ rfl | exact h_.1 rfl | exact h_.2 rfl | exact h_.1.1 rfl | exact h_.1.2 rfl | exact h_.2.1 rfl | exact h_.2.2 rfl)) | exact (fun e_ => by have h_ := HO284.out.1 _ e_.symm; first | exact h_ rfl | exact h_.1 rfl | exact h_.2 rfl | exact h_.1.1 rfl | exact h_.1.2 rfl | exact h_.2.1 rfl | exact h_.2.2 rfl))
                                            rw [← Ny289.out] at ho
                                            have n0_ := Aside0.mk (Kd.R_after (ok := (fun k_ => some k_ ≠ (v294 : Value).ownBlock)) (by (with_reducible repeat (first | apply Kd.R_alloc | apply Kd.R_drewN | apply Kd.R_drew)); exact Kd.R_mono HO_7.out (fun _ hk => ⟨hk.1.2, hk.2⟩)) hg hat)
                                            have n1_ := Aside0.mk (Kd.R_after (ok := (fun k_ => some k_ ≠ (.slice (some ad292) x7_2.length co38 : Value).ownBlock)) (by (with_reducible repeat (first | apply Kd.R_alloc | apply Kd.R_drewN | apply Kd.R_drew)); exact Kd.R_mono HO295.out (fun _ hk => ⟨hk.1.2, hk.2⟩)) hg hat)
                                            have n2_ := Aside0.mk (hb)
                                            have n3_ := Aside0.mk ((show Kd.C (Kd.int .u8) w43 (some ad292) y285.length y285 from by rw [Ny285.out]; exact Kd.C_take (m := (a1 : Int).toNat) ((Kd.R_reads' (Kd.R_after (ok := (fun k_ => some k_ ≠ (v294 : Value).ownBlock)) (by (with_reducible repeat (first | apply Kd.R_alloc | apply Kd.R_drewN | apply Kd.R_drew)); exact Kd.R_mono HO_7.out (fun _ hk => ⟨hk.1.2, hk.2⟩)) hg hat)).2.2) KL37.out))
                                            have n4_ := Aside0.mk (ho)
                                            clear HO_7
                                            clear HO295
                                            clear HB
                                            clear HR288
                                            clear HO284
                                            have HO_7 := n0_
                                            have HO295 := n1_
                                            have HB := n2_
                                            have HR288 := n3_
                                            have HO291 := n4_
                                            clear n0_ n1_ n2_ n3_ n4_
                                            clear ho hb hg hat
                                            refine hK.out _ _ (HS0_) (fun hHeld => ?_)
                                            clear hK K
                                            refine norm_ (a' := ?_) ?_ ?_
                                            rotate_left
                                            · show Act.put _ (some 62) _ = _
                                              simp only [Act.put, List.setIfInBounds_toArray, List.set_cons_zero, List.set_cons_succ, i64_w, i32_w]
                                              rfl
                                            exact norm_ (by simp only [putAll, Act.put, List.setIfInBounds_toArray, List.set_cons_zero, List.set_cons_succ]) (hCont (v283, v290, v294) _ ⟨hHeld, (by (with_reducible repeat (first | apply Kd.R_alloc | apply Kd.R_drewN | apply Kd.R_drew)); exact Kd.R_mono HO291.out (fun _ hk => ⟨hk.2, hk.1⟩)), (by (with_reducible repeat (first | apply Kd.R_alloc | apply Kd.R_drewN | apply Kd.R_drew)); exact Kd.R_mono HO295.out (fun _ hk => ⟨hk.2, hk.1⟩)), (by (with_reducible repeat (first | apply Kd.R_alloc | apply Kd.R_drewN | apply Kd.R_drew)); exact Kd.R_mono HO_7.out (fun _ hk => ⟨hk.2, hk.1⟩)), (by repeat (first | (with_reducible first | exact HB.out | apply below_alloc | apply pw_below_drewN | apply below_drew1) | exact HB.out))⟩)
                                        rintro ⟨v283, v290, v294⟩ w44 ⟨hS_, h0_, h1_, h2_, h3_⟩
                                        have n0_ : Aside0 (Kd.R (Kd.int .u8) 5 w44 w.heap.size (fun k_ => some k_ ≠ (v294 : Value).ownBlock ∧ some k_ ≠ (.slice (some ad292) x7_2.length co38 : Value).ownBlock) v290 y289) := ⟨h0_⟩
                                        have n1_ : Aside0 (Kd.R (Kd.int .u8) 5 w44 w.heap.size (fun k_ => some k_ ≠ (v290 : Value).ownBlock ∧ some k_ ≠ (.slice (some ad292) x7_2.length co38 : Value).ownBlock) v294 y293) := ⟨h1_⟩
                                        have n2_ : Aside0 (Kd.R (Kd.int .u8) 5 w44 w.heap.size (fun k_ => some k_ ≠ (v290 : Value).ownBlock ∧ some k_ ≠ (v294 : Value).ownBlock) (.slice (some ad292) x7_2.length co38) x7_2) := ⟨h2_⟩
                                        have n3_ : Aside0 (Below w.heap.size w w44) := ⟨h3_⟩
                                        clear HO_7
                                        clear HB
                                        clear h0_ h1_ h2_ h3_
                                        have HO291 := n0_
                                        have HO295 := n1_
                                        have HO_7 := n2_
                                        have HB := n3_
                                        clear n0_ n1_ n2_ n3_
                                        have hHeld : w44.cell? (ad292.add (a1).toNat) = some (.int .u8 (rd x7_2 a1)) := hS_
                                        obtain ⟨Ao46, co46, eo46⟩ := Kd.R_slice HO295.out
                                        (first | subst eo46 | (injection eo46 with f1_ f2_ f3_; have f4_ := f1_.symm; have f5_ := f3_.symm; clear f1_ f2_ f3_; subst f4_; subst f5_))
                                        refine norm_ (a' := ?_) ?_ ?_
                                        rotate_left
                                        · simp only [putAll, Act.put, List.setIfInBounds_toArray, List.set_cons_zero, List.set_cons_succ]
                                          rfl
                                        refine one_ (i := 12) (N := some 70) #[true, true, true, true, true, true, true, true, true, true, true, true, true, false] rfl rfl (one_of HT_.out (by kernel_rfl)) (by decide) (fun K hK => ?_)
                                        refine Kd.R_append_rows_step (Kd.int .u8) (w0 := w) w.heap.size (by rfl) (.tmp 62) (.tmp 69) 23 5 (.int .u8 0) 1 rfl Try.underlying23 info5 rfl (by decide) (by omega) v290 y289 y293 _ _ _ (fun k_ => some k_ ≠ (.slice (some ad292) x7_2.length co38 : Value).ownBlock ∧ some k_ ≠ (.slice Ao46 y293.length co46 : Value).ownBlock) (fun _ => False) rfl rfl ?aO ?aR (fun _ _ h => h) (fun _ h => h.elim) ?aF ?aB ?aS ?aL ?_
                                        (case aR => repeat (first | exact (Kd.R_reads' HO295.out).2.2 | (with_reducible refine Kd.C_alloc ?_ _) | (with_reducible refine Kd.C_drewN ?_ _) | (with_reducible refine Kd.C_drew ?_)))
                                        (case aB => exact (by repeat (first | (with_reducible first | exact HB.out | apply below_alloc | apply pw_below_drewN | apply below_drew1) | exact HB.out)))
                                        (case aF => exact (fun k_ hk => ⟨Kd.fresh' (Kd.R_lt (by (with_reducible repeat (first | apply Kd.R_alloc | apply Kd.R_drewN | apply Kd.R_drew)); exact HO_7.out)) k_ hk, Kd.fresh' (Kd.R_lt (by (with_reducible repeat (first | apply Kd.R_alloc | apply Kd.R_drewN | apply Kd.R_drew)); exact HO295.out)) k_ hk⟩))
                                        (case aO => exact (by (with_reducible repeat (first | apply Kd.R_alloc | apply Kd.R_drewN | apply Kd.R_drew)); exact Kd.R_mono HO291.out (fun _ hk => ⟨hk.2, hk.1⟩)))
                                        (case aS => exact (below_size (by repeat (first | (with_reducible first | exact HB.out | apply below_alloc | apply pw_below_drewN | apply below_drew1) | exact HB.out))))
                                        (case aL => have := LMc29.out; omega)
                                        intro v297 w45 ho hb hg hat
                                        have HS0_ := cell_grown hg (hHeld) (by first | (rw [add_block]; exact (fun e_ => by have h_ := HO291.out.1 _ e_.symm; first | exact h_ rfl | exact h_.1 rfl | exact h_.2 rfl | exact h_.1.1 rfl | exact h_.1.2 rfl | exact h_.2.1 rfl | exact h_.2.2 rfl)) | (show some (Addr.add _ _).block ≠ _; rw [add_block]; exact (fun e_ => by have h_ := HO291.out.1 _ e_.symm; first | exact h_ rfl | exact h_.1 rfl | exact h_.2 rfl | exact h_.1.1 rfl | exact h_.1.2 rfl | exact h_.2.1 rfl | exact h_.2.2 rfl)) | exact (fun e_ => by have h_ := HO291.out.1 _ e_.symm; first | exact h_ rfl | exact h_.1 rfl | exact h_.2 rfl | exact h_.1.1 rfl | exact h_.1.2 rfl | exact h_.2.1 rfl | exact h_.2.2 rfl))
                                        rw [← Ny296.out] at ho
                                        have n0_ := Aside0.mk (Kd.R_after (ok := (fun k_ => some k_ ≠ (.slice Ao46 y293.length co46 : Value).ownBlock)) (by (with_reducible repeat (first | apply Kd.R_alloc | apply Kd.R_drewN | apply Kd.R_drew)); exact Kd.R_mono HO_7.out (fun _ hk => ⟨hk.2, hk.1⟩)) hg hat)
                                        have n1_ := Aside0.mk (Kd.R_after (ok := (fun k_ => some k_ ≠ (.slice (some ad292) x7_2.length co38 : Value).ownBlock)) (by (with_reducible repeat (first | apply Kd.R_alloc | apply Kd.R_drewN | apply Kd.R_drew)); exact Kd.R_mono HO295.out (fun _ hk => ⟨hk.2, hk.1⟩)) hg hat)
                                        have n2_ := Aside0.mk (hb)
                                        have n3_ := Aside0.mk (ho)
                                        clear HO_7
                                        clear HO295
                                        clear HB
                                        clear HO291
                                        have HO_7 := n0_
                                        have HO295 := n1_
                                        have HB := n2_
                                        have HO298 := n3_
                                        clear n0_ n1_ n2_ n3_
                                        clear ho hb hg hat
                                        refine hK.out _ _ (HS0_) (fun hHeld => ?_)
                                        clear hK K
                                        refine norm_ (a' := ?_) ?_ ?_
                                        rotate_left
                                        · show Act.put _ (some 70) _ = _
                                          simp only [Act.put, List.setIfInBounds_toArray, List.set_cons_zero, List.set_cons_succ, i64_w, i32_w]
                                          rfl
                                        refine pure_ (i := 13) (N := some 10) (v := ?_) (a' := ?_) #[true, true, true, true, true, true, true, true, true, true, true, true, true, true] rfl rfl (any_of HT_.out (by kernel_rfl)) (fun _ _ _ h => h) (Or.inl ⟨by rfl, ?_⟩) ?_ ?_
                                        rotate_left
                                        · intro w'
                                          go_simp
                                          with_reducible rfl
                                        rotate_left
                                        · simp only [Act.put, List.setIfInBounds_toArray, List.set_cons_zero, List.set_cons_succ, i64_w, i32_w]
                                          rfl
                                        refine done_ (done_of HT_.out (by kernel_rfl)) ?_
                                        obtain ⟨Ao47, co47, eo47⟩ := Kd.R_slice HO298.out
                                        subst eo47
                                        try go_wp2_with (first | ((with_reducible refine gate_callee (f := 9) rfl ?_); refine goesL_ (some 73) rfl rfl Try.func9 (by kernel_rfl) rfl #[.slice Ao47 y296.length co47] rfl (by (try simp only [List.map_toArray, List.map_cons, List.map_nil]); first | done | rfl | (simp only [List.length_drop, List.length_take]; rfl)) ?_; (with_reducible refine (frame_Scan.calls kj20 _ _ y296 t299 t300 t301 _ ?side1 ?side2 A30.out).mono ?_); (case side1 => repeat (first | exact (Kd.R_reads' HO298.out).2.2 | (with_reducible refine Kd.C_alloc ?_ _) | (with_reducible refine Kd.C_drewN ?_ _) | (with_reducible refine Kd.C_drew ?_))); (case side2 => exact (Kd.R_reads' HO298.out).2.1); rintro e w48 ⟨v302, rfl, ho0, hb⟩; refine ⟨_, rfl, ?_⟩; have n0_ := Aside0.mk (Kd.R_below (by (with_reducible repeat (first | apply Kd.R_alloc | apply Kd.R_drewN | apply Kd.R_drew)); exact HO_7.out) hb); have n1_ := Aside0.mk (Kd.R_below (by (with_reducible repeat (first | apply Kd.R_alloc | apply Kd.R_drewN | apply Kd.R_drew)); exact HO295.out) hb); have n2_ := Aside0.mk (Kd.R_below (by (with_reducible repeat (first | apply Kd.R_alloc | apply Kd.R_drewN | apply Kd.R_drew)); exact HO298.out) hb); have n3_ := Aside0.mk (Kd.S_lower (Kd.S_new' (Kd.S_new' (Kd.S_new' ho0 (Kd.R_lt (by (with_reducible repeat (first | apply Kd.R_alloc | apply Kd.R_drewN | apply Kd.R_drew)); exact HO_7.out))) (Kd.R_lt (by (with_reducible repeat (first | apply Kd.R_alloc | apply Kd.R_drewN | apply Kd.R_drew)); exact HO295.out))) (Kd.R_lt (by (with_reducible repeat (first | apply Kd.R_alloc | apply Kd.R_drewN | apply Kd.R_drew)); exact HO298.out))) (below_size (by repeat (first | (with_reducible first | exact HB.out | apply below_alloc | apply pw_below_drewN | apply below_drew1) | exact HB.out)))); have n4_ := Aside0.mk (below_step (by repeat (first | (with_reducible first | exact HB.out | apply below_alloc | apply pw_below_drewN | apply below_drew1) | exact HB.out)) hb); clear HO_7; clear HO295; clear HO298; clear HB; have HO_7 := n0_; have HO295 := n1_; have HO298 := n2_; have HO303 := n3_; have HB := n4_; clear n0_ n1_ n2_ n3_ n4_; (try clear hb); (try clear hb2); (try clear hk); (try clear hi); (try clear ho0); have q49 : (x8_2 : Int) ≤ ((l0.length : Int) : Int) := of_decide_eq_true (by first | (with_reducible assumption) | assumption); obtain ⟨i049, hi049, _, hsz49, _⟩ := info_parts info23; have hroom49 : l0.length ≤ c0 := HC0.out; have hC49 : Kd.C (Kd.slice 5 (Kd.int .u8)) _ A0 l0.length l0 := HR0.out; have hcut49 := cut_to (P := Try.prog) 27 23 .i64 Try.underlying27 hi049 A0 l0.length c0 x8_2 (of_decide_eq_true (by first | (with_reducible assumption) | assumption)) q49 hroom49; have hr49 := Kd.C_take (m := (x8_2 : Int).toNat) hC49 (by omega); have hy49 : y304.length = (x8_2 : Int).toNat := (by rw [Ny304.out, List.length_take]; omega); rw [← Ny304.out] at hr49; rw [← hy49] at hcut49; have HR307 := Aside0.mk hr49; have HC307 := Aside0.mk (show y304.length ≤ c0 from by omega); clear hr49 hC49 hroom49 hi049 hsz49; have KY49 := Aside0.mk hy49; clear hy49; replace q49 := eq_true q49; obtain ⟨Ao50, co50, eo50⟩ := Kd.S_slice HO303.out; subst eo50) | ((with_reducible refine gate_callee (f := 12) rfl ?_); refine goesL_ (some 81) rfl rfl Try.func12 (by kernel_rfl) rfl #[.slice Ao50 t299.length co50, .slice A0 y304.length c0] rfl (by (try simp only [List.map_toArray, List.map_cons, List.map_nil]); first | done | rfl | (simp only [List.length_drop, List.length_take]; rfl)) ?_; (with_reducible refine (hourglassref1_Same.calls kj20 _ _ t299 _ _ y304 true _ ?side1 ?side2 ?side3 ?side4 A33.out).mono ?_); (case side1 => repeat (first | exact (Kd.S_reads' HO303.out).2.2 | (with_reducible refine Kd.C_alloc ?_ _) | (with_reducible refine Kd.C_drewN ?_ _) | (with_reducible refine Kd.C_drew ?_))); (case side2 => exact (Kd.S_reads' HO303.out).2.1); (case side3 => repeat (first | exact (Kd.C_below HR307.out HB.out) | (with_reducible refine Kd.C_alloc ?_ _) | (with_reducible refine Kd.C_drewN ?_ _) | (with_reducible refine Kd.C_drew ?_))); (case side4 => exact HC307.out); rintro e w' ⟨rfl, ⟨nd, rfl⟩⟩; refine ⟨_, rfl, ?_⟩))
                                        go_ret
                                        exact ⟨by first | rfl | (simp [errW_none, errW_some] <;> rfl) | (simp [*, errW_none, errW_some] <;> rfl), by repeat (first | (with_reducible first | exact HB.out | apply below_alloc | apply pw_below_drewN | apply below_drew1) | exact HB.out)⟩
                                      · rw [if_neg c35] at H
                                        have c35b0 : decide (t300 ≤ a1) = false := decide_eq_false c35
                                        clear c35
                                        cases (Option.some.inj H).trans hlaw_.out
                                    · replace c34 := Bool.eq_false_iff.mpr c34
                                      subst c34
                                      have H1 : (some false) = some r := by rw [if_neg (show ¬ (false = true) by decide)] at H; exact H
                                      clear H
                                      have H := H1
                                      clear H1
                                      cases (Option.some.inj H).trans hlaw_.out
                                  · rw [if_neg c32] at H
                                    exact absurd H (by simp)
                                · rw [if_neg c31] at H
                                  exact absurd H (by simp)
                              · rw [if_neg c29] at H
                                exact absurd H (by simp)
                            · rw [if_neg c28] at H
                              exact absurd H (by simp)
                          · rw [if_neg c27] at H
                            exact absurd H (by simp)
                        · rw [if_neg c26] at H
                          exact absurd H (by simp)
                      · rw [if_neg c25] at H
                        exact absurd H (by simp)
  · replace c5 := Bool.eq_false_iff.mpr c5
    subst c5
    have H1 : (some false) = some r := by rw [if_neg (show ¬ (false = true) by decide)] at H; exact H
    clear H
    have H := H1
    clear H1
    cases (Option.some.inj H).trans hlaw_.out

end Go.Proofs.Ytacbaiflblngfaa.QFrame
