/- What the Go functions compute: each as a Lean function, with the proof that its call answers so; written by a program of this session over the kit's print. Conditions: each theorem's own. -/
import Derived.Test.YtfebebjopjopcaaQMidx0
import Derived.Test.YtfebebjopjopcaaQMidx2
import Derived.Test.YtfebebjopjopcaaQMidx3
namespace Go.Proofs.Ytfebebjopjopcaa.QMid
open Go.RowKit Go.Proofs.YtfebebjopjopcaaW.PrintWords Go.Proofs.YtfebebjopjopcaaW.PrintLast Go.Proofs.YtfebebjopjopcaaW.PrintMore
attribute [local go_sem] max2_int min2_int max_two min_two max_three min_three max_four min_four   -- for this text's walks alone
set_option linter.unusedVariables false
set_option linter.unusedSimpArgs false

/-! ### hourglasslaw7_DiscMiddle: function 5 -/
def hourglasslaw7_DiscMiddle.l0 : Nat → List Int → Int → Int → Int → Bool → Int → Option (Bool)
  | 0, _, _, _, _, _, _ => none
  | k + 1, x0, x5, x6, x7, x8, x9 => if x9 < (x0.length : Int) then (if 0 ≤ x9 then (if (rd x0 x9) > 1099511627776 then (if 1099511627776 < (-1099511627776) then (if x8 = true then (if (-1099511627776) < x5 then (if (-1099511627776) > x5 then (hourglasslaw7_DiscMiddle.l0 k x0 x5 (wrap64 (x6 + 1)) (wrap64 (x7 + 1)) true (wrap64 (x9 + 1))) else (hourglasslaw7_DiscMiddle.l0 k x0 x5 (wrap64 (x6 + 1)) x7 true (wrap64 (x9 + 1)))) else (if (-1099511627776) > x5 then (hourglasslaw7_DiscMiddle.l0 k x0 x5 x6 (wrap64 (x7 + 1)) true (wrap64 (x9 + 1))) else (hourglasslaw7_DiscMiddle.l0 k x0 x5 x6 x7 true (wrap64 (x9 + 1))))) else (if (-1099511627776) < x5 then (if (-1099511627776) > x5 then (hourglasslaw7_DiscMiddle.l0 k x0 x5 (wrap64 (x6 + 1)) (wrap64 (x7 + 1)) ((-1099511627776) == x5) (wrap64 (x9 + 1))) else (hourglasslaw7_DiscMiddle.l0 k x0 x5 (wrap64 (x6 + 1)) x7 ((-1099511627776) == x5) (wrap64 (x9 + 1)))) else (if (-1099511627776) > x5 then (hourglasslaw7_DiscMiddle.l0 k x0 x5 x6 (wrap64 (x7 + 1)) ((-1099511627776) == x5) (wrap64 (x9 + 1))) else (hourglasslaw7_DiscMiddle.l0 k x0 x5 x6 x7 ((-1099511627776) == x5) (wrap64 (x9 + 1)))))) else (if x8 = true then (if 1099511627776 < x5 then (if 1099511627776 > x5 then (hourglasslaw7_DiscMiddle.l0 k x0 x5 (wrap64 (x6 + 1)) (wrap64 (x7 + 1)) true (wrap64 (x9 + 1))) else (hourglasslaw7_DiscMiddle.l0 k x0 x5 (wrap64 (x6 + 1)) x7 true (wrap64 (x9 + 1)))) else (if 1099511627776 > x5 then (hourglasslaw7_DiscMiddle.l0 k x0 x5 x6 (wrap64 (x7 + 1)) true (wrap64 (x9 + 1))) else (hourglasslaw7_DiscMiddle.l0 k x0 x5 x6 x7 true (wrap64 (x9 + 1))))) else (if 1099511627776 < x5 then (if 1099511627776 > x5 then (hourglasslaw7_DiscMiddle.l0 k x0 x5 (wrap64 (x6 + 1)) (wrap64 (x7 + 1)) (1099511627776 == x5) (wrap64 (x9 + 1))) else (hourglasslaw7_DiscMiddle.l0 k x0 x5 (wrap64 (x6 + 1)) x7 (1099511627776 == x5) (wrap64 (x9 + 1)))) else (if 1099511627776 > x5 then (hourglasslaw7_DiscMiddle.l0 k x0 x5 x6 (wrap64 (x7 + 1)) (1099511627776 == x5) (wrap64 (x9 + 1))) else (hourglasslaw7_DiscMiddle.l0 k x0 x5 x6 x7 (1099511627776 == x5) (wrap64 (x9 + 1))))))) else (if (rd x0 x9) < (-1099511627776) then (if x8 = true then (if (-1099511627776) < x5 then (if (-1099511627776) > x5 then (hourglasslaw7_DiscMiddle.l0 k x0 x5 (wrap64 (x6 + 1)) (wrap64 (x7 + 1)) true (wrap64 (x9 + 1))) else (hourglasslaw7_DiscMiddle.l0 k x0 x5 (wrap64 (x6 + 1)) x7 true (wrap64 (x9 + 1)))) else (if (-1099511627776) > x5 then (hourglasslaw7_DiscMiddle.l0 k x0 x5 x6 (wrap64 (x7 + 1)) true (wrap64 (x9 + 1))) else (hourglasslaw7_DiscMiddle.l0 k x0 x5 x6 x7 true (wrap64 (x9 + 1))))) else (if (-1099511627776) < x5 then (if (-1099511627776) > x5 then (hourglasslaw7_DiscMiddle.l0 k x0 x5 (wrap64 (x6 + 1)) (wrap64 (x7 + 1)) ((-1099511627776) == x5) (wrap64 (x9 + 1))) else (hourglasslaw7_DiscMiddle.l0 k x0 x5 (wrap64 (x6 + 1)) x7 ((-1099511627776) == x5) (wrap64 (x9 + 1)))) else (if (-1099511627776) > x5 then (hourglasslaw7_DiscMiddle.l0 k x0 x5 x6 (wrap64 (x7 + 1)) ((-1099511627776) == x5) (wrap64 (x9 + 1))) else (hourglasslaw7_DiscMiddle.l0 k x0 x5 x6 x7 ((-1099511627776) == x5) (wrap64 (x9 + 1)))))) else (if x8 = true then (if (rd x0 x9) < x5 then (if (rd x0 x9) > x5 then (hourglasslaw7_DiscMiddle.l0 k x0 x5 (wrap64 (x6 + 1)) (wrap64 (x7 + 1)) true (wrap64 (x9 + 1))) else (hourglasslaw7_DiscMiddle.l0 k x0 x5 (wrap64 (x6 + 1)) x7 true (wrap64 (x9 + 1)))) else (if (rd x0 x9) > x5 then (hourglasslaw7_DiscMiddle.l0 k x0 x5 x6 (wrap64 (x7 + 1)) true (wrap64 (x9 + 1))) else (hourglasslaw7_DiscMiddle.l0 k x0 x5 x6 x7 true (wrap64 (x9 + 1))))) else (if (rd x0 x9) < x5 then (if (rd x0 x9) > x5 then (hourglasslaw7_DiscMiddle.l0 k x0 x5 (wrap64 (x6 + 1)) (wrap64 (x7 + 1)) ((rd x0 x9) == x5) (wrap64 (x9 + 1))) else (hourglasslaw7_DiscMiddle.l0 k x0 x5 (wrap64 (x6 + 1)) x7 ((rd x0 x9) == x5) (wrap64 (x9 + 1)))) else (if (rd x0 x9) > x5 then (hourglasslaw7_DiscMiddle.l0 k x0 x5 x6 (wrap64 (x7 + 1)) ((rd x0 x9) == x5) (wrap64 (x9 + 1))) else (hourglasslaw7_DiscMiddle.l0 k x0 x5 x6 x7 ((rd x0 x9) == x5) (wrap64 (x9 + 1)))))))) else (none)) else (if x8 = true then (if (wrap64 (2 * x6)) ≤ (wrap64 ((x0.length : Int) - 1)) then (some (decide ((wrap64 (2 * x7)) ≤ (x0.length : Int)))) else (some false)) else (some false))
def hourglasslaw7_DiscMiddle.f (k : Nat) (l0 : List Int) : Option (Bool) := (hourglasslaw7_awake.f k).bind fun t124 => (if t124 = true then (if (l0.length : Int) < 1 then (some true) else (if (l0.length : Int) > 64 then (some true) else ((disc_New.f 1 (-1)).bind fun bt125 => ((disc_Clock_Sample.f k bt125.1 bt125.2.1 bt125.2.2 l0).bind fun bt129 => (hourglasslaw7_DiscMiddle.l0 k l0 bt129.1 0 0 false 0))))) else (some false))
theorem hourglasslaw7_DiscMiddle.mono_l : ∀ k, (∀ y0 y1 y2 y3 y4 y5, LeO (hourglasslaw7_DiscMiddle.l0 k y0 y1 y2 y3 y4 y5) (hourglasslaw7_DiscMiddle.l0 (k + 1) y0 y1 y2 y3 y4 y5))
  | 0 => fun _ _ _ _ _ _ r h => by simp [hourglasslaw7_DiscMiddle.l0] at h
  | k + 1 => by
    have ih0 := hourglasslaw7_DiscMiddle.mono_l k
    · intro y0 y1 y2 y3 y4 y5
      unfold hourglasslaw7_DiscMiddle.l0
      repeat' first
      | (with_reducible exact ih0 _ _ _ _ _ _)
      | (with_reducible exact disc_Clock_Sample.mono _ _ _ _ _)
      | (with_reducible exact hourglasslaw7_awake.mono _)
      | (with_reducible exact LeO.refl _)
      | (with_reducible exact LeO.none _)
      | (with_reducible refine LeO.ite ?_ ?_)
      | (with_reducible refine LeO.bind ?_ (fun _ => ?_))
      | exact ih0 _ _ _ _ _ _
      | exact disc_Clock_Sample.mono _ _ _ _ _
      | exact hourglasslaw7_awake.mono _
      | exact LeO.none _
      | refine LeO.ite ?_ ?_
      | refine LeO.bind ?_ (fun _ => ?_)
theorem hourglasslaw7_DiscMiddle.mono : ∀ a0 k, LeO (hourglasslaw7_DiscMiddle.f k a0) (hourglasslaw7_DiscMiddle.f (k + 1) a0) := by
  intro a0 k
  have ih0 := hourglasslaw7_DiscMiddle.mono_l k
  unfold hourglasslaw7_DiscMiddle.f
  repeat' first
      | (with_reducible exact ih0 _ _ _ _ _ _)
      | (with_reducible exact disc_Clock_Sample.mono _ _ _ _ _)
      | (with_reducible exact hourglasslaw7_awake.mono _)
      | (with_reducible exact LeO.refl _)
      | (with_reducible exact LeO.none _)
      | (with_reducible refine LeO.ite ?_ ?_)
      | (with_reducible refine LeO.bind ?_ (fun _ => ?_))
      | exact ih0 _ _ _ _ _ _
      | exact disc_Clock_Sample.mono _ _ _ _ _
      | exact hourglasslaw7_awake.mono _
      | exact LeO.none _
      | refine LeO.ite ?_ ?_
      | refine LeO.bind ?_ (fun _ => ?_)
set_option maxHeartbeats 8000000 in
set_option maxRecDepth 100000 in
theorem hourglasslaw7_DiscMiddle.calls (k : Nat) (A0 : Option Addr) (c0 : Nat) (l0 : List Int) (r : Bool) (w : World) (hr0 : Kd.C (Kd.int .i64) w A0 l0.length l0) (hc0 : l0.length ≤ c0) (h : hourglasslaw7_DiscMiddle.f k l0 = some r) (hlaw_ : Aside0 (r = true)) :
    Calls Try.prog 5 #[.slice A0 l0.length c0] w fun e w' => e = .returned (.bool r) ∧ Below w.heap.size w w' := by
  have HR0 := Aside0.mk hr0
  have HC0 := Aside0.mk hc0
  clear hr0 hc0
  have HB := Aside0.mk (Below.refl w.heap.size w)
  have H : ((hourglasslaw7_awake.f k).bind fun t124 => (if t124 = true then (if (l0.length : Int) < 1 then (some true) else (if (l0.length : Int) > 64 then (some true) else ((disc_New.f 1 (-1)).bind fun bt125 => ((disc_Clock_Sample.f k bt125.1 bt125.2.1 bt125.2.2 l0).bind fun bt129 => (hourglasslaw7_DiscMiddle.l0 k l0 bt129.1 0 0 false 0))))) else (some false))) = some r := h
  clear h
  replace H := Option.bind_eq_some_iff.mp H
  obtain ⟨t124, A20, H⟩ := H
  replace H : (if t124 = true then (if (l0.length : Int) < 1 then (some true) else (if (l0.length : Int) > 64 then (some true) else ((disc_New.f 1 (-1)).bind fun bt125 => ((disc_Clock_Sample.f k bt125.1 bt125.2.1 bt125.2.2 l0).bind fun bt129 => (hourglasslaw7_DiscMiddle.l0 k l0 bt129.1 0 0 false 0))))) else (some false)) = some r := H
  have A2 := Aside0.mk A20
  clear A20
  by_cases c3 : t124 = true
  · subst c3
    have H1 : (if (l0.length : Int) < 1 then (some true) else (if (l0.length : Int) > 64 then (some true) else ((disc_New.f 1 (-1)).bind fun bt125 => ((disc_Clock_Sample.f k bt125.1 bt125.2.1 bt125.2.2 l0).bind fun bt129 => (hourglasslaw7_DiscMiddle.l0 k l0 bt129.1 0 0 false 0))))) = some r := by rw [if_pos rfl] at H; exact H
    clear H
    have H := H1
    clear H1
    by_cases c4 : (l0.length : Int) < 1
    · rw [if_pos c4] at H
      have c4b0 : decide ((l0.length : Int) < 1) = true := decide_eq_true c4
      have c4b1 : decide (l0.length < 1) = true := decide_eq_true (by omega)
      clear c4
      obtain rfl := Option.some.inj H
      go_enter Try.func5, Try.ntmps5
      go_wp2_with (first | ((with_reducible refine gate_callee (f := 9) rfl ?_); refine goesL_ (some 11) rfl rfl Try.func9 (by kernel_rfl) rfl #[] rfl (by (try simp only [List.map_toArray, List.map_cons, List.map_nil]); first | done | rfl | (simp only [List.length_drop, List.length_take]; rfl)) ?_; (with_reducible refine (hourglasslaw7_awake.calls k  true _ A2.out).mono ?_); rintro e w5 ⟨rfl, hb⟩; refine ⟨_, rfl, ?_⟩; have n0_ := Aside0.mk (below_step (by repeat (first | (with_reducible first | exact HB.out | apply below_alloc | apply pw_below_drewN | apply below_drew1) | exact HB.out)) hb); clear HB; have HB := n0_; clear n0_; (try clear hb); (try clear hb2); (try clear hk); (try clear hi)))
      go_ret
      exact ⟨by first | rfl | (simp [errW_none, errW_some] <;> rfl) | (simp [*, errW_none, errW_some] <;> rfl), by repeat (first | (with_reducible first | exact HB.out | apply below_alloc | apply pw_below_drewN | apply below_drew1) | exact HB.out)⟩
    · rw [if_neg c4] at H
      have c4b0 : decide ((l0.length : Int) < 1) = false := decide_eq_false c4
      have c4b1 : decide (l0.length < 1) = false := decide_eq_false (by omega)
      clear c4
      by_cases c6 : (l0.length : Int) > 64
      · rw [if_pos c6] at H
        have c6b0 : decide (64 < (l0.length : Int)) = true := decide_eq_true c6
        have c6b1 : decide (64 < l0.length) = true := decide_eq_true (by omega)
        clear c6
        obtain rfl := Option.some.inj H
        go_enter Try.func5, Try.ntmps5
        go_wp2_with (first | ((with_reducible refine gate_callee (f := 9) rfl ?_); refine goesL_ (some 11) rfl rfl Try.func9 (by kernel_rfl) rfl #[] rfl (by (try simp only [List.map_toArray, List.map_cons, List.map_nil]); first | done | rfl | (simp only [List.length_drop, List.length_take]; rfl)) ?_; (with_reducible refine (hourglasslaw7_awake.calls k  true _ A2.out).mono ?_); rintro e w7 ⟨rfl, hb⟩; refine ⟨_, rfl, ?_⟩; have n0_ := Aside0.mk (below_step (by repeat (first | (with_reducible first | exact HB.out | apply below_alloc | apply pw_below_drewN | apply below_drew1) | exact HB.out)) hb); clear HB; have HB := n0_; clear n0_; (try clear hb); (try clear hb2); (try clear hk); (try clear hi)))
        go_ret
        exact ⟨by first | rfl | (simp [errW_none, errW_some] <;> rfl) | (simp [*, errW_none, errW_some] <;> rfl), by repeat (first | (with_reducible first | exact HB.out | apply below_alloc | apply pw_below_drewN | apply below_drew1) | exact HB.out)⟩
      · rw [if_neg c6] at H
        have c6b0 : decide (64 < (l0.length : Int)) = false := decide_eq_false c6
        have c6b1 : decide (64 < l0.length) = false := decide_eq_false (by omega)
        clear c6
        replace H := Option.bind_eq_some_iff.mp H
        obtain ⟨⟨t125, t126, t127⟩, A80, H⟩ := H
        replace H : ((disc_Clock_Sample.f k t125 t126 t127 l0).bind fun bt129 => (hourglasslaw7_DiscMiddle.l0 k l0 bt129.1 0 0 false 0)) = some r := H
        have A8 := Aside0.mk A80
        clear A80
        replace H := Option.bind_eq_some_iff.mp H
        obtain ⟨⟨t129, t130, t131, t132⟩, A90, H⟩ := H
        replace H : (hourglasslaw7_DiscMiddle.l0 k l0 t129 0 0 false 0) = some r := H
        have A9 := Aside0.mk A90
        clear A90
        have H' := Aside0.mk H
        clear H
        go_enter Try.func5, Try.ntmps5
        go_wp2_with (first | ((with_reducible refine gate_callee (f := 9) rfl ?_); refine goesL_ (some 11) rfl rfl Try.func9 (by kernel_rfl) rfl #[] rfl (by (try simp only [List.map_toArray, List.map_cons, List.map_nil]); first | done | rfl | (simp only [List.length_drop, List.length_take]; rfl)) ?_; (with_reducible refine (hourglasslaw7_awake.calls k  true _ A2.out).mono ?_); rintro e w10 ⟨rfl, hb⟩; refine ⟨_, rfl, ?_⟩; have n0_ := Aside0.mk (below_step (by repeat (first | (with_reducible first | exact HB.out | apply below_alloc | apply pw_below_drewN | apply below_drew1) | exact HB.out)) hb); clear HB; have HB := n0_; clear n0_; (try clear hb); (try clear hb2); (try clear hk); (try clear hi)) | ((with_reducible refine gate_callee (f := 10) rfl ?_); refine goesL_ (some 22) rfl rfl Try.func10 (by kernel_rfl) rfl #[.int .u8 1, .int .i64 (-1)] rfl (by (try simp only [List.map_toArray, List.map_cons, List.map_nil]); first | done | rfl | (simp only [List.length_drop, List.length_take]; rfl)) ?_; (with_reducible refine (disc_New.calls 1 (-1) t125 t126 t127 w _ ?side1 A8.out).mono ?_); (case side1 => repeat (first | (with_reducible first | exact HB.out | apply below_alloc | apply pw_below_drewN | apply below_drew1) | exact HB.out)); rintro e w11 ⟨g128, rfl, hi, hb, hb2⟩; refine ⟨_, rfl, ?_⟩; have n0_ := Aside0.mk (hb); have n1_ := Aside0.mk (hi); clear HB; have HB := n0_; have HI128 := n1_; clear n0_ n1_; (try clear hb); (try clear hb2); (try clear hk); (try clear hi)) | ((with_reducible refine gate_callee (f := 13) rfl ?_); refine goesL_ (some 27) rfl rfl Try.func13 (by kernel_rfl) rfl #[.pointer (some ⟨g128, 0, none⟩), .slice A0 l0.length c0] rfl (by (try simp only [List.map_toArray, List.map_cons, List.map_nil]); first | done | rfl | (simp only [List.length_drop, List.length_take]; rfl)) ?_; (with_reducible refine (disc_Clock_Sample.calls k g128 t125 t126 t127 _ _ l0 t129 t130 t131 t132 w _ ?side1 ?side2 ?side3 ?side4 ?side5 A9.out).mono ?_); (case side1 => repeat (first | (with_reducible first | exact HI128.out | apply IsS49.alloc | apply IsS49.drewN | apply IsS49.drew | apply IsS49.set_0 | apply IsS49.set_1 | apply IsS49.set_2) | exact HI128.out)); (case side2 => repeat (first | (with_reducible first | exact HB.out | apply below_alloc | apply pw_below_drewN | apply below_drew1 | refine below_set ?_ (IsS49.ge HI128.out)) | exact HB.out)); (case side3 => repeat (first | exact (Kd.C_below HR0.out HB.out) | (with_reducible refine Kd.C_alloc ?_ _) | (with_reducible refine Kd.C_drewN ?_ _) | (with_reducible refine Kd.C_drew ?_))); (case side4 => exact HC0.out); (case side5 => exact Kd.far_C 0 HR0.out (IsS49.ge HI128.out)); rintro e w12 ⟨rfl, hi, hb, hk⟩; refine ⟨_, rfl, ?_⟩; have n0_ := Aside0.mk (hb); have n1_ := Aside0.mk (hi); clear HB; clear HI128; have HB := n0_; have HI128 := n1_; clear n0_ n1_; (try clear hb); (try clear hb2); (try clear hk); (try clear hi)))
        go_loopg [6, 7, 8, 9] k (fun kq v6 v7 v8 v9 w' => ∃ (x6_1 : Int) (x7_1 : Int) (x8_1 : Bool) (x9_1 : Int), v6 = .int .i64 x6_1 ∧ v7 = .int .i64 x7_1 ∧ v8 = .bool x8_1 ∧ v9 = .int .i64 x9_1 ∧ Aside0 (hourglasslaw7_DiscMiddle.l0 kq l0 t129 x6_1 x7_1 x8_1 x9_1 = some r) ∧ Aside0 (kq ≤ k) ∧ Aside0 (Below w.heap.size w w'))
        case atStart => exact ⟨(0), (0), (false), (0), (by first | rfl | (simp; done) | (simp [*]; done)), (by first | rfl | (simp; done) | (simp [*]; done)), (by first | rfl | (simp; done) | (simp [*]; done)), (by first | rfl | (simp; done) | (simp [*]; done)), H', ⟨Nat.le_refl _⟩, ⟨by repeat (first | (with_reducible first | exact HB.out | apply below_alloc | apply pw_below_drewN | apply below_drew1 | refine below_set ?_ (IsS49.ge HI128.out)) | exact HB.out)⟩⟩
        case round =>
          clear H'
          try clear c1
          try clear p2
          try clear c3
          try clear c4
          try clear c4b0
          try clear c4b1
          try clear c5
          try clear c6
          try clear c6b0
          try clear c6b1
          try clear c9
          try clear c10
          obtain ⟨x6_1, x7_1, x8_1, x9_1, rfl, rfl, rfl, rfl, HA, HK1, HB⟩ := hrel
          cases gk with
          | zero => exact absurd HA.out (by simp [hourglasslaw7_DiscMiddle.l0])
          | succ k1 =>
            have H := HA.out
            clear HA
            simp only [hourglasslaw7_DiscMiddle.l0] at H
            by_cases c13 : x9_1 < (l0.length : Int)
            · rw [if_pos c13] at H
              have c13b0 : decide (x9_1 < (l0.length : Int)) = true := decide_eq_true c13
              clear c13
              by_cases c14 : 0 ≤ x9_1
              · rw [if_pos c14] at H
                have c14b0 : decide (0 ≤ x9_1) = true := decide_eq_true c14
                clear c14
                by_cases c15 : (rd l0 x9_1) > 1099511627776
                · rw [if_pos c15] at H
                  have c15b0 : decide (1099511627776 < (rd l0 x9_1)) = true := decide_eq_true c15
                  clear c15
                  by_cases c16 : 1099511627776 < (-1099511627776)
                  · rw [if_pos c16] at H
                    have c16b0 : decide (1099511627776 < (-1099511627776)) = true := decide_eq_true c16
                    clear c16
                    by_cases c17 : x8_1 = true
                    · subst c17
                      have H1 : (if (-1099511627776) < t129 then (if (-1099511627776) > t129 then (hourglasslaw7_DiscMiddle.l0 k1 l0 t129 (wrap64 (x6_1 + 1)) (wrap64 (x7_1 + 1)) true (wrap64 (x9_1 + 1))) else (hourglasslaw7_DiscMiddle.l0 k1 l0 t129 (wrap64 (x6_1 + 1)) x7_1 true (wrap64 (x9_1 + 1)))) else (if (-1099511627776) > t129 then (hourglasslaw7_DiscMiddle.l0 k1 l0 t129 x6_1 (wrap64 (x7_1 + 1)) true (wrap64 (x9_1 + 1))) else (hourglasslaw7_DiscMiddle.l0 k1 l0 t129 x6_1 x7_1 true (wrap64 (x9_1 + 1))))) = some r := by rw [if_pos rfl] at H; exact H
                      clear H
                      have H := H1
                      clear H1
                      by_cases c18 : (-1099511627776) < t129
                      · rw [if_pos c18] at H
                        have c18b0 : decide ((-1099511627776) < t129) = true := decide_eq_true c18
                        clear c18
                        by_cases c19 : (-1099511627776) > t129
                        · rw [if_pos c19] at H
                          have c19b0 : decide (t129 < (-1099511627776)) = true := decide_eq_true c19
                          clear c19
                          have H' := Aside0.mk H
                          clear H
                          have p133 : 0 ≤ (x9_1 : Int) := of_decide_eq_true (by first | (with_reducible assumption) | assumption)
                          have q133 : x9_1 < (l0.length : Int) := of_decide_eq_true (by first | (with_reducible assumption) | assumption)
                          obtain ⟨ad133, e133, hx133_0⟩ := Kd.at_int HR0.out x9_1 p133 q133
                          cases e133
                          replace hx133_0 := (HB.out.cell (World.block_lt_of_cell? w _ hx133_0)).trans hx133_0
                          replace p133 := eq_true p133
                          replace q133 := eq_true q133
                          go_wp2
                          all_goals (go_roundg k1; (case measure => have := HK1.out; omega); (case rel => exact ⟨(wrap64 (x6_1 + 1)), (wrap64 (x7_1 + 1)), (true), (wrap64 (x9_1 + 1)), (by first | rfl | (simp; done) | (simp [*]; done)), (by first | rfl | (simp; done) | (simp [*]; done)), (by first | rfl | (simp; done) | (simp [*]; done)), (by first | rfl | (simp; done) | (simp [*]; done)), H', ⟨by have := HK1.out; omega⟩, ⟨by repeat (first | (with_reducible first | exact HB.out | apply below_alloc | apply pw_below_drewN | apply below_drew1) | exact HB.out)⟩⟩))
                        · rw [if_neg c19] at H
                          have c19b0 : decide (t129 < (-1099511627776)) = false := decide_eq_false c19
                          clear c19
                          have H' := Aside0.mk H
                          clear H
                          have p133 : 0 ≤ (x9_1 : Int) := of_decide_eq_true (by first | (with_reducible assumption) | assumption)
                          have q133 : x9_1 < (l0.length : Int) := of_decide_eq_true (by first | (with_reducible assumption) | assumption)
                          obtain ⟨ad133, e133, hx133_0⟩ := Kd.at_int HR0.out x9_1 p133 q133
                          cases e133
                          replace hx133_0 := (HB.out.cell (World.block_lt_of_cell? w _ hx133_0)).trans hx133_0
                          replace p133 := eq_true p133
                          replace q133 := eq_true q133
                          go_wp2
                          all_goals (go_roundg k1; (case measure => have := HK1.out; omega); (case rel => exact ⟨(wrap64 (x6_1 + 1)), (x7_1), (true), (wrap64 (x9_1 + 1)), (by first | rfl | (simp; done) | (simp [*]; done)), (by first | rfl | (simp; done) | (simp [*]; done)), (by first | rfl | (simp; done) | (simp [*]; done)), (by first | rfl | (simp; done) | (simp [*]; done)), H', ⟨by have := HK1.out; omega⟩, ⟨by repeat (first | (with_reducible first | exact HB.out | apply below_alloc | apply pw_below_drewN | apply below_drew1) | exact HB.out)⟩⟩))
                      · rw [if_neg c18] at H
                        have c18b0 : decide ((-1099511627776) < t129) = false := decide_eq_false c18
                        clear c18
                        by_cases c20 : (-1099511627776) > t129
                        · rw [if_pos c20] at H
                          have c20b0 : decide (t129 < (-1099511627776)) = true := decide_eq_true c20
                          clear c20
                          have H' := Aside0.mk H
                          clear H
                          have p133 : 0 ≤ (x9_1 : Int) := of_decide_eq_true (by first | (with_reducible assumption) | assumption)
                          have q133 : x9_1 < (l0.length : Int) := of_decide_eq_true (by first | (with_reducible assumption) | assumption)
                          obtain ⟨ad133, e133, hx133_0⟩ := Kd.at_int HR0.out x9_1 p133 q133
                          cases e133
                          replace hx133_0 := (HB.out.cell (World.block_lt_of_cell? w _ hx133_0)).trans hx133_0
                          replace p133 := eq_true p133
                          replace q133 := eq_true q133
                          go_wp2
                          all_goals (go_roundg k1; (case measure => have := HK1.out; omega); (case rel => exact ⟨(x6_1), (wrap64 (x7_1 + 1)), (true), (wrap64 (x9_1 + 1)), (by first | rfl | (simp; done) | (simp [*]; done)), (by first | rfl | (simp; done) | (simp [*]; done)), (by first | rfl | (simp; done) | (simp [*]; done)), (by first | rfl | (simp; done) | (simp [*]; done)), H', ⟨by have := HK1.out; omega⟩, ⟨by repeat (first | (with_reducible first | exact HB.out | apply below_alloc | apply pw_below_drewN | apply below_drew1) | exact HB.out)⟩⟩))
                        · rw [if_neg c20] at H
                          have c20b0 : decide (t129 < (-1099511627776)) = false := decide_eq_false c20
                          clear c20
                          have H' := Aside0.mk H
                          clear H
                          have p133 : 0 ≤ (x9_1 : Int) := of_decide_eq_true (by first | (with_reducible assumption) | assumption)
                          have q133 : x9_1 < (l0.length : Int) := of_decide_eq_true (by first | (with_reducible assumption) | assumption)
                          obtain ⟨ad133, e133, hx133_0⟩ := Kd.at_int HR0.out x9_1 p133 q133
                          cases e133
                          replace hx133_0 := (HB.out.cell (World.block_lt_of_cell? w _ hx133_0)).trans hx133_0
                          replace p133 := eq_true p133
                          replace q133 := eq_true q133
                          go_wp2
                          all_goals (go_roundg k1; (case measure => have := HK1.out; omega); (case rel => exact ⟨(x6_1), (x7_1), (true), (wrap64 (x9_1 + 1)), (by first | rfl | (simp; done) | (simp [*]; done)), (by first | rfl | (simp; done) | (simp [*]; done)), (by first | rfl | (simp; done) | (simp [*]; done)), (by first | rfl | (simp; done) | (simp [*]; done)), H', ⟨by have := HK1.out; omega⟩, ⟨by repeat (first | (with_reducible first | exact HB.out | apply below_alloc | apply pw_below_drewN | apply below_drew1) | exact HB.out)⟩⟩))
                    · replace c17 := Bool.eq_false_iff.mpr c17
                      subst c17
                      have H1 : (if (-1099511627776) < t129 then (if (-1099511627776) > t129 then (hourglasslaw7_DiscMiddle.l0 k1 l0 t129 (wrap64 (x6_1 + 1)) (wrap64 (x7_1 + 1)) ((-1099511627776) == t129) (wrap64 (x9_1 + 1))) else (hourglasslaw7_DiscMiddle.l0 k1 l0 t129 (wrap64 (x6_1 + 1)) x7_1 ((-1099511627776) == t129) (wrap64 (x9_1 + 1)))) else (if (-1099511627776) > t129 then (hourglasslaw7_DiscMiddle.l0 k1 l0 t129 x6_1 (wrap64 (x7_1 + 1)) ((-1099511627776) == t129) (wrap64 (x9_1 + 1))) else (hourglasslaw7_DiscMiddle.l0 k1 l0 t129 x6_1 x7_1 ((-1099511627776) == t129) (wrap64 (x9_1 + 1))))) = some r := by rw [if_neg (show ¬ (false = true) by decide)] at H; exact H
                      clear H
                      have H := H1
                      clear H1
                      by_cases c21 : (-1099511627776) < t129
                      · rw [if_pos c21] at H
                        have c21b0 : decide ((-1099511627776) < t129) = true := decide_eq_true c21
                        clear c21
                        by_cases c22 : (-1099511627776) > t129
                        · rw [if_pos c22] at H
                          have c22b0 : decide (t129 < (-1099511627776)) = true := decide_eq_true c22
                          clear c22
                          have H' := Aside0.mk H
                          clear H
                          have p133 : 0 ≤ (x9_1 : Int) := of_decide_eq_true (by first | (with_reducible assumption) | assumption)
                          have q133 : x9_1 < (l0.length : Int) := of_decide_eq_true (by first | (with_reducible assumption) | assumption)
                          obtain ⟨ad133, e133, hx133_0⟩ := Kd.at_int HR0.out x9_1 p133 q133
                          cases e133
                          replace hx133_0 := (HB.out.cell (World.block_lt_of_cell? w _ hx133_0)).trans hx133_0
                          replace p133 := eq_true p133
                          replace q133 := eq_true q133
                          go_wp2
                          all_goals (go_roundg k1; (case measure => have := HK1.out; omega); (case rel => exact ⟨(wrap64 (x6_1 + 1)), (wrap64 (x7_1 + 1)), (((-1099511627776) == t129)), (wrap64 (x9_1 + 1)), (by first | rfl | (simp; done) | (simp [*]; done)), (by first | rfl | (simp; done) | (simp [*]; done)), (by first | rfl | (simp; done) | (simp [*]; done)), (by first | rfl | (simp; done) | (simp [*]; done)), H', ⟨by have := HK1.out; omega⟩, ⟨by repeat (first | (with_reducible first | exact HB.out | apply below_alloc | apply pw_below_drewN | apply below_drew1) | exact HB.out)⟩⟩))
                        · rw [if_neg c22] at H
                          have c22b0 : decide (t129 < (-1099511627776)) = false := decide_eq_false c22
                          clear c22
                          have H' := Aside0.mk H
                          clear H
                          have p133 : 0 ≤ (x9_1 : Int) := of_decide_eq_true (by first | (with_reducible assumption) | assumption)
                          have q133 : x9_1 < (l0.length : Int) := of_decide_eq_true (by first | (with_reducible assumption) | assumption)
                          obtain ⟨ad133, e133, hx133_0⟩ := Kd.at_int HR0.out x9_1 p133 q133
                          cases e133
                          replace hx133_0 := (HB.out.cell (World.block_lt_of_cell? w _ hx133_0)).trans hx133_0
                          replace p133 := eq_true p133
                          replace q133 := eq_true q133
                          go_wp2
                          all_goals (go_roundg k1; (case measure => have := HK1.out; omega); (case rel => exact ⟨(wrap64 (x6_1 + 1)), (x7_1), (((-1099511627776) == t129)), (wrap64 (x9_1 + 1)), (by first | rfl | (simp; done) | (simp [*]; done)), (by first | rfl | (simp; done) | (simp [*]; done)), (by first | rfl | (simp; done) | (simp [*]; done)), (by first | rfl | (simp; done) | (simp [*]; done)), H', ⟨by have := HK1.out; omega⟩, ⟨by repeat (first | (with_reducible first | exact HB.out | apply below_alloc | apply pw_below_drewN | apply below_drew1) | exact HB.out)⟩⟩))
                      · rw [if_neg c21] at H
                        have c21b0 : decide ((-1099511627776) < t129) = false := decide_eq_false c21
                        clear c21
                        by_cases c23 : (-1099511627776) > t129
                        · rw [if_pos c23] at H
                          have c23b0 : decide (t129 < (-1099511627776)) = true := decide_eq_true c23
                          clear c23
                          have H' := Aside0.mk H
                          clear H
                          have p133 : 0 ≤ (x9_1 : Int) := of_decide_eq_true (by first | (with_reducible assumption) | assumption)
                          have q133 : x9_1 < (l0.length : Int) := of_decide_eq_true (by first | (with_reducible assumption) | assumption)
                          obtain ⟨ad133, e133, hx133_0⟩ := Kd.at_int HR0.out x9_1 p133 q133
                          cases e133
                          replace hx133_0 := (HB.out.cell (World.block_lt_of_cell? w _ hx133_0)).trans hx133_0
                          replace p133 := eq_true p133
                          replace q133 := eq_true q133
                          go_wp2
                          all_goals (go_roundg k1; (case measure => have := HK1.out; omega); (case rel => exact ⟨(x6_1), (wrap64 (x7_1 + 1)), (((-1099511627776) == t129)), (wrap64 (x9_1 + 1)), (by first | rfl | (simp; done) | (simp [*]; done)), (by first | rfl | (simp; done) | (simp [*]; done)), (by first | rfl | (simp; done) | (simp [*]; done)), (by first | rfl | (simp; done) | (simp [*]; done)), H', ⟨by have := HK1.out; omega⟩, ⟨by repeat (first | (with_reducible first | exact HB.out | apply below_alloc | apply pw_below_drewN | apply below_drew1) | exact HB.out)⟩⟩))
                        · rw [if_neg c23] at H
                          have c23b0 : decide (t129 < (-1099511627776)) = false := decide_eq_false c23
                          clear c23
                          have H' := Aside0.mk H
                          clear H
                          have p133 : 0 ≤ (x9_1 : Int) := of_decide_eq_true (by first | (with_reducible assumption) | assumption)
                          have q133 : x9_1 < (l0.length : Int) := of_decide_eq_true (by first | (with_reducible assumption) | assumption)
                          obtain ⟨ad133, e133, hx133_0⟩ := Kd.at_int HR0.out x9_1 p133 q133
                          cases e133
                          replace hx133_0 := (HB.out.cell (World.block_lt_of_cell? w _ hx133_0)).trans hx133_0
                          replace p133 := eq_true p133
                          replace q133 := eq_true q133
                          go_wp2
                          all_goals (go_roundg k1; (case measure => have := HK1.out; omega); (case rel => exact ⟨(x6_1), (x7_1), (((-1099511627776) == t129)), (wrap64 (x9_1 + 1)), (by first | rfl | (simp; done) | (simp [*]; done)), (by first | rfl | (simp; done) | (simp [*]; done)), (by first | rfl | (simp; done) | (simp [*]; done)), (by first | rfl | (simp; done) | (simp [*]; done)), H', ⟨by have := HK1.out; omega⟩, ⟨by repeat (first | (with_reducible first | exact HB.out | apply below_alloc | apply pw_below_drewN | apply below_drew1) | exact HB.out)⟩⟩))
                  · rw [if_neg c16] at H
                    have c16b0 : decide (1099511627776 < (-1099511627776)) = false := decide_eq_false c16
                    clear c16
                    by_cases c24 : x8_1 = true
                    · subst c24
                      have H1 : (if 1099511627776 < t129 then (if 1099511627776 > t129 then (hourglasslaw7_DiscMiddle.l0 k1 l0 t129 (wrap64 (x6_1 + 1)) (wrap64 (x7_1 + 1)) true (wrap64 (x9_1 + 1))) else (hourglasslaw7_DiscMiddle.l0 k1 l0 t129 (wrap64 (x6_1 + 1)) x7_1 true (wrap64 (x9_1 + 1)))) else (if 1099511627776 > t129 then (hourglasslaw7_DiscMiddle.l0 k1 l0 t129 x6_1 (wrap64 (x7_1 + 1)) true (wrap64 (x9_1 + 1))) else (hourglasslaw7_DiscMiddle.l0 k1 l0 t129 x6_1 x7_1 true (wrap64 (x9_1 + 1))))) = some r := by rw [if_pos rfl] at H; exact H
                      clear H
                      have H := H1
                      clear H1
                      by_cases c25 : 1099511627776 < t129
                      · rw [if_pos c25] at H
                        have c25b0 : decide (1099511627776 < t129) = true := decide_eq_true c25
                        clear c25
                        by_cases c26 : 1099511627776 > t129
                        · rw [if_pos c26] at H
                          have c26b0 : decide (t129 < 1099511627776) = true := decide_eq_true c26
                          clear c26
                          have H' := Aside0.mk H
                          clear H
                          have p133 : 0 ≤ (x9_1 : Int) := of_decide_eq_true (by first | (with_reducible assumption) | assumption)
                          have q133 : x9_1 < (l0.length : Int) := of_decide_eq_true (by first | (with_reducible assumption) | assumption)
                          obtain ⟨ad133, e133, hx133_0⟩ := Kd.at_int HR0.out x9_1 p133 q133
                          cases e133
                          replace hx133_0 := (HB.out.cell (World.block_lt_of_cell? w _ hx133_0)).trans hx133_0
                          replace p133 := eq_true p133
                          replace q133 := eq_true q133
                          go_wp2
                          all_goals (go_roundg k1; (case measure => have := HK1.out; omega); (case rel => exact ⟨(wrap64 (x6_1 + 1)), (wrap64 (x7_1 + 1)), (true), (wrap64 (x9_1 + 1)), (by first | rfl | (simp; done) | (simp [*]; done)), (by first | rfl | (simp; done) | (simp [*]; done)), (by first | rfl | (simp; done) | (simp [*]; done)), (by first | rfl | (simp; done) | (simp [*]; done)), H', ⟨by have := HK1.out; omega⟩, ⟨by repeat (first | (with_reducible first | exact HB.out | apply below_alloc | apply pw_below_drewN | apply below_drew1) | exact HB.out)⟩⟩))
                        · rw [if_neg c26] at H
                          have c26b0 : decide (t129 < 1099511627776) = false := decide_eq_false c26
                          clear c26
                          have H' := Aside0.mk H
                          clear H
                          have p133 : 0 ≤ (x9_1 : Int) := of_decide_eq_true (by first | (with_reducible assumption) | assumption)
                          have q133 : x9_1 < (l0.length : Int) := of_decide_eq_true (by first | (with_reducible assumption) | assumption)
                          obtain ⟨ad133, e133, hx133_0⟩ := Kd.at_int HR0.out x9_1 p133 q133
                          cases e133
                          replace hx133_0 := (HB.out.cell (World.block_lt_of_cell? w _ hx133_0)).trans hx133_0
                          replace p133 := eq_true p133
                          replace q133 := eq_true q133
                          go_wp2
                          all_goals (go_roundg k1; (case measure => have := HK1.out; omega); (case rel => exact ⟨(wrap64 (x6_1 + 1)), (x7_1), (true), (wrap64 (x9_1 + 1)), (by first | rfl | (simp; done) | (simp [*]; done)), (by first | rfl | (simp; done) | (simp [*]; done)), (by first | rfl | (simp; done) | (simp [*]; done)), (by first | rfl | (simp; done) | (simp [*]; done)), H', ⟨by have := HK1.out; omega⟩, ⟨by repeat (first | (with_reducible first | exact HB.out | apply below_alloc | apply pw_below_drewN | apply below_drew1) | exact HB.out)⟩⟩))
                      · rw [if_neg c25] at H
                        have c25b0 : decide (1099511627776 < t129) = false := decide_eq_false c25
                        clear c25
                        by_cases c27 : 1099511627776 > t129
                        · rw [if_pos c27] at H
                          have c27b0 : decide (t129 < 1099511627776) = true := decide_eq_true c27
                          clear c27
                          have H' := Aside0.mk H
                          clear H
                          have p133 : 0 ≤ (x9_1 : Int) := of_decide_eq_true (by first | (with_reducible assumption) | assumption)
                          have q133 : x9_1 < (l0.length : Int) := of_decide_eq_true (by first | (with_reducible assumption) | assumption)
                          obtain ⟨ad133, e133, hx133_0⟩ := Kd.at_int HR0.out x9_1 p133 q133
                          cases e133
                          replace hx133_0 := (HB.out.cell (World.block_lt_of_cell? w _ hx133_0)).trans hx133_0
                          replace p133 := eq_true p133
                          replace q133 := eq_true q133
                          go_wp2
                          all_goals (go_roundg k1; (case measure => have := HK1.out; omega); (case rel => exact ⟨(x6_1), (wrap64 (x7_1 + 1)), (true), (wrap64 (x9_1 + 1)), (by first | rfl | (simp; done) | (simp [*]; done)), (by first | rfl | (simp; done) | (simp [*]; done)), (by first | rfl | (simp; done) | (simp [*]; done)), (by first | rfl | (simp; done) | (simp [*]; done)), H', ⟨by have := HK1.out; omega⟩, ⟨by repeat (first | (with_reducible first | exact HB.out | apply below_alloc | apply pw_below_drewN | apply below_drew1) | exact HB.out)⟩⟩))
                        · rw [if_neg c27] at H
                          have c27b0 : decide (t129 < 1099511627776) = false := decide_eq_false c27
                          clear c27
                          have H' := Aside0.mk H
                          clear H
                          have p133 : 0 ≤ (x9_1 : Int) := of_decide_eq_true (by first | (with_reducible assumption) | assumption)
                          have q133 : x9_1 < (l0.length : Int) := of_decide_eq_true (by first | (with_reducible assumption) | assumption)
                          obtain ⟨ad133, e133, hx133_0⟩ := Kd.at_int HR0.out x9_1 p133 q133
                          cases e133
                          replace hx133_0 := (HB.out.cell (World.block_lt_of_cell? w _ hx133_0)).trans hx133_0
                          replace p133 := eq_true p133
                          replace q133 := eq_true q133
                          go_wp2
                          all_goals (go_roundg k1; (case measure => have := HK1.out; omega); (case rel => exact ⟨(x6_1), (x7_1), (true), (wrap64 (x9_1 + 1)), (by first | rfl | (simp; done) | (simp [*]; done)), (by first | rfl | (simp; done) | (simp [*]; done)), (by first | rfl | (simp; done) | (simp [*]; done)), (by first | rfl | (simp; done) | (simp [*]; done)), H', ⟨by have := HK1.out; omega⟩, ⟨by repeat (first | (with_reducible first | exact HB.out | apply below_alloc | apply pw_below_drewN | apply below_drew1) | exact HB.out)⟩⟩))
                    · replace c24 := Bool.eq_false_iff.mpr c24
                      subst c24
                      have H1 : (if 1099511627776 < t129 then (if 1099511627776 > t129 then (hourglasslaw7_DiscMiddle.l0 k1 l0 t129 (wrap64 (x6_1 + 1)) (wrap64 (x7_1 + 1)) (1099511627776 == t129) (wrap64 (x9_1 + 1))) else (hourglasslaw7_DiscMiddle.l0 k1 l0 t129 (wrap64 (x6_1 + 1)) x7_1 (1099511627776 == t129) (wrap64 (x9_1 + 1)))) else (if 1099511627776 > t129 then (hourglasslaw7_DiscMiddle.l0 k1 l0 t129 x6_1 (wrap64 (x7_1 + 1)) (1099511627776 == t129) (wrap64 (x9_1 + 1))) else (hourglasslaw7_DiscMiddle.l0 k1 l0 t129 x6_1 x7_1 (1099511627776 == t129) (wrap64 (x9_1 + 1))))) = some r := by rw [if_neg (show ¬ (false = true) by decide)] at H; exact H
                      clear H
                      have H := H1
                      clear H1
                      by_cases c28 : 1099511627776 < t129
                      · rw [if_pos c28] at H
                        have c28b0 : decide (1099511627776 < t129) = true := decide_eq_true c28
                        clear c28
                        by_cases c29 : 1099511627776 > t129
                        · rw [if_pos c29] at H
                          have c29b0 : decide (t129 < 1099511627776) = true := decide_eq_true c29
                          clear c29
                          have H' := Aside0.mk H
                          clear H
                          have p133 : 0 ≤ (x9_1 : Int) := of_decide_eq_true (by first | (with_reducible assumption) | assumption)
                          have q133 : x9_1 < (l0.length : Int) := of_decide_eq_true (by first | (with_reducible assumption) | assumption)
                          obtain ⟨ad133, e133, hx133_0⟩ := Kd.at_int HR0.out x9_1 p133 q133
                          cases e133
                          replace hx133_0 := (HB.out.cell (World.block_lt_of_cell? w _ hx133_0)).trans hx133_0
                          replace p133 := eq_true p133
                          replace q133 := eq_true q133
                          go_wp2
                          all_goals (go_roundg k1; (case measure => have := HK1.out; omega); (case rel => exact ⟨(wrap64 (x6_1 + 1)), (wrap64 (x7_1 + 1)), ((1099511627776 == t129)), (wrap64 (x9_1 + 1)), (by first | rfl | (simp; done) | (simp [*]; done)), (by first | rfl | (simp; done) | (simp [*]; done)), (by first | rfl | (simp; done) | (simp [*]; done)), (by first | rfl | (simp; done) | (simp [*]; done)), H', ⟨by have := HK1.out; omega⟩, ⟨by repeat (first | (with_reducible first | exact HB.out | apply below_alloc | apply pw_below_drewN | apply below_drew1) | exact HB.out)⟩⟩))
                        · rw [if_neg c29] at H
                          have c29b0 : decide (t129 < 1099511627776) = false := decide_eq_false c29
                          clear c29
                          have H' := Aside0.mk H
                          clear H
                          have p133 : 0 ≤ (x9_1 : Int) := of_decide_eq_true (by first | (with_reducible assumption) | assumption)
                          have q133 : x9_1 < (l0.length : Int) := of_decide_eq_true (by first | (with_reducible assumption) | assumption)
                          obtain ⟨ad133, e133, hx133_0⟩ := Kd.at_int HR0.out x9_1 p133 q133
                          cases e133
                          replace hx133_0 := (HB.out.cell (World.block_lt_of_cell? w _ hx133_0)).trans hx133_0
                          replace p133 := eq_true p133
                          replace q133 := eq_true q133
                          go_wp2
                          all_goals (go_roundg k1; (case measure => have := HK1.out; omega); (case rel => exact ⟨(wrap64 (x6_1 + 1)), (x7_1), ((1099511627776 == t129)), (wrap64 (x9_1 + 1)), (by first | rfl | (simp; done) | (simp [*]; done)), (by first | rfl | (simp; done) | (simp [*]; done)), (by first | rfl | (simp; done) | (simp [*]; done)), (by first | rfl | (simp; done) | (simp [*]; done)), H', ⟨by have := HK1.out; omega⟩, ⟨by repeat (first | (with_reducible first | exact HB.out | apply below_alloc | apply pw_below_drewN | apply below_drew1) | exact HB.out)⟩⟩))
                      · rw [if_neg c28] at H
                        have c28b0 : decide (1099511627776 < t129) = false := decide_eq_false c28
                        clear c28
                        by_cases c30 : 1099511627776 > t129
                        · rw [if_pos c30] at H
                          have c30b0 : decide (t129 < 1099511627776) = true := decide_eq_true c30
                          clear c30
                          have H' := Aside0.mk H
                          clear H
                          have p133 : 0 ≤ (x9_1 : Int) := of_decide_eq_true (by first | (with_reducible assumption) | assumption)
                          have q133 : x9_1 < (l0.length : Int) := of_decide_eq_true (by first | (with_reducible assumption) | assumption)
                          obtain ⟨ad133, e133, hx133_0⟩ := Kd.at_int HR0.out x9_1 p133 q133
                          cases e133
                          replace hx133_0 := (HB.out.cell (World.block_lt_of_cell? w _ hx133_0)).trans hx133_0
                          replace p133 := eq_true p133
                          replace q133 := eq_true q133
                          go_wp2
                          all_goals (go_roundg k1; (case measure => have := HK1.out; omega); (case rel => exact ⟨(x6_1), (wrap64 (x7_1 + 1)), ((1099511627776 == t129)), (wrap64 (x9_1 + 1)), (by first | rfl | (simp; done) | (simp [*]; done)), (by first | rfl | (simp; done) | (simp [*]; done)), (by first | rfl | (simp; done) | (simp [*]; done)), (by first | rfl | (simp; done) | (simp [*]; done)), H', ⟨by have := HK1.out; omega⟩, ⟨by repeat (first | (with_reducible first | exact HB.out | apply below_alloc | apply pw_below_drewN | apply below_drew1) | exact HB.out)⟩⟩))
                        · rw [if_neg c30] at H
                          have c30b0 : decide (t129 < 1099511627776) = false := decide_eq_false c30
                          clear c30
                          have H' := Aside0.mk H
                          clear H
                          have p133 : 0 ≤ (x9_1 : Int) := of_decide_eq_true (by first | (with_reducible assumption) | assumption)
                          have q133 : x9_1 < (l0.length : Int) := of_decide_eq_true (by first | (with_reducible assumption) | assumption)
                          obtain ⟨ad133, e133, hx133_0⟩ := Kd.at_int HR0.out x9_1 p133 q133
                          cases e133
                          replace hx133_0 := (HB.out.cell (World.block_lt_of_cell? w _ hx133_0)).trans hx133_0
                          replace p133 := eq_true p133
                          replace q133 := eq_true q133
                          go_wp2
                          all_goals (go_roundg k1; (case measure => have := HK1.out; omega); (case rel => exact ⟨(x6_1), (x7_1), ((1099511627776 == t129)), (wrap64 (x9_1 + 1)), (by first | rfl | (simp; done) | (simp [*]; done)), (by first | rfl | (simp; done) | (simp [*]; done)), (by first | rfl | (simp; done) | (simp [*]; done)), (by first | rfl | (simp; done) | (simp [*]; done)), H', ⟨by have := HK1.out; omega⟩, ⟨by repeat (first | (with_reducible first | exact HB.out | apply below_alloc | apply pw_below_drewN | apply below_drew1) | exact HB.out)⟩⟩))
                · rw [if_neg c15] at H
                  have c15b0 : decide (1099511627776 < (rd l0 x9_1)) = false := decide_eq_false c15
                  clear c15
                  by_cases c31 : (rd l0 x9_1) < (-1099511627776)
                  · rw [if_pos c31] at H
                    have c31b0 : decide ((rd l0 x9_1) < (-1099511627776)) = true := decide_eq_true c31
                    clear c31
                    by_cases c32 : x8_1 = true
                    · subst c32
                      have H1 : (if (-1099511627776) < t129 then (if (-1099511627776) > t129 then (hourglasslaw7_DiscMiddle.l0 k1 l0 t129 (wrap64 (x6_1 + 1)) (wrap64 (x7_1 + 1)) true (wrap64 (x9_1 + 1))) else (hourglasslaw7_DiscMiddle.l0 k1 l0 t129 (wrap64 (x6_1 + 1)) x7_1 true (wrap64 (x9_1 + 1)))) else (if (-1099511627776) > t129 then (hourglasslaw7_DiscMiddle.l0 k1 l0 t129 x6_1 (wrap64 (x7_1 + 1)) true (wrap64 (x9_1 + 1))) else (hourglasslaw7_DiscMiddle.l0 k1 l0 t129 x6_1 x7_1 true (wrap64 (x9_1 + 1))))) = some r := by rw [if_pos rfl] at H; exact H
                      clear H
                      have H := H1
                      clear H1
                      by_cases c33 : (-1099511627776) < t129
                      · rw [if_pos c33] at H
                        have c33b0 : decide ((-1099511627776) < t129) = true := decide_eq_true c33
                        clear c33
                        by_cases c34 : (-1099511627776) > t129
                        · rw [if_pos c34] at H
                          have c34b0 : decide (t129 < (-1099511627776)) = true := decide_eq_true c34
                          clear c34
                          have H' := Aside0.mk H
                          clear H
                          have p133 : 0 ≤ (x9_1 : Int) := of_decide_eq_true (by first | (with_reducible assumption) | assumption)
                          have q133 : x9_1 < (l0.length : Int) := of_decide_eq_true (by first | (with_reducible assumption) | assumption)
                          obtain ⟨ad133, e133, hx133_0⟩ := Kd.at_int HR0.out x9_1 p133 q133
                          cases e133
                          replace hx133_0 := (HB.out.cell (World.block_lt_of_cell? w _ hx133_0)).trans hx133_0
                          replace p133 := eq_true p133
                          replace q133 := eq_true q133
                          go_wp2
                          all_goals (go_roundg k1; (case measure => have := HK1.out; omega); (case rel => exact ⟨(wrap64 (x6_1 + 1)), (wrap64 (x7_1 + 1)), (true), (wrap64 (x9_1 + 1)), (by first | rfl | (simp; done) | (simp [*]; done)), (by first | rfl | (simp; done) | (simp [*]; done)), (by first | rfl | (simp; done) | (simp [*]; done)), (by first | rfl | (simp; done) | (simp [*]; done)), H', ⟨by have := HK1.out; omega⟩, ⟨by repeat (first | (with_reducible first | exact HB.out | apply below_alloc | apply pw_below_drewN | apply below_drew1) | exact HB.out)⟩⟩))
                        · rw [if_neg c34] at H
                          have c34b0 : decide (t129 < (-1099511627776)) = false := decide_eq_false c34
                          clear c34
                          have H' := Aside0.mk H
                          clear H
                          have p133 : 0 ≤ (x9_1 : Int) := of_decide_eq_true (by first | (with_reducible assumption) | assumption)
                          have q133 : x9_1 < (l0.length : Int) := of_decide_eq_true (by first | (with_reducible assumption) | assumption)
                          obtain ⟨ad133, e133, hx133_0⟩ := Kd.at_int HR0.out x9_1 p133 q133
                          cases e133
                          replace hx133_0 := (HB.out.cell (World.block_lt_of_cell? w _ hx133_0)).trans hx133_0
                          replace p133 := eq_true p133
                          replace q133 := eq_true q133
                          go_wp2
                          all_goals (go_roundg k1; (case measure => have := HK1.out; omega); (case rel => exact ⟨(wrap64 (x6_1 + 1)), (x7_1), (true), (wrap64 (x9_1 + 1)), (by first | rfl | (simp; done) | (simp [*]; done)), (by first | rfl | (simp; done) | (simp [*]; done)), (by first | rfl | (simp; done) | (simp [*]; done)), (by first | rfl | (simp; done) | (simp [*]; done)), H', ⟨by have := HK1.out; omega⟩, ⟨by repeat (first | (with_reducible first | exact HB.out | apply below_alloc | apply pw_below_drewN | apply below_drew1) | exact HB.out)⟩⟩))
                      · rw [if_neg c33] at H
                        have c33b0 : decide ((-1099511627776) < t129) = false := decide_eq_false c33
                        clear c33
                        by_cases c35 : (-1099511627776) > t129
                        · rw [if_pos c35] at H
                          have c35b0 : decide (t129 < (-1099511627776)) = true := decide_eq_true c35
                          clear c35
                          have H' := Aside0.mk H
                          clear H
                          have p133 : 0 ≤ (x9_1 : Int) := of_decide_eq_true (by first | (with_reducible assumption) | assumption)
                          have q133 : x9_1 < (l0.length : Int) := of_decide_eq_true (by first | (with_reducible assumption) | assumption)
                          obtain ⟨ad133, e133, hx133_0⟩ := Kd.at_int HR0.out x9_1 p133 q133
                          cases e133
                          replace hx133_0 := (HB.out.cell (World.block_lt_of_cell? w _ hx133_0)).trans hx133_0
                          replace p133 := eq_true p133
                          replace q133 := eq_true q133
                          go_wp2
                          all_goals (go_roundg k1; (case measure => have := HK1.out; omega); (case rel => exact ⟨(x6_1), (wrap64 (x7_1 + 1)), (true), (wrap64 (x9_1 + 1)), (by first | rfl | (simp; done) | (simp [*]; done)), (by first | rfl | (simp; done) | (simp [*]; done)), (by first | rfl | (simp; done) | (simp [*]; done)), (by first | rfl | (simp; done) | (simp [*]; done)), H', ⟨by have := HK1.out; omega⟩, ⟨by repeat (first | (with_reducible first | exact HB.out | apply below_alloc | apply pw_below_drewN | apply below_drew1) | exact HB.out)⟩⟩))
                        · rw [if_neg c35] at H
                          have c35b0 : decide (t129 < (-1099511627776)) = false := decide_eq_false c35
                          clear c35
                          have H' := Aside0.mk H
                          clear H
                          have p133 : 0 ≤ (x9_1 : Int) := of_decide_eq_true (by first | (with_reducible assumption) | assumption)
                          have q133 : x9_1 < (l0.length : Int) := of_decide_eq_true (by first | (with_reducible assumption) | assumption)
                          obtain ⟨ad133, e133, hx133_0⟩ := Kd.at_int HR0.out x9_1 p133 q133
                          cases e133
                          replace hx133_0 := (HB.out.cell (World.block_lt_of_cell? w _ hx133_0)).trans hx133_0
                          replace p133 := eq_true p133
                          replace q133 := eq_true q133
                          go_wp2
                          all_goals (go_roundg k1; (case measure => have := HK1.out; omega); (case rel => exact ⟨(x6_1), (x7_1), (true), (wrap64 (x9_1 + 1)), (by first | rfl | (simp; done) | (simp [*]; done)), (by first | rfl | (simp; done) | (simp [*]; done)), (by first | rfl | (simp; done) | (simp [*]; done)), (by first | rfl | (simp; done) | (simp [*]; done)), H', ⟨by have := HK1.out; omega⟩, ⟨by repeat (first | (with_reducible first | exact HB.out | apply below_alloc | apply pw_below_drewN | apply below_drew1) | exact HB.out)⟩⟩))
                    · replace c32 := Bool.eq_false_iff.mpr c32
                      subst c32
                      have H1 : (if (-1099511627776) < t129 then (if (-1099511627776) > t129 then (hourglasslaw7_DiscMiddle.l0 k1 l0 t129 (wrap64 (x6_1 + 1)) (wrap64 (x7_1 + 1)) ((-1099511627776) == t129) (wrap64 (x9_1 + 1))) else (hourglasslaw7_DiscMiddle.l0 k1 l0 t129 (wrap64 (x6_1 + 1)) x7_1 ((-1099511627776) == t129) (wrap64 (x9_1 + 1)))) else (if (-1099511627776) > t129 then (hourglasslaw7_DiscMiddle.l0 k1 l0 t129 x6_1 (wrap64 (x7_1 + 1)) ((-1099511627776) == t129) (wrap64 (x9_1 + 1))) else (hourglasslaw7_DiscMiddle.l0 k1 l0 t129 x6_1 x7_1 ((-1099511627776) == t129) (wrap64 (x9_1 + 1))))) = some r := by rw [if_neg (show ¬ (false = true) by decide)] at H; exact H
                      clear H
                      have H := H1
                      clear H1
                      by_cases c36 : (-1099511627776) < t129
                      · rw [if_pos c36] at H
                        have c36b0 : decide ((-1099511627776) < t129) = true := decide_eq_true c36
                        clear c36
                        by_cases c37 : (-1099511627776) > t129
                        · rw [if_pos c37] at H
                          have c37b0 : decide (t129 < (-1099511627776)) = true := decide_eq_true c37
                          clear c37
                          have H' := Aside0.mk H
                          clear H
                          have p133 : 0 ≤ (x9_1 : Int) := of_decide_eq_true (by first | (with_reducible assumption) | assumption)
                          have q133 : x9_1 < (l0.length : Int) := of_decide_eq_true (by first | (with_reducible assumption) | assumption)
                          obtain ⟨ad133, e133, hx133_0⟩ := Kd.at_int HR0.out x9_1 p133 q133
                          cases e133
                          replace hx133_0 := (HB.out.cell (World.block_lt_of_cell? w _ hx133_0)).trans hx133_0
                          replace p133 := eq_true p133
                          replace q133 := eq_true q133
                          go_wp2
                          all_goals (go_roundg k1; (case measure => have := HK1.out; omega); (case rel => exact ⟨(wrap64 (x6_1 + 1)), (wrap64 (x7_1 + 1)), (((-1099511627776) == t129)), (wrap64 (x9_1 + 1)), (by first | rfl | (simp; done) | (simp [*]; done)), (by first | rfl | (simp; done) | (simp [*]; done)), (by first | rfl | (simp; done) | (simp [*]; done)), (by first | rfl | (simp; done) | (simp [*]; done)), H', ⟨by have := HK1.out; omega⟩, ⟨by repeat (first | (with_reducible first | exact HB.out | apply below_alloc | apply pw_below_drewN | apply below_drew1) | exact HB.out)⟩⟩))
                        · rw [if_neg c37] at H
                          have c37b0 : decide (t129 < (-1099511627776)) = false := decide_eq_false c37
                          clear c37
                          have H' := Aside0.mk H
                          clear H
                          have p133 : 0 ≤ (x9_1 : Int) := of_decide_eq_true (by first | (with_reducible assumption) | assumption)
                          have q133 : x9_1 < (l0.length : Int) := of_decide_eq_true (by first | (with_reducible assumption) | assumption)
                          obtain ⟨ad133, e133, hx133_0⟩ := Kd.at_int HR0.out x9_1 p133 q133
                          cases e133
                          replace hx133_0 := (HB.out.cell (World.block_lt_of_cell? w _ hx133_0)).trans hx133_0
                          replace p133 := eq_true p133
                          replace q133 := eq_true q133
                          go_wp2
                          all_goals (go_roundg k1; (case measure => have := HK1.out; omega); (case rel => exact ⟨(wrap64 (x6_1 + 1)), (x7_1), (((-1099511627776) == t129)), (wrap64 (x9_1 + 1)), (by first | rfl | (simp; done) | (simp [*]; done)), (by first | rfl | (simp; done) | (simp [*]; done)), (by first | rfl | (simp; done) | (simp [*]; done)), (by first | rfl | (simp; done) | (simp [*]; done)), H', ⟨by have := HK1.out; omega⟩, ⟨by repeat (first | (with_reducible first | exact HB.out | apply below_alloc | apply pw_below_drewN | apply below_drew1) | exact HB.out)⟩⟩))
                      · rw [if_neg c36] at H
                        have c36b0 : decide ((-1099511627776) < t129) = false := decide_eq_false c36
                        clear c36
                        by_cases c38 : (-1099511627776) > t129
                        · rw [if_pos c38] at H
                          have c38b0 : decide (t129 < (-1099511627776)) = true := decide_eq_true c38
                          clear c38
                          have H' := Aside0.mk H
                          clear H
                          have p133 : 0 ≤ (x9_1 : Int) := of_decide_eq_true (by first | (with_reducible assumption) | assumption)
                          have q133 : x9_1 < (l0.length : Int) := of_decide_eq_true (by first | (with_reducible assumption) | assumption)
                          obtain ⟨ad133, e133, hx133_0⟩ := Kd.at_int HR0.out x9_1 p133 q133
                          cases e133
                          replace hx133_0 := (HB.out.cell (World.block_lt_of_cell? w _ hx133_0)).trans hx133_0
                          replace p133 := eq_true p133
                          replace q133 := eq_true q133
                          go_wp2
                          all_goals (go_roundg k1; (case measure => have := HK1.out; omega); (case rel => exact ⟨(x6_1), (wrap64 (x7_1 + 1)), (((-1099511627776) == t129)), (wrap64 (x9_1 + 1)), (by first | rfl | (simp; done) | (simp [*]; done)), (by first | rfl | (simp; done) | (simp [*]; done)), (by first | rfl | (simp; done) | (simp [*]; done)), (by first | rfl | (simp; done) | (simp [*]; done)), H', ⟨by have := HK1.out; omega⟩, ⟨by repeat (first | (with_reducible first | exact HB.out | apply below_alloc | apply pw_below_drewN | apply below_drew1) | exact HB.out)⟩⟩))
                        · rw [if_neg c38] at H
                          have c38b0 : decide (t129 < (-1099511627776)) = false := decide_eq_false c38
                          clear c38
                          have H' := Aside0.mk H
                          clear H
                          have p133 : 0 ≤ (x9_1 : Int) := of_decide_eq_true (by first | (with_reducible assumption) | assumption)
                          have q133 : x9_1 < (l0.length : Int) := of_decide_eq_true (by first | (with_reducible assumption) | assumption)
                          obtain ⟨ad133, e133, hx133_0⟩ := Kd.at_int HR0.out x9_1 p133 q133
                          cases e133
                          replace hx133_0 := (HB.out.cell (World.block_lt_of_cell? w _ hx133_0)).trans hx133_0
                          replace p133 := eq_true p133
                          replace q133 := eq_true q133
                          go_wp2
                          all_goals (go_roundg k1; (case measure => have := HK1.out; omega); (case rel => exact ⟨(x6_1), (x7_1), (((-1099511627776) == t129)), (wrap64 (x9_1 + 1)), (by first | rfl | (simp; done) | (simp [*]; done)), (by first | rfl | (simp; done) | (simp [*]; done)), (by first | rfl | (simp; done) | (simp [*]; done)), (by first | rfl | (simp; done) | (simp [*]; done)), H', ⟨by have := HK1.out; omega⟩, ⟨by repeat (first | (with_reducible first | exact HB.out | apply below_alloc | apply pw_below_drewN | apply below_drew1) | exact HB.out)⟩⟩))
                  · rw [if_neg c31] at H
                    have c31b0 : decide ((rd l0 x9_1) < (-1099511627776)) = false := decide_eq_false c31
                    clear c31
                    by_cases c39 : x8_1 = true
                    · subst c39
                      have H1 : (if (rd l0 x9_1) < t129 then (if (rd l0 x9_1) > t129 then (hourglasslaw7_DiscMiddle.l0 k1 l0 t129 (wrap64 (x6_1 + 1)) (wrap64 (x7_1 + 1)) true (wrap64 (x9_1 + 1))) else (hourglasslaw7_DiscMiddle.l0 k1 l0 t129 (wrap64 (x6_1 + 1)) x7_1 true (wrap64 (x9_1 + 1)))) else (if (rd l0 x9_1) > t129 then (hourglasslaw7_DiscMiddle.l0 k1 l0 t129 x6_1 (wrap64 (x7_1 + 1)) true (wrap64 (x9_1 + 1))) else (hourglasslaw7_DiscMiddle.l0 k1 l0 t129 x6_1 x7_1 true (wrap64 (x9_1 + 1))))) = some r := by rw [if_pos rfl] at H; exact H
                      clear H
                      have H := H1
                      clear H1
                      by_cases c40 : (rd l0 x9_1) < t129
                      · rw [if_pos c40] at H
                        have c40b0 : decide ((rd l0 x9_1) < t129) = true := decide_eq_true c40
                        clear c40
                        by_cases c41 : (rd l0 x9_1) > t129
                        · rw [if_pos c41] at H
                          have c41b0 : decide (t129 < (rd l0 x9_1)) = true := decide_eq_true c41
                          clear c41
                          have H' := Aside0.mk H
                          clear H
                          have p133 : 0 ≤ (x9_1 : Int) := of_decide_eq_true (by first | (with_reducible assumption) | assumption)
                          have q133 : x9_1 < (l0.length : Int) := of_decide_eq_true (by first | (with_reducible assumption) | assumption)
                          obtain ⟨ad133, e133, hx133_0⟩ := Kd.at_int HR0.out x9_1 p133 q133
                          cases e133
                          replace hx133_0 := (HB.out.cell (World.block_lt_of_cell? w _ hx133_0)).trans hx133_0
                          replace p133 := eq_true p133
                          replace q133 := eq_true q133
                          go_wp2
                          all_goals (go_roundg k1; (case measure => have := HK1.out; omega); (case rel => exact ⟨(wrap64 (x6_1 + 1)), (wrap64 (x7_1 + 1)), (true), (wrap64 (x9_1 + 1)), (by first | rfl | (simp; done) | (simp [*]; done)), (by first | rfl | (simp; done) | (simp [*]; done)), (by first | rfl | (simp; done) | (simp [*]; done)), (by first | rfl | (simp; done) | (simp [*]; done)), H', ⟨by have := HK1.out; omega⟩, ⟨by repeat (first | (with_reducible first | exact HB.out | apply below_alloc | apply pw_below_drewN | apply below_drew1) | exact HB.out)⟩⟩))
                        · rw [if_neg c41] at H
                          have c41b0 : decide (t129 < (rd l0 x9_1)) = false := decide_eq_false c41
                          clear c41
                          have H' := Aside0.mk H
                          clear H
                          have p133 : 0 ≤ (x9_1 : Int) := of_decide_eq_true (by first | (with_reducible assumption) | assumption)
                          have q133 : x9_1 < (l0.length : Int) := of_decide_eq_true (by first | (with_reducible assumption) | assumption)
                          obtain ⟨ad133, e133, hx133_0⟩ := Kd.at_int HR0.out x9_1 p133 q133
                          cases e133
                          replace hx133_0 := (HB.out.cell (World.block_lt_of_cell? w _ hx133_0)).trans hx133_0
                          replace p133 := eq_true p133
                          replace q133 := eq_true q133
                          go_wp2
                          all_goals (go_roundg k1; (case measure => have := HK1.out; omega); (case rel => exact ⟨(wrap64 (x6_1 + 1)), (x7_1), (true), (wrap64 (x9_1 + 1)), (by first | rfl | (simp; done) | (simp [*]; done)), (by first | rfl | (simp; done) | (simp [*]; done)), (by first | rfl | (simp; done) | (simp [*]; done)), (by first | rfl | (simp; done) | (simp [*]; done)), H', ⟨by have := HK1.out; omega⟩, ⟨by repeat (first | (with_reducible first | exact HB.out | apply below_alloc | apply pw_below_drewN | apply below_drew1) | exact HB.out)⟩⟩))
                      · rw [if_neg c40] at H
                        have c40b0 : decide ((rd l0 x9_1) < t129) = false := decide_eq_false c40
                        clear c40
                        by_cases c42 : (rd l0 x9_1) > t129
                        · rw [if_pos c42] at H
                          have c42b0 : decide (t129 < (rd l0 x9_1)) = true := decide_eq_true c42
                          clear c42
                          have H' := Aside0.mk H
                          clear H
                          have p133 : 0 ≤ (x9_1 : Int) := of_decide_eq_true (by first | (with_reducible assumption) | assumption)
                          have q133 : x9_1 < (l0.length : Int) := of_decide_eq_true (by first | (with_reducible assumption) | assumption)
                          obtain ⟨ad133, e133, hx133_0⟩ := Kd.at_int HR0.out x9_1 p133 q133
                          cases e133
                          replace hx133_0 := (HB.out.cell (World.block_lt_of_cell? w _ hx133_0)).trans hx133_0
                          replace p133 := eq_true p133
                          replace q133 := eq_true q133
                          go_wp2
                          all_goals (go_roundg k1; (case measure => have := HK1.out; omega); (case rel => exact ⟨(x6_1), (wrap64 (x7_1 + 1)), (true), (wrap64 (x9_1 + 1)), (by first | rfl | (simp; done) | (simp [*]; done)), (by first | rfl | (simp; done) | (simp [*]; done)), (by first | rfl | (simp; done) | (simp [*]; done)), (by first | rfl | (simp; done) | (simp [*]; done)), H', ⟨by have := HK1.out; omega⟩, ⟨by repeat (first | (with_reducible first | exact HB.out | apply below_alloc | apply pw_below_drewN | apply below_drew1) | exact HB.out)⟩⟩))
                        · rw [if_neg c42] at H
                          have c42b0 : decide (t129 < (rd l0 x9_1)) = false := decide_eq_false c42
                          clear c42
                          have H' := Aside0.mk H
                          clear H
                          have p133 : 0 ≤ (x9_1 : Int) := of_decide_eq_true (by first | (with_reducible assumption) | assumption)
                          have q133 : x9_1 < (l0.length : Int) := of_decide_eq_true (by first | (with_reducible assumption) | assumption)
                          obtain ⟨ad133, e133, hx133_0⟩ := Kd.at_int HR0.out x9_1 p133 q133
                          cases e133
                          replace hx133_0 := (HB.out.cell (World.block_lt_of_cell? w _ hx133_0)).trans hx133_0
                          replace p133 := eq_true p133
                          replace q133 := eq_true q133
                          go_wp2
                          all_goals (go_roundg k1; (case measure => have := HK1.out; omega); (case rel => exact ⟨(x6_1), (x7_1), (true), (wrap64 (x9_1 + 1)), (by first | rfl | (simp; done) | (simp [*]; done)), (by first | rfl | (simp; done) | (simp [*]; done)), (by first | rfl | (simp; done) | (simp [*]; done)), (by first | rfl | (simp; done) | (simp [*]; done)), H', ⟨by have := HK1.out; omega⟩, ⟨by repeat (first | (with_reducible first | exact HB.out | apply below_alloc | apply pw_below_drewN | apply below_drew1) | exact HB.out)⟩⟩))
                    · replace c39 := Bool.eq_false_iff.mpr c39
                      subst c39
                      have H1 : (if (rd l0 x9_1) < t129 then (if (rd l0 x9_1) > t129 then (hourglasslaw7_DiscMiddle.l0 k1 l0 t129 (wrap64 (x6_1 + 1)) (wrap64 (x7_1 + 1)) ((rd l0 x9_1) == t129) (wrap64 (x9_1 + 1))) else (hourglasslaw7_DiscMiddle.l0 k1 l0 t129 (wrap64 (x6_1 + 1)) x7_1 ((rd l0 x9_1) == t129) (wrap64 (x9_1 + 1)))) else (if (rd l0 x9_1) > t129 then (hourglasslaw7_DiscMiddle.l0 k1 l0 t129 x6_1 (wrap64 (x7_1 + 1)) ((rd l0 x9_1) == t129) (wrap64 (x9_1 + 1))) else (hourglasslaw7_DiscMiddle.l0 k1 l0 t129 x6_1 x7_1 ((rd l0 x9_1) == t129) (wrap64 (x9_1 + 1))))) = some r := by rw [if_neg (show ¬ (false = true) by decide)] at H; exact H
                      clear H
                      have H := H1
                      clear H1
                      by_cases c43 : (rd l0 x9_1) < t129
                      · rw [if_pos c43] at H
                        have c43b0 : decide ((rd l0 x9_1) < t129) = true := decide_eq_true c43
                        clear c43
                        by_cases c44 : (rd l0 x9_1) > t129
                        · rw [if_pos c44] at H
                          have c44b0 : decide (t129 < (rd l0 x9_1)) = true := decide_eq_true c44
                          clear c44
                          have H' := Aside0.mk H
                          clear H
                          have p133 : 0 ≤ (x9_1 : Int) := of_decide_eq_true (by first | (with_reducible assumption) | assumption)
                          have q133 : x9_1 < (l0.length : Int) := of_decide_eq_true (by first | (with_reducible assumption) | assumption)
                          obtain ⟨ad133, e133, hx133_0⟩ := Kd.at_int HR0.out x9_1 p133 q133
                          cases e133
                          replace hx133_0 := (HB.out.cell (World.block_lt_of_cell? w _ hx133_0)).trans hx133_0
                          replace p133 := eq_true p133
                          replace q133 := eq_true q133
                          go_wp2
                          all_goals (go_roundg k1; (case measure => have := HK1.out; omega); (case rel => exact ⟨(wrap64 (x6_1 + 1)), (wrap64 (x7_1 + 1)), (((rd l0 x9_1) == t129)), (wrap64 (x9_1 + 1)), (by first | rfl | (simp; done) | (simp [*]; done)), (by first | rfl | (simp; done) | (simp [*]; done)), (by first | rfl | (simp; done) | (simp [*]; done)), (by first | rfl | (simp; done) | (simp [*]; done)), H', ⟨by have := HK1.out; omega⟩, ⟨by repeat (first | (with_reducible first | exact HB.out | apply below_alloc | apply pw_below_drewN | apply below_drew1) | exact HB.out)⟩⟩))
                        · rw [if_neg c44] at H
                          have c44b0 : decide (t129 < (rd l0 x9_1)) = false := decide_eq_false c44
                          clear c44
                          have H' := Aside0.mk H
                          clear H
                          have p133 : 0 ≤ (x9_1 : Int) := of_decide_eq_true (by first | (with_reducible assumption) | assumption)
                          have q133 : x9_1 < (l0.length : Int) := of_decide_eq_true (by first | (with_reducible assumption) | assumption)
                          obtain ⟨ad133, e133, hx133_0⟩ := Kd.at_int HR0.out x9_1 p133 q133
                          cases e133
                          replace hx133_0 := (HB.out.cell (World.block_lt_of_cell? w _ hx133_0)).trans hx133_0
                          replace p133 := eq_true p133
                          replace q133 := eq_true q133
                          go_wp2
                          all_goals (go_roundg k1; (case measure => have := HK1.out; omega); (case rel => exact ⟨(wrap64 (x6_1 + 1)), (x7_1), (((rd l0 x9_1) == t129)), (wrap64 (x9_1 + 1)), (by first | rfl | (simp; done) | (simp [*]; done)), (by first | rfl | (simp; done) | (simp [*]; done)), (by first | rfl | (simp; done) | (simp [*]; done)), (by first | rfl | (simp; done) | (simp [*]; done)), H', ⟨by have := HK1.out; omega⟩, ⟨by repeat (first | (with_reducible first | exact HB.out | apply below_alloc | apply pw_below_drewN | apply below_drew1) | exact HB.out)⟩⟩))
                      · rw [if_neg c43] at H
                        have c43b0 : decide ((rd l0 x9_1) < t129) = false := decide_eq_false c43
                        clear c43
                        by_cases c45 : (rd l0 x9_1) > t129
                        · rw [if_pos c45] at H
                          have c45b0 : decide (t129 < (rd l0 x9_1)) = true := decide_eq_true c45
                          clear c45
                          have H' := Aside0.mk H
                          clear H
                          have p133 : 0 ≤ (x9_1 : Int) := of_decide_eq_true (by first | (with_reducible assumption) | assumption)
                          have q133 : x9_1 < (l0.length : Int) := of_decide_eq_true (by first | (with_reducible assumption) | assumption)
                          obtain ⟨ad133, e133, hx133_0⟩ := Kd.at_int HR0.out x9_1 p133 q133
                          cases e133
                          replace hx133_0 := (HB.out.cell (World.block_lt_of_cell? w _ hx133_0)).trans hx133_0
                          replace p133 := eq_true p133
                          replace q133 := eq_true q133
                          go_wp2
                          all_goals (go_roundg k1; (case measure => have := HK1.out; omega); (case rel => exact ⟨(x6_1), (wrap64 (x7_1 + 1)), (((rd l0 x9_1) == t129)), (wrap64 (x9_1 + 1)), (by first | rfl | (simp; done) | (simp [*]; done)), (by first | rfl | (simp; done) | (simp [*]; done)), (by first | rfl | (simp; done) | (simp [*]; done)), (by first | rfl | (simp; done) | (simp [*]; done)), H', ⟨by have := HK1.out; omega⟩, ⟨by repeat (first | (with_reducible first | exact HB.out | apply below_alloc | apply pw_below_drewN | apply below_drew1) | exact HB.out)⟩⟩))
                        · rw [if_neg c45] at H
                          have c45b0 : decide (t129 < (rd l0 x9_1)) = false := decide_eq_false c45
                          clear c45
                          have H' := Aside0.mk H
                          clear H
                          have p133 : 0 ≤ (x9_1 : Int) := of_decide_eq_true (by first | (with_reducible assumption) | assumption)
                          have q133 : x9_1 < (l0.length : Int) := of_decide_eq_true (by first | (with_reducible assumption) | assumption)
                          obtain ⟨ad133, e133, hx133_0⟩ := Kd.at_int HR0.out x9_1 p133 q133
                          cases e133
                          replace hx133_0 := (HB.out.cell (World.block_lt_of_cell? w _ hx133_0)).trans hx133_0
                          replace p133 := eq_true p133
                          replace q133 := eq_true q133
                          go_wp2
                          all_goals (go_roundg k1; (case measure => have := HK1.out; omega); (case rel => exact ⟨(x6_1), (x7_1), (((rd l0 x9_1) == t129)), (wrap64 (x9_1 + 1)), (by first | rfl | (simp; done) | (simp [*]; done)), (by first | rfl | (simp; done) | (simp [*]; done)), (by first | rfl | (simp; done) | (simp [*]; done)), (by first | rfl | (simp; done) | (simp [*]; done)), H', ⟨by have := HK1.out; omega⟩, ⟨by repeat (first | (with_reducible first | exact HB.out | apply below_alloc | apply pw_below_drewN | apply below_drew1) | exact HB.out)⟩⟩))
              · rw [if_neg c14] at H
                exact absurd H (by simp)
            · rw [if_neg c13] at H
              have c13b0 : decide (x9_1 < (l0.length : Int)) = false := decide_eq_false c13
              clear c13
              by_cases c46 : x8_1 = true
              · subst c46
                have H1 : (if (wrap64 (2 * x6_1)) ≤ (wrap64 ((l0.length : Int) - 1)) then (some (decide ((wrap64 (2 * x7_1)) ≤ (l0.length : Int)))) else (some false)) = some r := by rw [if_pos rfl] at H; exact H
                clear H
                have H := H1
                clear H1
                by_cases c47 : (wrap64 (2 * x6_1)) ≤ (wrap64 ((l0.length : Int) - 1))
                · rw [if_pos c47] at H
                  have c47b0 : decide ((wrap64 (2 * x6_1)) ≤ (wrap64 ((l0.length : Int) - 1))) = true := decide_eq_true c47
                  clear c47
                  obtain rfl := Option.some.inj H
                  go_wp2
                  go_ret
                  exact ⟨by first | rfl | (simp [errW_none, errW_some] <;> rfl) | (simp [*, errW_none, errW_some] <;> rfl), by repeat (first | (with_reducible first | exact HB.out | apply below_alloc | apply pw_below_drewN | apply below_drew1) | exact HB.out)⟩
                · rw [if_neg c47] at H
                  have c47b0 : decide ((wrap64 (2 * x6_1)) ≤ (wrap64 ((l0.length : Int) - 1))) = false := decide_eq_false c47
                  clear c47
                  cases (Option.some.inj H).trans hlaw_.out
              · replace c46 := Bool.eq_false_iff.mpr c46
                subst c46
                have H1 : (some false) = some r := by rw [if_neg (show ¬ (false = true) by decide)] at H; exact H
                clear H
                have H := H1
                clear H1
                cases (Option.some.inj H).trans hlaw_.out
  · replace c3 := Bool.eq_false_iff.mpr c3
    subst c3
    have H1 : (some false) = some r := by rw [if_neg (show ¬ (false = true) by decide)] at H; exact H
    clear H
    have H := H1
    clear H1
    cases (Option.some.inj H).trans hlaw_.out

/-- THE ONE PURE STATEMENT of hourglasslaw7_DiscMiddle: yours. -/
def hourglasslaw7_DiscMiddle.Pure : Prop := ∀ (l0 : List Int), l0.length ≤ maxLen → l0.length * 8 ≤ 140737488351232 → (∀ x ∈ l0, (Lit.int .i64 x).wf = true) → ∃ k, hourglasslaw7_DiscMiddle.f k l0 = some true
theorem hourglasslaw7_DiscMiddle.walk (P : hourglasslaw7_DiscMiddle.Pure) (a0 : Option Addr) (len0 cap0 : Nat) (z0 : List Int) (w : World) (w0 : (a0 = none ∧ len0 = 0 ∧ cap0 = 0 ∧ z0 = []) ∨ ∃ x, a0 = some x ∧ len0 ≤ cap0 ∧ cap0 ≤ maxLen ∧ z0.length = cap0 ∧ (∀ i, i < z0.length → w.cell? (x.add i) = some (.int .i64 (z0.getD i 0))) ∧ ∀ n ∈ z0, (Lit.int .i64 n).wf = true) (y0 : len0 * 8 ≤ 140737488351232) :
    Calls Try.prog 5 #[.slice a0 len0 cap0] w fun e w' => e = .returned (.bool true) ∧ Below w.heap.size w w' := by
  obtain ⟨l0, rfl, hr0, hm0, hw0, hc0⟩ := ReadsInt.ofRowC w0
  obtain ⟨k, h⟩ := P l0 hm0 y0 hw0
  refine (hourglasslaw7_DiscMiddle.calls k _ _ l0 true w (Kd.C_of_reads (d := (0 : Int)) (h1 := fun _ => rfl) hr0) hc0 h (Aside0.mk rfl)).mono ?_
  rintro e w' ⟨rfl, hd⟩
  exact ⟨rfl, hd⟩

end Go.Proofs.Ytfebebjopjopcaa.QMid
