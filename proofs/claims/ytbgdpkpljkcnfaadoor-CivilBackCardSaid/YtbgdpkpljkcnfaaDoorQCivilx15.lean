/- What the Go functions compute: each as a Lean function, with the proof that its call answers so; written by a program of this session over the kit's print. Conditions: each theorem's own. -/
import Derived.Test.YtbgdpkpljkcnfaaDoorQCivilx0
import Derived.Test.YtbgdpkpljkcnfaaDoorQCivilx1
import Derived.Test.YtbgdpkpljkcnfaaDoorQCivilx3
import Derived.Test.YtbgdpkpljkcnfaaDoorQCivilx4
import Derived.Test.YtbgdpkpljkcnfaaDoorQCivilx5
import Derived.Test.YtbgdpkpljkcnfaaDoorQCivilx11
namespace Go.Proofs.YtbgdpkpljkcnfaaDoor.QCivil
open Go.RowKit Go.Proofs.YtbgdpkpljkcnfaaDoorW.PrintWords Go.Proofs.YtbgdpkpljkcnfaaDoorW.PrintLast Go.Proofs.YtbgdpkpljkcnfaaDoorW.PrintMore
attribute [local go_sem] max2_int min2_int max_two min_two max_three min_three max_four min_four   -- for this text's walks alone
set_option linter.unusedVariables false
set_option linter.unusedSimpArgs false

attribute [local go_sem high] eqA23
/-! ### hourglasslaw4_CivilBack: function 10 -/
mutual
def hourglasslaw4_CivilBack.j1 : Nat → Int → Option (Bool)
  | 0, _ => none
  | k + 1, x1 => (civil_Of.f k x1).bind fun bt361 => (if bt361.2.2.2 = 0 then ((civil_Days.f k bt361.1 bt361.2.1 bt361.2.2.1).bind fun bt366 => (if bt366.2 = 0 then (some (bt366.1 == x1)) else (some false))) else (some (bt361.1 == 0 && (bt361.2.1 == 0 && (bt361.2.2.1 == 0)))))
def hourglasslaw4_CivilBack.j0 : Nat → Int → Bool → Option (Bool)
  | 0, _, _ => none
  | k + 1, x1, x50 => if x50 = true then (some false) else (hourglasslaw4_CivilBack.j1 k x1)
end
def hourglasslaw4_CivilBack.f (k : Nat) (a0_0 : Int) (a0_1 : Int) (a0_2 : Int) (a1 : Int) : Option (Bool) := (hourglasslaw4_awake.f k).bind fun t347 => (if t347 = true then ((civil_Days.f k a0_0 a0_1 a0_2).bind fun bt348 => (if bt348.2 = 0 then ((civil_Of.f k bt348.1).bind fun bt350 => ((civil_Text.f k a0_0 a0_1 a0_2).bind fun t355 => ((civil_Parse.f k t355).bind fun bt356 => (if bt350.2.2.2 = 0 then (if bt356.2.2.2 = 0 then (if (!(bt350.1 == a0_0) || (!(bt350.2.1 == a0_1) || (!(bt350.2.2.1 == a0_2)))) = true then (hourglasslaw4_CivilBack.j0 k a1 true) else (hourglasslaw4_CivilBack.j0 k a1 (!(bt356.1 == a0_0) || (!(bt356.2.1 == a0_1) || (!(bt356.2.2.1 == a0_2)))))) else (hourglasslaw4_CivilBack.j0 k a1 true)) else (hourglasslaw4_CivilBack.j0 k a1 true))))) else (hourglasslaw4_CivilBack.j1 k a1))) else (some false))
theorem hourglasslaw4_CivilBack.mono_l : ∀ k, (∀ y0, LeO (hourglasslaw4_CivilBack.j1 k y0) (hourglasslaw4_CivilBack.j1 (k + 1) y0)) ∧ (∀ y0 y1, LeO (hourglasslaw4_CivilBack.j0 k y0 y1) (hourglasslaw4_CivilBack.j0 (k + 1) y0 y1))
  | 0 => ⟨fun _ r h => by simp [hourglasslaw4_CivilBack.j1] at h, fun _ _ r h => by simp [hourglasslaw4_CivilBack.j0] at h⟩
  | k + 1 => by
    obtain ⟨ih0, ih1⟩ := hourglasslaw4_CivilBack.mono_l k
    refine ⟨?_, ?_⟩
    · intro y0
      unfold hourglasslaw4_CivilBack.j1
      repeat' first
      | (with_reducible exact ih0 _)
      | (with_reducible exact ih1 _ _)
      | (with_reducible exact civil_Days.mono _ _ _ _)
      | (with_reducible exact civil_Of.mono _ _)
      | (with_reducible exact civil_Parse.mono _ _)
      | (with_reducible exact civil_Text.mono _ _ _ _)
      | (with_reducible exact hourglasslaw4_awake.mono _)
      | (with_reducible exact LeO.refl _)
      | (with_reducible exact LeO.none _)
      | (with_reducible refine LeO.ite ?_ ?_)
      | (with_reducible refine LeO.bind ?_ (fun _ => ?_))
      | exact ih0 _
      | exact ih1 _ _
      | exact civil_Days.mono _ _ _ _
      | exact civil_Of.mono _ _
      | exact civil_Parse.mono _ _
      | exact civil_Text.mono _ _ _ _
      | exact hourglasslaw4_awake.mono _
      | exact LeO.none _
      | refine LeO.ite ?_ ?_
      | refine LeO.bind ?_ (fun _ => ?_)
    · intro y0 y1
      unfold hourglasslaw4_CivilBack.j0
      repeat' first
      | (with_reducible exact ih0 _)
      | (with_reducible exact ih1 _ _)
      | (with_reducible exact civil_Days.mono _ _ _ _)
      | (with_reducible exact civil_Of.mono _ _)
      | (with_reducible exact civil_Parse.mono _ _)
      | (with_reducible exact civil_Text.mono _ _ _ _)
      | (with_reducible exact hourglasslaw4_awake.mono _)
      | (with_reducible exact LeO.refl _)
      | (with_reducible exact LeO.none _)
      | (with_reducible refine LeO.ite ?_ ?_)
      | (with_reducible refine LeO.bind ?_ (fun _ => ?_))
      | exact ih0 _
      | exact ih1 _ _
      | exact civil_Days.mono _ _ _ _
      | exact civil_Of.mono _ _
      | exact civil_Parse.mono _ _
      | exact civil_Text.mono _ _ _ _
      | exact hourglasslaw4_awake.mono _
      | exact LeO.none _
      | refine LeO.ite ?_ ?_
      | refine LeO.bind ?_ (fun _ => ?_)
theorem hourglasslaw4_CivilBack.mono : ∀ a0 a1 a2 a3 k, LeO (hourglasslaw4_CivilBack.f k a0 a1 a2 a3) (hourglasslaw4_CivilBack.f (k + 1) a0 a1 a2 a3) := by
  intro a0 a1 a2 a3 k
  obtain ⟨ih0, ih1⟩ := hourglasslaw4_CivilBack.mono_l k
  unfold hourglasslaw4_CivilBack.f
  repeat' first
      | (with_reducible exact ih0 _)
      | (with_reducible exact ih1 _ _)
      | (with_reducible exact civil_Days.mono _ _ _ _)
      | (with_reducible exact civil_Of.mono _ _)
      | (with_reducible exact civil_Parse.mono _ _)
      | (with_reducible exact civil_Text.mono _ _ _ _)
      | (with_reducible exact hourglasslaw4_awake.mono _)
      | (with_reducible exact LeO.refl _)
      | (with_reducible exact LeO.none _)
      | (with_reducible refine LeO.ite ?_ ?_)
      | (with_reducible refine LeO.bind ?_ (fun _ => ?_))
      | exact ih0 _
      | exact ih1 _ _
      | exact civil_Days.mono _ _ _ _
      | exact civil_Of.mono _ _
      | exact civil_Parse.mono _ _
      | exact civil_Text.mono _ _ _ _
      | exact hourglasslaw4_awake.mono _
      | exact LeO.none _
      | refine LeO.ite ?_ ?_
      | refine LeO.bind ?_ (fun _ => ?_)
set_option maxHeartbeats 8000000 in
set_option maxRecDepth 100000 in
theorem hourglasslaw4_CivilBack.calls (k : Nat) (a0_0 : Int) (a0_1 : Int) (a0_2 : Int) (a1 : Int) (r : Bool) (w : World) (h : hourglasslaw4_CivilBack.f k a0_0 a0_1 a0_2 a1 = some r) (hlaw_ : Aside0 (r = true)) :
    Calls Tryd.prog 10 #[.agg #[.int .i64 a0_0, .int .i64 a0_1, .int .i64 a0_2], .int .i64 a1] w fun e w' => e = .returned (.bool r) ∧ Below w.heap.size w w' := by
  have hu23 := Tryd.underlying23
  have HB := Aside0.mk (Below.refl w.heap.size w)
  have H : ((hourglasslaw4_awake.f k).bind fun t347 => (if t347 = true then ((civil_Days.f k a0_0 a0_1 a0_2).bind fun bt348 => (if bt348.2 = 0 then ((civil_Of.f k bt348.1).bind fun bt350 => ((civil_Text.f k a0_0 a0_1 a0_2).bind fun t355 => ((civil_Parse.f k t355).bind fun bt356 => (if bt350.2.2.2 = 0 then (if bt356.2.2.2 = 0 then (if (!(bt350.1 == a0_0) || (!(bt350.2.1 == a0_1) || (!(bt350.2.2.1 == a0_2)))) = true then (hourglasslaw4_CivilBack.j0 k a1 true) else (hourglasslaw4_CivilBack.j0 k a1 (!(bt356.1 == a0_0) || (!(bt356.2.1 == a0_1) || (!(bt356.2.2.1 == a0_2)))))) else (hourglasslaw4_CivilBack.j0 k a1 true)) else (hourglasslaw4_CivilBack.j0 k a1 true))))) else (hourglasslaw4_CivilBack.j1 k a1))) else (some false))) = some r := h
  clear h
  replace H := Option.bind_eq_some_iff.mp H
  obtain ⟨t347, A30, H⟩ := H
  replace H : (if t347 = true then ((civil_Days.f k a0_0 a0_1 a0_2).bind fun bt348 => (if bt348.2 = 0 then ((civil_Of.f k bt348.1).bind fun bt350 => ((civil_Text.f k a0_0 a0_1 a0_2).bind fun t355 => ((civil_Parse.f k t355).bind fun bt356 => (if bt350.2.2.2 = 0 then (if bt356.2.2.2 = 0 then (if (!(bt350.1 == a0_0) || (!(bt350.2.1 == a0_1) || (!(bt350.2.2.1 == a0_2)))) = true then (hourglasslaw4_CivilBack.j0 k a1 true) else (hourglasslaw4_CivilBack.j0 k a1 (!(bt356.1 == a0_0) || (!(bt356.2.1 == a0_1) || (!(bt356.2.2.1 == a0_2)))))) else (hourglasslaw4_CivilBack.j0 k a1 true)) else (hourglasslaw4_CivilBack.j0 k a1 true))))) else (hourglasslaw4_CivilBack.j1 k a1))) else (some false)) = some r := H
  have A3 := Aside0.mk A30
  clear A30
  by_cases c4 : t347 = true
  · subst c4
    have H1 : ((civil_Days.f k a0_0 a0_1 a0_2).bind fun bt348 => (if bt348.2 = 0 then ((civil_Of.f k bt348.1).bind fun bt350 => ((civil_Text.f k a0_0 a0_1 a0_2).bind fun t355 => ((civil_Parse.f k t355).bind fun bt356 => (if bt350.2.2.2 = 0 then (if bt356.2.2.2 = 0 then (if (!(bt350.1 == a0_0) || (!(bt350.2.1 == a0_1) || (!(bt350.2.2.1 == a0_2)))) = true then (hourglasslaw4_CivilBack.j0 k a1 true) else (hourglasslaw4_CivilBack.j0 k a1 (!(bt356.1 == a0_0) || (!(bt356.2.1 == a0_1) || (!(bt356.2.2.1 == a0_2)))))) else (hourglasslaw4_CivilBack.j0 k a1 true)) else (hourglasslaw4_CivilBack.j0 k a1 true))))) else (hourglasslaw4_CivilBack.j1 k a1))) = some r := by rw [if_pos rfl] at H; exact H
    clear H
    have H := H1
    clear H1
    replace H := Option.bind_eq_some_iff.mp H
    obtain ⟨⟨t348, t349⟩, A50, H⟩ := H
    replace H : (if t349 = 0 then ((civil_Of.f k t348).bind fun bt350 => ((civil_Text.f k a0_0 a0_1 a0_2).bind fun t355 => ((civil_Parse.f k t355).bind fun bt356 => (if bt350.2.2.2 = 0 then (if bt356.2.2.2 = 0 then (if (!(bt350.1 == a0_0) || (!(bt350.2.1 == a0_1) || (!(bt350.2.2.1 == a0_2)))) = true then (hourglasslaw4_CivilBack.j0 k a1 true) else (hourglasslaw4_CivilBack.j0 k a1 (!(bt356.1 == a0_0) || (!(bt356.2.1 == a0_1) || (!(bt356.2.2.1 == a0_2)))))) else (hourglasslaw4_CivilBack.j0 k a1 true)) else (hourglasslaw4_CivilBack.j0 k a1 true))))) else (hourglasslaw4_CivilBack.j1 k a1)) = some r := H
    have A5 := Aside0.mk A50
    clear A50
    have HC6 := Aside0.mk H
    clear H
    go_enter Tryd.func10, Tryd.ntmps10
    go_upto_if 23 with (first | ((with_reducible refine gate_dst (N := 2) rfl ?_); refine box_event ?hg (N := 2) ?hd (cs := #[.int .i64 a0_0, .int .i64 a0_1, .int .i64 a0_2]) (t := 23) ?hr ?_; (case hd => rfl); (case hg => rfl); (case hr => first | (go_simp; done) | (go_simp; rfl)); intro gb346 hg w7 hbox hb; have n0_ := Aside0.mk (below_step (by repeat (first | (with_reducible first | exact HB.out | apply below_alloc | apply pw_below_drewN | apply below_drew1) | exact HB.out)) hb); have n1_ := Aside0.mk (hbox); have n2_ := Aside0.mk ((by rw [hg]; exact (below_size (by repeat (first | (with_reducible first | exact HB.out | apply below_alloc | apply pw_below_drewN | apply below_drew1) | exact HB.out))) : w.heap.size ≤ gb346)); have n3_ := Aside0.mk ((by rw [hg]; exact (below_size (by repeat (first | (with_reducible first | exact HB.out | apply below_alloc | apply pw_below_drewN | apply below_drew1) | exact HB.out))) : w.heap.size ≤ gb346)); clear HB; have HB := n0_; have BK346 := n1_; have GW346 := n2_; have GE346 := n3_; clear n0_ n1_ n2_ n3_; clear hb hbox hg) | ((with_reducible refine gate_callee (f := 11) rfl ?_); refine goesL_ (some 15) rfl rfl Tryd.func11 (by kernel_rfl) rfl #[] rfl (by (try simp only [List.map_toArray, List.map_cons, List.map_nil]); first | done | rfl | (simp only [List.length_drop, List.length_take]; rfl)) ?_; (with_reducible refine (hourglasslaw4_awake.calls k  true _ A3.out).mono ?_); rintro e w8 ⟨rfl, hb⟩; refine ⟨_, rfl, ?_⟩; have n0_ := Aside0.mk (blk_below (g := gb346) (o := .cells #[.int .i64 a0_0, .int .i64 a0_1, .int .i64 a0_2] 23 (0, 0)) (by (with_reducible repeat (first | refine blk_drewN ?_ _ | refine blk_drew ?_ | refine blk_alloc ?_ _)); exact BK346.out) hb); have n1_ := Aside0.mk (below_step (by repeat (first | (with_reducible first | exact HB.out | apply below_alloc | apply pw_below_drewN | apply below_drew1 | refine below_set ?_ GE346.out) | exact HB.out)) hb); clear BK346; clear HB; have BK346 := n0_; have HB := n1_; clear n0_ n1_; (try clear hb); (try clear hb2); (try clear hk); (try clear hi); have hcz9_0 : w8.cell? ⟨gb346, 0, none⟩ = some (.int .i64 a0_0) := (blk_cell BK346.out 0).trans rfl; have hcz9_1 : w8.cell? ⟨gb346, 1, none⟩ = some (.int .i64 a0_1) := (blk_cell BK346.out 1).trans rfl; have hcz9_2 : w8.cell? ⟨gb346, 2, none⟩ = some (.int .i64 a0_2) := (blk_cell BK346.out 2).trans rfl; have hfz9_0 := blk_frozen BK346.out 0; have hfz9_1 := blk_frozen BK346.out 1; have hfz9_2 := blk_frozen BK346.out 2) | ((with_reducible refine gate_callee (f := 12) rfl ?_); refine goesL_ (some 19) rfl rfl Tryd.func12 (by kernel_rfl) rfl #[.agg #[.int .i64 a0_0, .int .i64 a0_1, .int .i64 a0_2]] rfl (by (try simp only [List.map_toArray, List.map_cons, List.map_nil]); first | done | rfl | (simp only [List.length_drop, List.length_take]; rfl)) ?_; (with_reducible refine (civil_Days.calls k a0_0 a0_1 a0_2 t348 t349 _ A5.out).mono ?_); rintro e w10 ⟨rfl, hb⟩; refine ⟨_, rfl, ?_⟩; have n0_ := Aside0.mk (blk_below (g := gb346) (o := .cells #[.int .i64 a0_0, .int .i64 a0_1, .int .i64 a0_2] 23 (0, 0)) (by (with_reducible repeat (first | refine blk_drewN ?_ _ | refine blk_drew ?_ | refine blk_alloc ?_ _)); exact BK346.out) hb); have n1_ := Aside0.mk (below_step (by repeat (first | (with_reducible first | exact HB.out | apply below_alloc | apply pw_below_drewN | apply below_drew1 | refine below_set ?_ GE346.out) | exact HB.out)) hb); clear BK346; clear HB; have BK346 := n0_; have HB := n1_; clear n0_ n1_; (try clear hb); (try clear hb2); (try clear hk); (try clear hi)))
    (try simp only [Act.put, List.setIfInBounds_toArray, List.set_cons_zero, List.set_cons_succ])
    go_cut [] (fun wc => ∃ (kq : Nat), Aside0 (hourglasslaw4_CivilBack.j1 kq a1 = some r) ∧ Aside0 (kq ≤ k) ∧ Aside0 (wc.heap[gb346]? = some (.cells #[.int .i64 a0_0, .int .i64 a0_1, .int .i64 a0_2] 23 (0, 0))) ∧ Aside0 (Below w.heap.size w wc))
    case first =>
      have H := HC6.out
      clear HC6
      by_cases c11 : t349 = 0
      · rw [if_pos c11] at H
        have c11b0 : (t349 == 0) = true := beq_iff_eq.mpr c11
        have c11b1 : (t349 != 0) = false := bne_eq_false_iff_eq.mpr c11
        clear c11
        (first | rw [c11b0] | (simp only [i64_w, i32_w]; rw [c11b0]) | skip)
        replace H := Option.bind_eq_some_iff.mp H
        obtain ⟨⟨t350, t351, t352, t353⟩, A120, H⟩ := H
        replace H : ((civil_Text.f k a0_0 a0_1 a0_2).bind fun t355 => ((civil_Parse.f k t355).bind fun bt356 => (if t353 = 0 then (if bt356.2.2.2 = 0 then (if (!(t350 == a0_0) || (!(t351 == a0_1) || (!(t352 == a0_2)))) = true then (hourglasslaw4_CivilBack.j0 k a1 true) else (hourglasslaw4_CivilBack.j0 k a1 (!(bt356.1 == a0_0) || (!(bt356.2.1 == a0_1) || (!(bt356.2.2.1 == a0_2)))))) else (hourglasslaw4_CivilBack.j0 k a1 true)) else (hourglasslaw4_CivilBack.j0 k a1 true)))) = some r := H
        have A12 := Aside0.mk A120
        clear A120
        replace H := Option.bind_eq_some_iff.mp H
        obtain ⟨t355, A130, H⟩ := H
        replace H : ((civil_Parse.f k t355).bind fun bt356 => (if t353 = 0 then (if bt356.2.2.2 = 0 then (if (!(t350 == a0_0) || (!(t351 == a0_1) || (!(t352 == a0_2)))) = true then (hourglasslaw4_CivilBack.j0 k a1 true) else (hourglasslaw4_CivilBack.j0 k a1 (!(bt356.1 == a0_0) || (!(bt356.2.1 == a0_1) || (!(bt356.2.2.1 == a0_2)))))) else (hourglasslaw4_CivilBack.j0 k a1 true)) else (hourglasslaw4_CivilBack.j0 k a1 true))) = some r := H
        have A13 := Aside0.mk A130
        clear A130
        replace H := Option.bind_eq_some_iff.mp H
        obtain ⟨⟨t356, t357, t358, t359⟩, A140, H⟩ := H
        replace H : (if t353 = 0 then (if t359 = 0 then (if (!(t350 == a0_0) || (!(t351 == a0_1) || (!(t352 == a0_2)))) = true then (hourglasslaw4_CivilBack.j0 k a1 true) else (hourglasslaw4_CivilBack.j0 k a1 (!(t356 == a0_0) || (!(t357 == a0_1) || (!(t358 == a0_2)))))) else (hourglasslaw4_CivilBack.j0 k a1 true)) else (hourglasslaw4_CivilBack.j0 k a1 true)) = some r := H
        have A14 := Aside0.mk A140
        clear A140
        have HC15 := Aside0.mk H
        clear H
        go_upto_region 7 with (first | ((with_reducible refine gate_callee (f := 15) rfl ?_); refine goesL_ (some 26) rfl rfl Tryd.func15 (by kernel_rfl) rfl #[.int .i64 t348] rfl (by (try simp only [List.map_toArray, List.map_cons, List.map_nil]); first | done | rfl | (simp only [List.length_drop, List.length_take]; rfl)) ?_; (with_reducible refine (civil_Of.calls k t348 t350 t351 t352 t353 _ A12.out).mono ?_); rintro e w16 ⟨rfl, hb⟩; refine ⟨_, rfl, ?_⟩; have n0_ := Aside0.mk (blk_below (g := gb346) (o := .cells #[.int .i64 a0_0, .int .i64 a0_1, .int .i64 a0_2] 23 (0, 0)) (by (with_reducible repeat (first | refine blk_drewN ?_ _ | refine blk_drew ?_ | refine blk_alloc ?_ _)); exact BK346.out) hb); have n1_ := Aside0.mk (below_step (by repeat (first | (with_reducible first | exact HB.out | apply below_alloc | apply pw_below_drewN | apply below_drew1 | refine below_set ?_ GE346.out) | exact HB.out)) hb); clear BK346; clear HB; have BK346 := n0_; have HB := n1_; clear n0_ n1_; (try clear hb); (try clear hb2); (try clear hk); (try clear hi)) | ((with_reducible refine gate_dst (N := 7) rfl ?_); refine box_event ?hg (N := 7) ?hd (cs := #[.int .i64 0, .int .i64 0, .int .i64 0]) (t := 23) ?hr ?_; (case hd => rfl); (case hg => rfl); (case hr => first | (go_simp; done) | (go_simp; rfl)); intro gb354 hg w17 hbox hb; have n0_ := Aside0.mk (blk_below (g := gb346) (o := .cells #[.int .i64 a0_0, .int .i64 a0_1, .int .i64 a0_2] 23 (0, 0)) (by (with_reducible repeat (first | refine blk_drewN ?_ _ | refine blk_drew ?_ | refine blk_alloc ?_ _)); exact BK346.out) hb); have n1_ := Aside0.mk (below_step (by repeat (first | (with_reducible first | exact HB.out | apply below_alloc | apply pw_below_drewN | apply below_drew1 | refine below_set ?_ GE346.out) | exact HB.out)) hb); have n2_ := Aside0.mk (hbox); have n3_ := Aside0.mk ((by rw [hg]; exact (below_size (by repeat (first | (with_reducible first | exact HB.out | apply below_alloc | apply pw_below_drewN | apply below_drew1 | refine below_set ?_ GE346.out) | exact HB.out))) : w.heap.size ≤ gb354)); have n4_ := Aside0.mk ((by rw [hg]; exact (below_size (by repeat (first | (with_reducible first | exact HB.out | apply below_alloc | apply pw_below_drewN | apply below_drew1 | refine below_set ?_ GE346.out) | exact HB.out))) : w.heap.size ≤ gb354)); have n5_ := Aside0.mk ((by rw [hg]; exact Nat.ne_of_lt (blk_lt (g := gb346) (o := .cells #[.int .i64 a0_0, .int .i64 a0_1, .int .i64 a0_2] 23 (0, 0)) (by (with_reducible repeat (first | refine blk_drewN ?_ _ | refine blk_drew ?_ | refine blk_alloc ?_ _)); exact BK346.out)) : gb346 ≠ gb354)); have n6_ := Aside0.mk ((by rw [hg]; exact Nat.ne_of_gt (blk_lt (g := gb346) (o := .cells #[.int .i64 a0_0, .int .i64 a0_1, .int .i64 a0_2] 23 (0, 0)) (by (with_reducible repeat (first | refine blk_drewN ?_ _ | refine blk_drew ?_ | refine blk_alloc ?_ _)); exact BK346.out)) : gb354 ≠ gb346)); clear BK346; clear HB; have BK346 := n0_; have HB := n1_; have BK354 := n2_; have GW354 := n3_; have GE354 := n4_; have NB346_354 := n5_; have NB354_346 := n6_; clear n0_ n1_ n2_ n3_ n4_ n5_ n6_; clear hb hbox hg; have hnb18 := NB354_346.out; have hnc18 := NB346_354.out; have hcz19_0 : w17.cell? ⟨gb354, 0, none⟩ = some (.int .i64 0) := (blk_cell BK354.out 0).trans rfl; have hcz19_1 : w17.cell? ⟨gb354, 1, none⟩ = some (.int .i64 0) := (blk_cell BK354.out 1).trans rfl; have hcz19_2 : w17.cell? ⟨gb354, 2, none⟩ = some (.int .i64 0) := (blk_cell BK354.out 2).trans rfl; have hfz19_0 := blk_frozen BK354.out 0; have hfz19_1 := blk_frozen BK354.out 1; have hfz19_2 := blk_frozen BK354.out 2; have hcz20_0 : w17.cell? ⟨gb346, 0, none⟩ = some (.int .i64 a0_0) := (blk_cell BK346.out 0).trans rfl; have hcz20_1 : w17.cell? ⟨gb346, 1, none⟩ = some (.int .i64 a0_1) := (blk_cell BK346.out 1).trans rfl; have hcz20_2 : w17.cell? ⟨gb346, 2, none⟩ = some (.int .i64 a0_2) := (blk_cell BK346.out 2).trans rfl; have hfz20_0 := blk_frozen BK346.out 0; have hfz20_1 := blk_frozen BK346.out 1; have hfz20_2 := blk_frozen BK346.out 2) | ((with_reducible refine gate_callee (f := 23) rfl ?_); refine goesL_ (some 31) rfl rfl Tryd.func23 (by kernel_rfl) rfl #[.agg #[.int .i64 a0_0, .int .i64 a0_1, .int .i64 a0_2]] rfl (by (try simp only [List.map_toArray, List.map_cons, List.map_nil]); first | done | rfl | (simp only [List.length_drop, List.length_take]; rfl)) ?_; (with_reducible refine (civil_Text.calls k a0_0 a0_1 a0_2 t355 _ A13.out).mono ?_); rintro e w21 ⟨rfl, hb⟩; refine ⟨_, rfl, ?_⟩; have n0_ := Aside0.mk (blk_below (g := gb346) (o := .cells #[.int .i64 a0_0, .int .i64 a0_1, .int .i64 a0_2] 23 (0, 0)) (by (with_reducible repeat (first | refine blk_drewN ?_ _ | refine blk_drew ?_ | refine blk_alloc ?_ _)); refine blk_far ?_ NB346_354.out _; (with_reducible repeat (first | refine blk_drewN ?_ _ | refine blk_drew ?_ | refine blk_alloc ?_ _)); refine blk_far ?_ NB346_354.out _; (with_reducible repeat (first | refine blk_drewN ?_ _ | refine blk_drew ?_ | refine blk_alloc ?_ _)); refine blk_far ?_ NB346_354.out _; (with_reducible repeat (first | refine blk_drewN ?_ _ | refine blk_drew ?_ | refine blk_alloc ?_ _)); exact BK346.out) hb); have n1_ := Aside0.mk (blk_below (g := gb354) (o := .cells #[.int .i64 t350, .int .i64 t351, .int .i64 t352] 23 (0, 0)) (by (with_reducible repeat (first | refine blk_drewN ?_ _ | refine blk_drew ?_ | refine blk_alloc ?_ _)); refine blk_put (cs := #[.int .i64 t350, .int .i64 t351, .int .i64 0]) ?_ 2 _ rfl; (with_reducible repeat (first | refine blk_drewN ?_ _ | refine blk_drew ?_ | refine blk_alloc ?_ _)); refine blk_put (cs := #[.int .i64 t350, .int .i64 0, .int .i64 0]) ?_ 1 _ rfl; (with_reducible repeat (first | refine blk_drewN ?_ _ | refine blk_drew ?_ | refine blk_alloc ?_ _)); refine blk_put (cs := #[.int .i64 0, .int .i64 0, .int .i64 0]) ?_ 0 _ rfl; (with_reducible repeat (first | refine blk_drewN ?_ _ | refine blk_drew ?_ | refine blk_alloc ?_ _)); exact BK354.out) hb); have n2_ := Aside0.mk (below_step (by repeat (first | (with_reducible first | exact HB.out | apply below_alloc | apply pw_below_drewN | apply below_drew1 | refine below_set ?_ GE346.out | refine below_set ?_ GE354.out) | exact HB.out)) hb); clear BK346; clear BK354; clear HB; have BK346 := n0_; have BK354 := n1_; have HB := n2_; clear n0_ n1_ n2_; (try clear hb); (try clear hb2); (try clear hk); (try clear hi)) | ((with_reducible refine gate_callee (f := 25) rfl ?_); refine goesL_ (some 32) rfl rfl Tryd.func25 (by kernel_rfl) rfl #[.string t355] rfl (by (try simp only [List.map_toArray, List.map_cons, List.map_nil]); first | done | rfl | (simp only [List.length_drop, List.length_take]; rfl)) ?_; (with_reducible refine (civil_Parse.calls k t355 t356 t357 t358 t359 _ A14.out).mono ?_); rintro e w22 ⟨rfl, hb⟩; refine ⟨_, rfl, ?_⟩; have n0_ := Aside0.mk (blk_below (g := gb346) (o := .cells #[.int .i64 a0_0, .int .i64 a0_1, .int .i64 a0_2] 23 (0, 0)) (by (with_reducible repeat (first | refine blk_drewN ?_ _ | refine blk_drew ?_ | refine blk_alloc ?_ _)); exact BK346.out) hb); have n1_ := Aside0.mk (blk_below (g := gb354) (o := .cells #[.int .i64 t350, .int .i64 t351, .int .i64 t352] 23 (0, 0)) (by (with_reducible repeat (first | refine blk_drewN ?_ _ | refine blk_drew ?_ | refine blk_alloc ?_ _)); exact BK354.out) hb); have n2_ := Aside0.mk (below_step (by repeat (first | (with_reducible first | exact HB.out | apply below_alloc | apply pw_below_drewN | apply below_drew1 | refine below_set ?_ GE346.out | refine below_set ?_ GE354.out) | exact HB.out)) hb); clear BK346; clear BK354; clear HB; have BK346 := n0_; have BK354 := n1_; have HB := n2_; clear n0_ n1_ n2_; (try clear hb); (try clear hb2); (try clear hk); (try clear hi)) | ((with_reducible refine gate_dst (N := 9) rfl ?_); refine box_event ?hg (N := 9) ?hd (cs := #[.int .i64 0, .int .i64 0, .int .i64 0]) (t := 23) ?hr ?_; (case hd => rfl); (case hg => rfl); (case hr => first | (go_simp; done) | (go_simp; rfl)); intro gb360 hg w23 hbox hb; have n0_ := Aside0.mk (blk_below (g := gb346) (o := .cells #[.int .i64 a0_0, .int .i64 a0_1, .int .i64 a0_2] 23 (0, 0)) (by (with_reducible repeat (first | refine blk_drewN ?_ _ | refine blk_drew ?_ | refine blk_alloc ?_ _)); exact BK346.out) hb); have n1_ := Aside0.mk (blk_below (g := gb354) (o := .cells #[.int .i64 t350, .int .i64 t351, .int .i64 t352] 23 (0, 0)) (by (with_reducible repeat (first | refine blk_drewN ?_ _ | refine blk_drew ?_ | refine blk_alloc ?_ _)); exact BK354.out) hb); have n2_ := Aside0.mk (below_step (by repeat (first | (with_reducible first | exact HB.out | apply below_alloc | apply pw_below_drewN | apply below_drew1 | refine below_set ?_ GE346.out | refine below_set ?_ GE354.out) | exact HB.out)) hb); have n3_ := Aside0.mk (hbox); have n4_ := Aside0.mk ((by rw [hg]; exact (below_size (by repeat (first | (with_reducible first | exact HB.out | apply below_alloc | apply pw_below_drewN | apply below_drew1 | refine below_set ?_ GE346.out | refine below_set ?_ GE354.out) | exact HB.out))) : w.heap.size ≤ gb360)); have n5_ := Aside0.mk ((by rw [hg]; exact (below_size (by repeat (first | (with_reducible first | exact HB.out | apply below_alloc | apply pw_below_drewN | apply below_drew1 | refine below_set ?_ GE346.out | refine below_set ?_ GE354.out) | exact HB.out))) : w.heap.size ≤ gb360)); have n6_ := Aside0.mk ((by rw [hg]; exact Nat.ne_of_lt (blk_lt (g := gb346) (o := .cells #[.int .i64 a0_0, .int .i64 a0_1, .int .i64 a0_2] 23 (0, 0)) (by (with_reducible repeat (first | refine blk_drewN ?_ _ | refine blk_drew ?_ | refine blk_alloc ?_ _)); exact BK346.out)) : gb346 ≠ gb360)); have n7_ := Aside0.mk ((by rw [hg]; exact Nat.ne_of_gt (blk_lt (g := gb346) (o := .cells #[.int .i64 a0_0, .int .i64 a0_1, .int .i64 a0_2] 23 (0, 0)) (by (with_reducible repeat (first | refine blk_drewN ?_ _ | refine blk_drew ?_ | refine blk_alloc ?_ _)); exact BK346.out)) : gb360 ≠ gb346)); have n8_ := Aside0.mk ((by rw [hg]; exact Nat.ne_of_lt (blk_lt (g := gb354) (o := .cells #[.int .i64 t350, .int .i64 t351, .int .i64 t352] 23 (0, 0)) (by (with_reducible repeat (first | refine blk_drewN ?_ _ | refine blk_drew ?_ | refine blk_alloc ?_ _)); exact BK354.out)) : gb354 ≠ gb360)); have n9_ := Aside0.mk ((by rw [hg]; exact Nat.ne_of_gt (blk_lt (g := gb354) (o := .cells #[.int .i64 t350, .int .i64 t351, .int .i64 t352] 23 (0, 0)) (by (with_reducible repeat (first | refine blk_drewN ?_ _ | refine blk_drew ?_ | refine blk_alloc ?_ _)); exact BK354.out)) : gb360 ≠ gb354)); clear BK346; clear BK354; clear HB; have BK346 := n0_; have BK354 := n1_; have HB := n2_; have BK360 := n3_; have GW360 := n4_; have GE360 := n5_; have NB346_360 := n6_; have NB360_346 := n7_; have NB354_360 := n8_; have NB360_354 := n9_; clear n0_ n1_ n2_ n3_ n4_ n5_ n6_ n7_ n8_ n9_; clear hb hbox hg; have hnb24 := NB360_346.out; have hnc24 := NB346_360.out; have hnb25 := NB360_354.out; have hnc25 := NB354_360.out; have hcz26_0 : w23.cell? ⟨gb360, 0, none⟩ = some (.int .i64 0) := (blk_cell BK360.out 0).trans rfl; have hcz26_1 : w23.cell? ⟨gb360, 1, none⟩ = some (.int .i64 0) := (blk_cell BK360.out 1).trans rfl; have hcz26_2 : w23.cell? ⟨gb360, 2, none⟩ = some (.int .i64 0) := (blk_cell BK360.out 2).trans rfl; have hfz26_0 := blk_frozen BK360.out 0; have hfz26_1 := blk_frozen BK360.out 1; have hfz26_2 := blk_frozen BK360.out 2))
        (try simp only [Act.put, List.setIfInBounds_toArray, List.set_cons_zero, List.set_cons_succ])
        go_cut [50] (fun v50 wc => ∃ (kq : Nat) (x50_14 : Bool), v50 = .bool x50_14 ∧ Aside0 (hourglasslaw4_CivilBack.j0 kq a1 x50_14 = some r) ∧ Aside0 (kq ≤ k) ∧ Aside0 (wc.heap[gb346]? = some (.cells #[.int .i64 a0_0, .int .i64 a0_1, .int .i64 a0_2] 23 (0, 0))) ∧ Aside0 (wc.heap[gb354]? = some (.cells #[.int .i64 t350, .int .i64 t351, .int .i64 t352] 23 (0, 0))) ∧ Aside0 (wc.heap[gb360]? = some (.cells #[.int .i64 t356, .int .i64 t357, .int .i64 t358] 23 (0, 0))) ∧ Aside0 (Below w.heap.size w wc))
        case first =>
          have H := HC15.out
          clear HC15
          by_cases c27 : t353 = 0
          · rw [if_pos c27] at H
            have c27b0 : (t353 == 0) = true := beq_iff_eq.mpr c27
            have c27b1 : (t353 != 0) = false := bne_eq_false_iff_eq.mpr c27
            clear c27
            (first | rw [c27b0] | (simp only [i64_w, i32_w]; rw [c27b0]) | skip)
            by_cases c28 : t359 = 0
            · rw [if_pos c28] at H
              have c28b0 : (t359 == 0) = true := beq_iff_eq.mpr c28
              have c28b1 : (t359 != 0) = false := bne_eq_false_iff_eq.mpr c28
              clear c28
              by_cases c29 : (!(t350 == a0_0) || (!(t351 == a0_1) || (!(t352 == a0_2)))) = true
              · rw [if_pos c29] at H
                have c29b0 : (!(t350 == a0_0) || (!(t351 == a0_1) || (!(t352 == a0_2)))) = true := c29
                clear c29
                have H' := Aside0.mk H
                clear H
                have hnb30 := NB354_346.out
                have hnc30 := NB346_354.out
                have hnb31 := NB354_360.out
                have hnc31 := NB360_354.out
                have hcz32_0 : w23.cell? ⟨gb354, 0, none⟩ = some (.int .i64 t350) := (blk_cell BK354.out 0).trans rfl
                have hcz32_1 : w23.cell? ⟨gb354, 1, none⟩ = some (.int .i64 t351) := (blk_cell BK354.out 1).trans rfl
                have hcz32_2 : w23.cell? ⟨gb354, 2, none⟩ = some (.int .i64 t352) := (blk_cell BK354.out 2).trans rfl
                have hfz32_0 := blk_frozen BK354.out 0
                have hfz32_1 := blk_frozen BK354.out 1
                have hfz32_2 := blk_frozen BK354.out 2
                have hnb33 := NB346_360.out
                have hnc33 := NB360_346.out
                have hcz34_0 : w23.cell? ⟨gb346, 0, none⟩ = some (.int .i64 a0_0) := (blk_cell BK346.out 0).trans rfl
                have hcz34_1 : w23.cell? ⟨gb346, 1, none⟩ = some (.int .i64 a0_1) := (blk_cell BK346.out 1).trans rfl
                have hcz34_2 : w23.cell? ⟨gb346, 2, none⟩ = some (.int .i64 a0_2) := (blk_cell BK346.out 2).trans rfl
                have hfz34_0 := blk_frozen BK346.out 0
                have hfz34_1 := blk_frozen BK346.out 1
                have hfz34_2 := blk_frozen BK346.out 2
                go_wp2
                go_meet
                case rel => exact ⟨_, (true), (by first | rfl | (simp; done) | (simp [*]; done)), H', ⟨by first | omega | exact Nat.le_refl _⟩, ⟨by (with_reducible repeat (first | refine blk_drewN ?_ _ | refine blk_drew ?_ | refine blk_alloc ?_ _)); refine blk_far ?_ NB346_360.out _; (with_reducible repeat (first | refine blk_drewN ?_ _ | refine blk_drew ?_ | refine blk_alloc ?_ _)); refine blk_far ?_ NB346_360.out _; (with_reducible repeat (first | refine blk_drewN ?_ _ | refine blk_drew ?_ | refine blk_alloc ?_ _)); refine blk_far ?_ NB346_360.out _; (with_reducible repeat (first | refine blk_drewN ?_ _ | refine blk_drew ?_ | refine blk_alloc ?_ _)); exact BK346.out⟩, ⟨by (with_reducible repeat (first | refine blk_drewN ?_ _ | refine blk_drew ?_ | refine blk_alloc ?_ _)); refine blk_far ?_ NB354_360.out _; (with_reducible repeat (first | refine blk_drewN ?_ _ | refine blk_drew ?_ | refine blk_alloc ?_ _)); refine blk_far ?_ NB354_360.out _; (with_reducible repeat (first | refine blk_drewN ?_ _ | refine blk_drew ?_ | refine blk_alloc ?_ _)); refine blk_far ?_ NB354_360.out _; (with_reducible repeat (first | refine blk_drewN ?_ _ | refine blk_drew ?_ | refine blk_alloc ?_ _)); exact BK354.out⟩, ⟨by (with_reducible repeat (first | refine blk_drewN ?_ _ | refine blk_drew ?_ | refine blk_alloc ?_ _)); refine blk_put (cs := #[.int .i64 t356, .int .i64 t357, .int .i64 0]) ?_ 2 _ rfl; (with_reducible repeat (first | refine blk_drewN ?_ _ | refine blk_drew ?_ | refine blk_alloc ?_ _)); refine blk_put (cs := #[.int .i64 t356, .int .i64 0, .int .i64 0]) ?_ 1 _ rfl; (with_reducible repeat (first | refine blk_drewN ?_ _ | refine blk_drew ?_ | refine blk_alloc ?_ _)); refine blk_put (cs := #[.int .i64 0, .int .i64 0, .int .i64 0]) ?_ 0 _ rfl; (with_reducible repeat (first | refine blk_drewN ?_ _ | refine blk_drew ?_ | refine blk_alloc ?_ _)); exact BK360.out⟩, ⟨by repeat (first | (with_reducible first | exact HB.out | apply below_alloc | apply pw_below_drewN | apply below_drew1 | refine below_set ?_ GE346.out | refine below_set ?_ GE354.out | refine below_set ?_ GE360.out) | exact HB.out)⟩⟩
              · rw [if_neg c29] at H
                have c29b0 : (!(t350 == a0_0) || (!(t351 == a0_1) || (!(t352 == a0_2)))) = false := by simpa using c29
                clear c29
                have H' := Aside0.mk H
                clear H
                have hnb35 := NB354_346.out
                have hnc35 := NB346_354.out
                have hnb36 := NB354_360.out
                have hnc36 := NB360_354.out
                have hcz37_0 : w23.cell? ⟨gb354, 0, none⟩ = some (.int .i64 t350) := (blk_cell BK354.out 0).trans rfl
                have hcz37_1 : w23.cell? ⟨gb354, 1, none⟩ = some (.int .i64 t351) := (blk_cell BK354.out 1).trans rfl
                have hcz37_2 : w23.cell? ⟨gb354, 2, none⟩ = some (.int .i64 t352) := (blk_cell BK354.out 2).trans rfl
                have hfz37_0 := blk_frozen BK354.out 0
                have hfz37_1 := blk_frozen BK354.out 1
                have hfz37_2 := blk_frozen BK354.out 2
                have hnb38 := NB346_360.out
                have hnc38 := NB360_346.out
                have hcz39_0 : w23.cell? ⟨gb346, 0, none⟩ = some (.int .i64 a0_0) := (blk_cell BK346.out 0).trans rfl
                have hcz39_1 : w23.cell? ⟨gb346, 1, none⟩ = some (.int .i64 a0_1) := (blk_cell BK346.out 1).trans rfl
                have hcz39_2 : w23.cell? ⟨gb346, 2, none⟩ = some (.int .i64 a0_2) := (blk_cell BK346.out 2).trans rfl
                have hfz39_0 := blk_frozen BK346.out 0
                have hfz39_1 := blk_frozen BK346.out 1
                have hfz39_2 := blk_frozen BK346.out 2
                have hcz40_0 : w23.cell? ⟨gb360, 0, none⟩ = some (.int .i64 0) := (blk_cell BK360.out 0).trans rfl
                have hcz40_1 : w23.cell? ⟨gb360, 1, none⟩ = some (.int .i64 0) := (blk_cell BK360.out 1).trans rfl
                have hcz40_2 : w23.cell? ⟨gb360, 2, none⟩ = some (.int .i64 0) := (blk_cell BK360.out 2).trans rfl
                have hfz40_0 := blk_frozen BK360.out 0
                have hfz40_1 := blk_frozen BK360.out 1
                have hfz40_2 := blk_frozen BK360.out 2
                go_wp2
                go_meet
                case rel => exact ⟨_, ((!(t356 == a0_0) || (!(t357 == a0_1) || (!(t358 == a0_2))))), (by first | rfl | (simp; done) | (simp [*]; done)), H', ⟨by first | omega | exact Nat.le_refl _⟩, ⟨by (with_reducible repeat (first | refine blk_drewN ?_ _ | refine blk_drew ?_ | refine blk_alloc ?_ _)); refine blk_far ?_ NB346_360.out _; (with_reducible repeat (first | refine blk_drewN ?_ _ | refine blk_drew ?_ | refine blk_alloc ?_ _)); refine blk_far ?_ NB346_360.out _; (with_reducible repeat (first | refine blk_drewN ?_ _ | refine blk_drew ?_ | refine blk_alloc ?_ _)); refine blk_far ?_ NB346_360.out _; (with_reducible repeat (first | refine blk_drewN ?_ _ | refine blk_drew ?_ | refine blk_alloc ?_ _)); exact BK346.out⟩, ⟨by (with_reducible repeat (first | refine blk_drewN ?_ _ | refine blk_drew ?_ | refine blk_alloc ?_ _)); refine blk_far ?_ NB354_360.out _; (with_reducible repeat (first | refine blk_drewN ?_ _ | refine blk_drew ?_ | refine blk_alloc ?_ _)); refine blk_far ?_ NB354_360.out _; (with_reducible repeat (first | refine blk_drewN ?_ _ | refine blk_drew ?_ | refine blk_alloc ?_ _)); refine blk_far ?_ NB354_360.out _; (with_reducible repeat (first | refine blk_drewN ?_ _ | refine blk_drew ?_ | refine blk_alloc ?_ _)); exact BK354.out⟩, ⟨by (with_reducible repeat (first | refine blk_drewN ?_ _ | refine blk_drew ?_ | refine blk_alloc ?_ _)); refine blk_put (cs := #[.int .i64 t356, .int .i64 t357, .int .i64 0]) ?_ 2 _ rfl; (with_reducible repeat (first | refine blk_drewN ?_ _ | refine blk_drew ?_ | refine blk_alloc ?_ _)); refine blk_put (cs := #[.int .i64 t356, .int .i64 0, .int .i64 0]) ?_ 1 _ rfl; (with_reducible repeat (first | refine blk_drewN ?_ _ | refine blk_drew ?_ | refine blk_alloc ?_ _)); refine blk_put (cs := #[.int .i64 0, .int .i64 0, .int .i64 0]) ?_ 0 _ rfl; (with_reducible repeat (first | refine blk_drewN ?_ _ | refine blk_drew ?_ | refine blk_alloc ?_ _)); exact BK360.out⟩, ⟨by repeat (first | (with_reducible first | exact HB.out | apply below_alloc | apply pw_below_drewN | apply below_drew1 | refine below_set ?_ GE346.out | refine below_set ?_ GE354.out | refine below_set ?_ GE360.out) | exact HB.out)⟩⟩
            · rw [if_neg c28] at H
              have c28b0 : (t359 == 0) = false := beq_eq_false_iff_ne.mpr c28
              have c28b1 : (t359 != 0) = true := bne_iff_ne.mpr c28
              have H' := Aside0.mk H
              clear H
              go_wp2
              go_meet
              case rel => exact ⟨_, (true), (by first | rfl | (simp; done) | (simp [*]; done)), H', ⟨by first | omega | exact Nat.le_refl _⟩, ⟨by (with_reducible repeat (first | refine blk_drewN ?_ _ | refine blk_drew ?_ | refine blk_alloc ?_ _)); refine blk_far ?_ NB346_360.out _; (with_reducible repeat (first | refine blk_drewN ?_ _ | refine blk_drew ?_ | refine blk_alloc ?_ _)); refine blk_far ?_ NB346_360.out _; (with_reducible repeat (first | refine blk_drewN ?_ _ | refine blk_drew ?_ | refine blk_alloc ?_ _)); refine blk_far ?_ NB346_360.out _; (with_reducible repeat (first | refine blk_drewN ?_ _ | refine blk_drew ?_ | refine blk_alloc ?_ _)); exact BK346.out⟩, ⟨by (with_reducible repeat (first | refine blk_drewN ?_ _ | refine blk_drew ?_ | refine blk_alloc ?_ _)); refine blk_far ?_ NB354_360.out _; (with_reducible repeat (first | refine blk_drewN ?_ _ | refine blk_drew ?_ | refine blk_alloc ?_ _)); refine blk_far ?_ NB354_360.out _; (with_reducible repeat (first | refine blk_drewN ?_ _ | refine blk_drew ?_ | refine blk_alloc ?_ _)); refine blk_far ?_ NB354_360.out _; (with_reducible repeat (first | refine blk_drewN ?_ _ | refine blk_drew ?_ | refine blk_alloc ?_ _)); exact BK354.out⟩, ⟨by (with_reducible repeat (first | refine blk_drewN ?_ _ | refine blk_drew ?_ | refine blk_alloc ?_ _)); refine blk_put (cs := #[.int .i64 t356, .int .i64 t357, .int .i64 0]) ?_ 2 _ rfl; (with_reducible repeat (first | refine blk_drewN ?_ _ | refine blk_drew ?_ | refine blk_alloc ?_ _)); refine blk_put (cs := #[.int .i64 t356, .int .i64 0, .int .i64 0]) ?_ 1 _ rfl; (with_reducible repeat (first | refine blk_drewN ?_ _ | refine blk_drew ?_ | refine blk_alloc ?_ _)); refine blk_put (cs := #[.int .i64 0, .int .i64 0, .int .i64 0]) ?_ 0 _ rfl; (with_reducible repeat (first | refine blk_drewN ?_ _ | refine blk_drew ?_ | refine blk_alloc ?_ _)); exact BK360.out⟩, ⟨by repeat (first | (with_reducible first | exact HB.out | apply below_alloc | apply pw_below_drewN | apply below_drew1 | refine below_set ?_ GE346.out | refine below_set ?_ GE354.out | refine below_set ?_ GE360.out) | exact HB.out)⟩⟩
          · rw [if_neg c27] at H
            have c27b0 : (t353 == 0) = false := beq_eq_false_iff_ne.mpr c27
            have c27b1 : (t353 != 0) = true := bne_iff_ne.mpr c27
            (first | rw [c27b0] | (simp only [i64_w, i32_w]; rw [c27b0]) | skip)
            have H' := Aside0.mk H
            clear H
            go_wp2
            go_meet
            case rel => exact ⟨_, (true), (by first | rfl | (simp; done) | (simp [*]; done)), H', ⟨by first | omega | exact Nat.le_refl _⟩, ⟨by (with_reducible repeat (first | refine blk_drewN ?_ _ | refine blk_drew ?_ | refine blk_alloc ?_ _)); refine blk_far ?_ NB346_360.out _; (with_reducible repeat (first | refine blk_drewN ?_ _ | refine blk_drew ?_ | refine blk_alloc ?_ _)); refine blk_far ?_ NB346_360.out _; (with_reducible repeat (first | refine blk_drewN ?_ _ | refine blk_drew ?_ | refine blk_alloc ?_ _)); refine blk_far ?_ NB346_360.out _; (with_reducible repeat (first | refine blk_drewN ?_ _ | refine blk_drew ?_ | refine blk_alloc ?_ _)); exact BK346.out⟩, ⟨by (with_reducible repeat (first | refine blk_drewN ?_ _ | refine blk_drew ?_ | refine blk_alloc ?_ _)); refine blk_far ?_ NB354_360.out _; (with_reducible repeat (first | refine blk_drewN ?_ _ | refine blk_drew ?_ | refine blk_alloc ?_ _)); refine blk_far ?_ NB354_360.out _; (with_reducible repeat (first | refine blk_drewN ?_ _ | refine blk_drew ?_ | refine blk_alloc ?_ _)); refine blk_far ?_ NB354_360.out _; (with_reducible repeat (first | refine blk_drewN ?_ _ | refine blk_drew ?_ | refine blk_alloc ?_ _)); exact BK354.out⟩, ⟨by (with_reducible repeat (first | refine blk_drewN ?_ _ | refine blk_drew ?_ | refine blk_alloc ?_ _)); refine blk_put (cs := #[.int .i64 t356, .int .i64 t357, .int .i64 0]) ?_ 2 _ rfl; (with_reducible repeat (first | refine blk_drewN ?_ _ | refine blk_drew ?_ | refine blk_alloc ?_ _)); refine blk_put (cs := #[.int .i64 t356, .int .i64 0, .int .i64 0]) ?_ 1 _ rfl; (with_reducible repeat (first | refine blk_drewN ?_ _ | refine blk_drew ?_ | refine blk_alloc ?_ _)); refine blk_put (cs := #[.int .i64 0, .int .i64 0, .int .i64 0]) ?_ 0 _ rfl; (with_reducible repeat (first | refine blk_drewN ?_ _ | refine blk_drew ?_ | refine blk_alloc ?_ _)); exact BK360.out⟩, ⟨by repeat (first | (with_reducible first | exact HB.out | apply below_alloc | apply pw_below_drewN | apply below_drew1 | refine below_set ?_ GE346.out | refine below_set ?_ GE354.out | refine below_set ?_ GE360.out) | exact HB.out)⟩⟩
        case rest =>
          clear HC15
          try clear c1
          try clear c2
          try clear p2
          try clear c3
          try clear c4
          try clear c10
          try clear c11
          try clear c11b0
          try clear c11b1
          try clear c12
          try clear c15
          try clear c18
          try clear c23
          try clear c24
          try clear c25
          try clear c27
          try clear c27b0
          try clear c27b1
          try clear c28
          try clear c28b0
          try clear c28b1
          try clear c29
          try clear c29b0
          try clear c30
          try clear c31
          try clear c33
          try clear c35
          try clear c36
          try clear c38
          try clear hcz19_0
          try clear hcz19_1
          try clear hcz19_2
          try clear hcz20_0
          try clear hcz20_1
          try clear hcz20_2
          try clear hcz26_0
          try clear hcz26_1
          try clear hcz26_2
          try clear hcz32_0
          try clear hcz32_1
          try clear hcz32_2
          try clear hcz34_0
          try clear hcz34_1
          try clear hcz34_2
          try clear hcz37_0
          try clear hcz37_1
          try clear hcz37_2
          try clear hcz39_0
          try clear hcz39_1
          try clear hcz39_2
          try clear hcz40_0
          try clear hcz40_1
          try clear hcz40_2
          try clear hcz9_0
          try clear hcz9_1
          try clear hcz9_2
          try clear hfz19_0
          try clear hfz19_1
          try clear hfz19_2
          try clear hfz20_0
          try clear hfz20_1
          try clear hfz20_2
          try clear hfz26_0
          try clear hfz26_1
          try clear hfz26_2
          try clear hfz32_0
          try clear hfz32_1
          try clear hfz32_2
          try clear hfz34_0
          try clear hfz34_1
          try clear hfz34_2
          try clear hfz37_0
          try clear hfz37_1
          try clear hfz37_2
          try clear hfz39_0
          try clear hfz39_1
          try clear hfz39_2
          try clear hfz40_0
          try clear hfz40_1
          try clear hfz40_2
          try clear hfz9_0
          try clear hfz9_1
          try clear hfz9_2
          obtain ⟨kq, x50_14, rfl, HA, HJ14, BK346, BK354, BK360, HB⟩ := hcut
          cases kq with
          | zero => exact absurd HA.out (by simp [hourglasslaw4_CivilBack.j0])
          | succ kj14 =>
            have H := HA.out
            clear HA
            simp only [hourglasslaw4_CivilBack.j0] at H
            by_cases c41 : x50_14 = true
            · subst c41
              have H1 : (some false) = some r := by rw [if_pos rfl] at H; exact H
              clear H
              have H := H1
              clear H1
              cases (Option.some.inj H).trans hlaw_.out
            · replace c41 := Bool.eq_false_iff.mpr c41
              subst c41
              have H1 : (hourglasslaw4_CivilBack.j1 kj14 a1) = some r := by rw [if_neg (show ¬ (false = true) by decide)] at H; exact H
              clear H
              have H := H1
              clear H1
              have H' := Aside0.mk H
              clear H
              go_wp2
              go_meet
              case rel => exact ⟨_, H', ⟨by have := HJ14.out; first | omega | exact Nat.le_refl _⟩, ⟨by (with_reducible repeat (first | refine blk_drewN ?_ _ | refine blk_drew ?_ | refine blk_alloc ?_ _)); exact BK346.out⟩, ⟨by repeat (first | (with_reducible first | exact HB.out | apply below_alloc | apply pw_below_drewN | apply below_drew1 | refine below_set ?_ GE346.out | refine below_set ?_ GE354.out | refine below_set ?_ GE360.out) | exact HB.out)⟩⟩
      · rw [if_neg c11] at H
        have c11b0 : (t349 == 0) = false := beq_eq_false_iff_ne.mpr c11
        have c11b1 : (t349 != 0) = true := bne_iff_ne.mpr c11
        (first | rw [c11b0] | (simp only [i64_w, i32_w]; rw [c11b0]) | skip)
        have H' := Aside0.mk H
        clear H
        go_wp2
        go_meet
        case rel => exact ⟨_, H', ⟨by first | omega | exact Nat.le_refl _⟩, ⟨by (with_reducible repeat (first | refine blk_drewN ?_ _ | refine blk_drew ?_ | refine blk_alloc ?_ _)); exact BK346.out⟩, ⟨by repeat (first | (with_reducible first | exact HB.out | apply below_alloc | apply pw_below_drewN | apply below_drew1 | refine below_set ?_ GE346.out) | exact HB.out)⟩⟩
    case rest =>
      clear HC6
      try clear c1
      try clear c2
      try clear p2
      try clear c3
      try clear c4
      try clear c10
      try clear c11
      try clear c11b0
      try clear c11b1
      try clear c12
      try clear c15
      try clear c18
      try clear c23
      try clear c24
      try clear c25
      try clear c27
      try clear c27b0
      try clear c27b1
      try clear c28
      try clear c28b0
      try clear c28b1
      try clear c29
      try clear c29b0
      try clear c30
      try clear c31
      try clear c33
      try clear c35
      try clear c36
      try clear c38
      try clear c41
      try clear hcz19_0
      try clear hcz19_1
      try clear hcz19_2
      try clear hcz20_0
      try clear hcz20_1
      try clear hcz20_2
      try clear hcz26_0
      try clear hcz26_1
      try clear hcz26_2
      try clear hcz32_0
      try clear hcz32_1
      try clear hcz32_2
      try clear hcz34_0
      try clear hcz34_1
      try clear hcz34_2
      try clear hcz37_0
      try clear hcz37_1
      try clear hcz37_2
      try clear hcz39_0
      try clear hcz39_1
      try clear hcz39_2
      try clear hcz40_0
      try clear hcz40_1
      try clear hcz40_2
      try clear hcz9_0
      try clear hcz9_1
      try clear hcz9_2
      try clear hfz19_0
      try clear hfz19_1
      try clear hfz19_2
      try clear hfz20_0
      try clear hfz20_1
      try clear hfz20_2
      try clear hfz26_0
      try clear hfz26_1
      try clear hfz26_2
      try clear hfz32_0
      try clear hfz32_1
      try clear hfz32_2
      try clear hfz34_0
      try clear hfz34_1
      try clear hfz34_2
      try clear hfz37_0
      try clear hfz37_1
      try clear hfz37_2
      try clear hfz39_0
      try clear hfz39_1
      try clear hfz39_2
      try clear hfz40_0
      try clear hfz40_1
      try clear hfz40_2
      try clear hfz9_0
      try clear hfz9_1
      try clear hfz9_2
      try clear p2
      obtain ⟨kq, HA, HJ5, BK346, HB⟩ := hcut
      cases kq with
      | zero => exact absurd HA.out (by simp [hourglasslaw4_CivilBack.j1])
      | succ kj5 =>
        have H := HA.out
        clear HA
        simp only [hourglasslaw4_CivilBack.j1] at H
        replace H := Option.bind_eq_some_iff.mp H
        obtain ⟨⟨t361, t362, t363, t364⟩, A420, H⟩ := H
        replace H : (if t364 = 0 then ((civil_Days.f kj5 t361 t362 t363).bind fun bt366 => (if bt366.2 = 0 then (some (bt366.1 == a1)) else (some false))) else (some (t361 == 0 && (t362 == 0 && (t363 == 0))))) = some r := H
        have A42 := Aside0.mk A420
        clear A420
        by_cases c43 : t364 = 0
        · rw [if_pos c43] at H
          have c43b0 : (t364 == 0) = true := beq_iff_eq.mpr c43
          have c43b1 : (t364 != 0) = false := bne_eq_false_iff_eq.mpr c43
          clear c43
          replace H := Option.bind_eq_some_iff.mp H
          obtain ⟨⟨t366, t367⟩, A440, H⟩ := H
          replace H : (if t367 = 0 then (some (t366 == a1)) else (some false)) = some r := H
          have A44 := Aside0.mk A440
          clear A440
          by_cases c45 : t367 = 0
          · rw [if_pos c45] at H
            have c45b0 : (t367 == 0) = true := beq_iff_eq.mpr c45
            have c45b1 : (t367 != 0) = false := bne_eq_false_iff_eq.mpr c45
            clear c45
            obtain rfl := Option.some.inj H
            go_wp2_with (first | ((with_reducible refine gate_callee (f := 15) rfl ?_); refine goesL_ (some 53) rfl rfl Tryd.func15 (by kernel_rfl) rfl #[.int .i64 a1] rfl (by (try simp only [List.map_toArray, List.map_cons, List.map_nil]); first | done | rfl | (simp only [List.length_drop, List.length_take]; rfl)) ?_; (with_reducible refine (civil_Of.calls kj5 a1 t361 t362 t363 t364 _ A42.out).mono ?_); rintro e w46 ⟨rfl, hb⟩; refine ⟨_, rfl, ?_⟩; have n0_ := Aside0.mk (blk_below (g := gb346) (o := .cells #[.int .i64 a0_0, .int .i64 a0_1, .int .i64 a0_2] 23 (0, 0)) (by (with_reducible repeat (first | refine blk_drewN ?_ _ | refine blk_drew ?_ | refine blk_alloc ?_ _)); exact BK346.out) hb); have n1_ := Aside0.mk (below_step (by repeat (first | (with_reducible first | exact HB.out | apply below_alloc | apply pw_below_drewN | apply below_drew1 | refine below_set ?_ GE346.out) | exact HB.out)) hb); clear BK346; clear HB; have BK346 := n0_; have HB := n1_; clear n0_ n1_; (try clear hb); (try clear hb2); (try clear hk); (try clear hi)) | ((with_reducible refine gate_dst (N := 11) rfl ?_); refine box_event ?hg (N := 11) ?hd (cs := #[.int .i64 0, .int .i64 0, .int .i64 0]) (t := 23) ?hr ?_; (case hd => rfl); (case hg => rfl); (case hr => first | (go_simp; done) | (go_simp; rfl)); intro gb365 hg w47 hbox hb; have n0_ := Aside0.mk (blk_below (g := gb346) (o := .cells #[.int .i64 a0_0, .int .i64 a0_1, .int .i64 a0_2] 23 (0, 0)) (by (with_reducible repeat (first | refine blk_drewN ?_ _ | refine blk_drew ?_ | refine blk_alloc ?_ _)); exact BK346.out) hb); have n1_ := Aside0.mk (below_step (by repeat (first | (with_reducible first | exact HB.out | apply below_alloc | apply pw_below_drewN | apply below_drew1 | refine below_set ?_ GE346.out) | exact HB.out)) hb); have n2_ := Aside0.mk (hbox); have n3_ := Aside0.mk ((by rw [hg]; exact (below_size (by repeat (first | (with_reducible first | exact HB.out | apply below_alloc | apply pw_below_drewN | apply below_drew1 | refine below_set ?_ GE346.out) | exact HB.out))) : w.heap.size ≤ gb365)); have n4_ := Aside0.mk ((by rw [hg]; exact (below_size (by repeat (first | (with_reducible first | exact HB.out | apply below_alloc | apply pw_below_drewN | apply below_drew1 | refine below_set ?_ GE346.out) | exact HB.out))) : w.heap.size ≤ gb365)); have n5_ := Aside0.mk ((by rw [hg]; exact Nat.ne_of_lt (blk_lt (g := gb346) (o := .cells #[.int .i64 a0_0, .int .i64 a0_1, .int .i64 a0_2] 23 (0, 0)) (by (with_reducible repeat (first | refine blk_drewN ?_ _ | refine blk_drew ?_ | refine blk_alloc ?_ _)); exact BK346.out)) : gb346 ≠ gb365)); have n6_ := Aside0.mk ((by rw [hg]; exact Nat.ne_of_gt (blk_lt (g := gb346) (o := .cells #[.int .i64 a0_0, .int .i64 a0_1, .int .i64 a0_2] 23 (0, 0)) (by (with_reducible repeat (first | refine blk_drewN ?_ _ | refine blk_drew ?_ | refine blk_alloc ?_ _)); exact BK346.out)) : gb365 ≠ gb346)); clear BK346; clear HB; have BK346 := n0_; have HB := n1_; have BK365 := n2_; have GW365 := n3_; have GE365 := n4_; have NB346_365 := n5_; have NB365_346 := n6_; clear n0_ n1_ n2_ n3_ n4_ n5_ n6_; clear hb hbox hg; have hnb48 := NB365_346.out; have hnc48 := NB346_365.out; have hcz49_0 : w47.cell? ⟨gb365, 0, none⟩ = some (.int .i64 0) := (blk_cell BK365.out 0).trans rfl; have hcz49_1 : w47.cell? ⟨gb365, 1, none⟩ = some (.int .i64 0) := (blk_cell BK365.out 1).trans rfl; have hcz49_2 : w47.cell? ⟨gb365, 2, none⟩ = some (.int .i64 0) := (blk_cell BK365.out 2).trans rfl; have hfz49_0 := blk_frozen BK365.out 0; have hfz49_1 := blk_frozen BK365.out 1; have hfz49_2 := blk_frozen BK365.out 2) | ((with_reducible refine gate_callee (f := 12) rfl ?_); refine goesL_ (some 63) rfl rfl Tryd.func12 (by kernel_rfl) rfl #[.agg #[.int .i64 t361, .int .i64 t362, .int .i64 t363]] rfl (by (try simp only [List.map_toArray, List.map_cons, List.map_nil]); first | done | rfl | (simp only [List.length_drop, List.length_take]; rfl)) ?_; (with_reducible refine (civil_Days.calls kj5 t361 t362 t363 t366 t367 _ A44.out).mono ?_); rintro e w50 ⟨rfl, hb⟩; refine ⟨_, rfl, ?_⟩; have n0_ := Aside0.mk (blk_below (g := gb346) (o := .cells #[.int .i64 a0_0, .int .i64 a0_1, .int .i64 a0_2] 23 (0, 0)) (by (with_reducible repeat (first | refine blk_drewN ?_ _ | refine blk_drew ?_ | refine blk_alloc ?_ _)); refine blk_far ?_ NB346_365.out _; (with_reducible repeat (first | refine blk_drewN ?_ _ | refine blk_drew ?_ | refine blk_alloc ?_ _)); refine blk_far ?_ NB346_365.out _; (with_reducible repeat (first | refine blk_drewN ?_ _ | refine blk_drew ?_ | refine blk_alloc ?_ _)); refine blk_far ?_ NB346_365.out _; (with_reducible repeat (first | refine blk_drewN ?_ _ | refine blk_drew ?_ | refine blk_alloc ?_ _)); exact BK346.out) hb); have n1_ := Aside0.mk (blk_below (g := gb365) (o := .cells #[.int .i64 t361, .int .i64 t362, .int .i64 t363] 23 (0, 0)) (by (with_reducible repeat (first | refine blk_drewN ?_ _ | refine blk_drew ?_ | refine blk_alloc ?_ _)); refine blk_put (cs := #[.int .i64 t361, .int .i64 t362, .int .i64 0]) ?_ 2 _ rfl; (with_reducible repeat (first | refine blk_drewN ?_ _ | refine blk_drew ?_ | refine blk_alloc ?_ _)); refine blk_put (cs := #[.int .i64 t361, .int .i64 0, .int .i64 0]) ?_ 1 _ rfl; (with_reducible repeat (first | refine blk_drewN ?_ _ | refine blk_drew ?_ | refine blk_alloc ?_ _)); refine blk_put (cs := #[.int .i64 0, .int .i64 0, .int .i64 0]) ?_ 0 _ rfl; (with_reducible repeat (first | refine blk_drewN ?_ _ | refine blk_drew ?_ | refine blk_alloc ?_ _)); exact BK365.out) hb); have n2_ := Aside0.mk (below_step (by repeat (first | (with_reducible first | exact HB.out | apply below_alloc | apply pw_below_drewN | apply below_drew1 | refine below_set ?_ GE346.out | refine below_set ?_ GE365.out) | exact HB.out)) hb); clear BK346; clear BK365; clear HB; have BK346 := n0_; have BK365 := n1_; have HB := n2_; clear n0_ n1_ n2_; (try clear hb); (try clear hb2); (try clear hk); (try clear hi)))
            go_ret
            exact ⟨by first | rfl | (simp [errW_none, errW_some] <;> rfl) | (simp [*, errW_none, errW_some] <;> rfl), by repeat (first | (with_reducible first | exact HB.out | apply below_alloc | apply pw_below_drewN | apply below_drew1 | refine below_set ?_ GE346.out | refine below_set ?_ GE365.out) | exact HB.out)⟩
          · rw [if_neg c45] at H
            have c45b0 : (t367 == 0) = false := beq_eq_false_iff_ne.mpr c45
            have c45b1 : (t367 != 0) = true := bne_iff_ne.mpr c45
            cases (Option.some.inj H).trans hlaw_.out
        · rw [if_neg c43] at H
          have c43b0 : (t364 == 0) = false := beq_eq_false_iff_ne.mpr c43
          have c43b1 : (t364 != 0) = true := bne_iff_ne.mpr c43
          obtain rfl := Option.some.inj H
          go_wp2_with (first | ((with_reducible refine gate_callee (f := 15) rfl ?_); refine goesL_ (some 53) rfl rfl Tryd.func15 (by kernel_rfl) rfl #[.int .i64 a1] rfl (by (try simp only [List.map_toArray, List.map_cons, List.map_nil]); first | done | rfl | (simp only [List.length_drop, List.length_take]; rfl)) ?_; (with_reducible refine (civil_Of.calls kj5 a1 t361 t362 t363 t364 _ A42.out).mono ?_); rintro e w51 ⟨rfl, hb⟩; refine ⟨_, rfl, ?_⟩; have n0_ := Aside0.mk (blk_below (g := gb346) (o := .cells #[.int .i64 a0_0, .int .i64 a0_1, .int .i64 a0_2] 23 (0, 0)) (by (with_reducible repeat (first | refine blk_drewN ?_ _ | refine blk_drew ?_ | refine blk_alloc ?_ _)); exact BK346.out) hb); have n1_ := Aside0.mk (below_step (by repeat (first | (with_reducible first | exact HB.out | apply below_alloc | apply pw_below_drewN | apply below_drew1 | refine below_set ?_ GE346.out) | exact HB.out)) hb); clear BK346; clear HB; have BK346 := n0_; have HB := n1_; clear n0_ n1_; (try clear hb); (try clear hb2); (try clear hk); (try clear hi)) | ((with_reducible refine gate_dst (N := 11) rfl ?_); refine box_event ?hg (N := 11) ?hd (cs := #[.int .i64 0, .int .i64 0, .int .i64 0]) (t := 23) ?hr ?_; (case hd => rfl); (case hg => rfl); (case hr => first | (go_simp; done) | (go_simp; rfl)); intro gb365 hg w52 hbox hb; have n0_ := Aside0.mk (blk_below (g := gb346) (o := .cells #[.int .i64 a0_0, .int .i64 a0_1, .int .i64 a0_2] 23 (0, 0)) (by (with_reducible repeat (first | refine blk_drewN ?_ _ | refine blk_drew ?_ | refine blk_alloc ?_ _)); exact BK346.out) hb); have n1_ := Aside0.mk (below_step (by repeat (first | (with_reducible first | exact HB.out | apply below_alloc | apply pw_below_drewN | apply below_drew1 | refine below_set ?_ GE346.out) | exact HB.out)) hb); have n2_ := Aside0.mk (hbox); have n3_ := Aside0.mk ((by rw [hg]; exact (below_size (by repeat (first | (with_reducible first | exact HB.out | apply below_alloc | apply pw_below_drewN | apply below_drew1 | refine below_set ?_ GE346.out) | exact HB.out))) : w.heap.size ≤ gb365)); have n4_ := Aside0.mk ((by rw [hg]; exact (below_size (by repeat (first | (with_reducible first | exact HB.out | apply below_alloc | apply pw_below_drewN | apply below_drew1 | refine below_set ?_ GE346.out) | exact HB.out))) : w.heap.size ≤ gb365)); have n5_ := Aside0.mk ((by rw [hg]; exact Nat.ne_of_lt (blk_lt (g := gb346) (o := .cells #[.int .i64 a0_0, .int .i64 a0_1, .int .i64 a0_2] 23 (0, 0)) (by (with_reducible repeat (first | refine blk_drewN ?_ _ | refine blk_drew ?_ | refine blk_alloc ?_ _)); exact BK346.out)) : gb346 ≠ gb365)); have n6_ := Aside0.mk ((by rw [hg]; exact Nat.ne_of_gt (blk_lt (g := gb346) (o := .cells #[.int .i64 a0_0, .int .i64 a0_1, .int .i64 a0_2] 23 (0, 0)) (by (with_reducible repeat (first | refine blk_drewN ?_ _ | refine blk_drew ?_ | refine blk_alloc ?_ _)); exact BK346.out)) : gb365 ≠ gb346)); clear BK346; clear HB; have BK346 := n0_; have HB := n1_; have BK365 := n2_; have GW365 := n3_; have GE365 := n4_; have NB346_365 := n5_; have NB365_346 := n6_; clear n0_ n1_ n2_ n3_ n4_ n5_ n6_; clear hb hbox hg; have hnb53 := NB365_346.out; have hnc53 := NB346_365.out; have hcz54_0 : w52.cell? ⟨gb365, 0, none⟩ = some (.int .i64 0) := (blk_cell BK365.out 0).trans rfl; have hcz54_1 : w52.cell? ⟨gb365, 1, none⟩ = some (.int .i64 0) := (blk_cell BK365.out 1).trans rfl; have hcz54_2 : w52.cell? ⟨gb365, 2, none⟩ = some (.int .i64 0) := (blk_cell BK365.out 2).trans rfl; have hfz54_0 := blk_frozen BK365.out 0; have hfz54_1 := blk_frozen BK365.out 1; have hfz54_2 := blk_frozen BK365.out 2))
          go_ret
          exact ⟨by first | rfl | (simp [errW_none, errW_some] <;> rfl) | (simp [*, errW_none, errW_some] <;> rfl), by repeat (first | (with_reducible first | exact HB.out | apply below_alloc | apply pw_below_drewN | apply below_drew1 | refine below_set ?_ GE346.out | refine below_set ?_ GE365.out) | exact HB.out)⟩
  · replace c4 := Bool.eq_false_iff.mpr c4
    subst c4
    have H1 : (some false) = some r := by rw [if_neg (show ¬ (false = true) by decide)] at H; exact H
    clear H
    have H := H1
    clear H1
    cases (Option.some.inj H).trans hlaw_.out

end Go.Proofs.YtbgdpkpljkcnfaaDoor.QCivil
