/- What the Go functions compute: each as a Lean function, with the proof that its call answers so; written by a program of this session over the kit's print. Conditions: each theorem's own. -/
import Derived.Test.YthelnkmjhchmnaaDoorQLeapx0
import Derived.Test.YthelnkmjhchmnaaDoorQLeapx11
import Derived.Test.YthelnkmjhchmnaaDoorQLeapx13
import Derived.Test.YthelnkmjhchmnaaDoorQLeapx14
namespace Go.Proofs.YthelnkmjhchmnaaDoor.QLeap
open Go.RowKit Go.Proofs.YthelnkmjhchmnaaDoorW.PrintWords Go.Proofs.YthelnkmjhchmnaaDoorW.PrintLast Go.Proofs.YthelnkmjhchmnaaDoorW.PrintMore
attribute [local go_sem] max2_int min2_int max_two min_two max_three min_three max_four min_four   -- for this text's walks alone
set_option linter.unusedVariables false
set_option linter.unusedSimpArgs false

/-! ### leap_Table_UTC: function 12 -/
mutual
def leap_Table_UTC.j0 : Nat → Int → Bool → ByteArray → List (S52) → Option (Int × Int × Int × ByteArray)
  | 0, _, _, _, _ => none
  | k + 1, x1, x17, x1000, x1001 => if x17 = true then (some (0, 0, 4, x1000)) else (leap_Table_UTC.l0 k x1 (wrap64 ((wrap64 (Int.tdiv (wrap64 ((wrap64 (x1 + 371085174374400)) - 10000)) 86400)) - 4294967296)) (wrap64 ((wrap64 ((wrap64 (Int.tdiv (wrap64 ((wrap64 (x1 + 371085174374400)) - 10000)) 86400)) - 4294967296)) - 1)) x1000 x1001)
def leap_Table_UTC.l0 : Nat → Int → Int → Int → ByteArray → List (S52) → Option (Int × Int × Int × ByteArray)
  | 0, _, _, _, _, _ => none
  | k + 1, x1, x7, x8, x1000, x1001 => if x8 ≤ (wrap64 (x7 + 2)) then ((leap_Table_Length.f k x1000 x1001 x8).bind fun bt173 => ((leap_Table_begin.f k bt173.2.2 x1001 x8).bind fun bt176 => (if bt173.2.1 = 0 then (if (wrap64 (x1 - bt176.1)) ≥ 0 then (leap_Table_UTC.j2 k x1 x7 x8 (wrap64 (x1 - bt176.1)) (decide ((wrap64 (x1 - bt176.1)) < bt173.1)) bt176.2 x1001) else (leap_Table_UTC.j2 k x1 x7 x8 (wrap64 (x1 - bt176.1)) false bt176.2 x1001)) else (leap_Table_UTC.j2 k x1 x7 x8 (wrap64 (x1 - bt176.1)) false bt176.2 x1001)))) else (some (0, 0, 4, x1000))
def leap_Table_UTC.j2 : Nat → Int → Int → Int → Int → Bool → ByteArray → List (S52) → Option (Int × Int × Int × ByteArray)
  | 0, _, _, _, _, _, _, _ => none
  | k + 1, x1, x7, x8, x11, x52, x1000, x1001 => if x52 = true then (some (x8, x11, 0, x1000)) else (leap_Table_UTC.l0 k x1 x7 (wrap64 (x8 + 1)) x1000 x1001)
end
def leap_Table_UTC.f (k : Nat) (s0_0 : ByteArray) (s0_1 : List (S52)) (a1 : Int) : Option (Int × Int × Int × ByteArray) := if a1 < (-371085174374400) then (leap_Table_UTC.j0 k a1 true s0_0 s0_1) else (leap_Table_UTC.j0 k a1 (decide (a1 > 371085174374400)) s0_0 s0_1)
theorem leap_Table_UTC.mono_l : ∀ k, (∀ y0 y1 y2 y3, LeO (leap_Table_UTC.j0 k y0 y1 y2 y3) (leap_Table_UTC.j0 (k + 1) y0 y1 y2 y3)) ∧ (∀ y0 y1 y2 y3 y4, LeO (leap_Table_UTC.l0 k y0 y1 y2 y3 y4) (leap_Table_UTC.l0 (k + 1) y0 y1 y2 y3 y4)) ∧ (∀ y0 y1 y2 y3 y4 y5 y6, LeO (leap_Table_UTC.j2 k y0 y1 y2 y3 y4 y5 y6) (leap_Table_UTC.j2 (k + 1) y0 y1 y2 y3 y4 y5 y6))
  | 0 => ⟨fun _ _ _ _ r h => by simp [leap_Table_UTC.j0] at h, fun _ _ _ _ _ r h => by simp [leap_Table_UTC.l0] at h, fun _ _ _ _ _ _ _ r h => by simp [leap_Table_UTC.j2] at h⟩
  | k + 1 => by
    obtain ⟨ih0, ih1, ih2⟩ := leap_Table_UTC.mono_l k
    refine ⟨?_, ?_, ?_⟩
    · intro y0 y1 y2 y3
      unfold leap_Table_UTC.j0
      repeat' first
      | (with_reducible exact ih0 _ _ _ _)
      | (with_reducible exact ih1 _ _ _ _ _)
      | (with_reducible exact ih2 _ _ _ _ _ _ _)
      | (with_reducible exact leap_Table_Length.mono _ _ _ _)
      | (with_reducible exact leap_Table_begin.mono _ _ _ _)
      | (with_reducible exact LeO.refl _)
      | (with_reducible exact LeO.none _)
      | (with_reducible refine LeO.ite ?_ ?_)
      | (with_reducible refine LeO.bind ?_ (fun _ => ?_))
      | exact ih0 _ _ _ _
      | exact ih1 _ _ _ _ _
      | exact ih2 _ _ _ _ _ _ _
      | exact leap_Table_Length.mono _ _ _ _
      | exact leap_Table_begin.mono _ _ _ _
      | exact LeO.none _
      | refine LeO.ite ?_ ?_
      | refine LeO.bind ?_ (fun _ => ?_)
    · intro y0 y1 y2 y3 y4
      unfold leap_Table_UTC.l0
      repeat' first
      | (with_reducible exact ih0 _ _ _ _)
      | (with_reducible exact ih1 _ _ _ _ _)
      | (with_reducible exact ih2 _ _ _ _ _ _ _)
      | (with_reducible exact leap_Table_Length.mono _ _ _ _)
      | (with_reducible exact leap_Table_begin.mono _ _ _ _)
      | (with_reducible exact LeO.refl _)
      | (with_reducible exact LeO.none _)
      | (with_reducible refine LeO.ite ?_ ?_)
      | (with_reducible refine LeO.bind ?_ (fun _ => ?_))
      | exact ih0 _ _ _ _
      | exact ih1 _ _ _ _ _
      | exact ih2 _ _ _ _ _ _ _
      | exact leap_Table_Length.mono _ _ _ _
      | exact leap_Table_begin.mono _ _ _ _
      | exact LeO.none _
      | refine LeO.ite ?_ ?_
      | refine LeO.bind ?_ (fun _ => ?_)
    · intro y0 y1 y2 y3 y4 y5 y6
      unfold leap_Table_UTC.j2
      repeat' first
      | (with_reducible exact ih0 _ _ _ _)
      | (with_reducible exact ih1 _ _ _ _ _)
      | (with_reducible exact ih2 _ _ _ _ _ _ _)
      | (with_reducible exact leap_Table_Length.mono _ _ _ _)
      | (with_reducible exact leap_Table_begin.mono _ _ _ _)
      | (with_reducible exact LeO.refl _)
      | (with_reducible exact LeO.none _)
      | (with_reducible refine LeO.ite ?_ ?_)
      | (with_reducible refine LeO.bind ?_ (fun _ => ?_))
      | exact ih0 _ _ _ _
      | exact ih1 _ _ _ _ _
      | exact ih2 _ _ _ _ _ _ _
      | exact leap_Table_Length.mono _ _ _ _
      | exact leap_Table_begin.mono _ _ _ _
      | exact LeO.none _
      | refine LeO.ite ?_ ?_
      | refine LeO.bind ?_ (fun _ => ?_)
theorem leap_Table_UTC.mono : ∀ a0 a1 a2 k, LeO (leap_Table_UTC.f k a0 a1 a2) (leap_Table_UTC.f (k + 1) a0 a1 a2) := by
  intro a0 a1 a2 k
  obtain ⟨ih0, ih1, ih2⟩ := leap_Table_UTC.mono_l k
  unfold leap_Table_UTC.f
  repeat' first
      | (with_reducible exact ih0 _ _ _ _)
      | (with_reducible exact ih1 _ _ _ _ _)
      | (with_reducible exact ih2 _ _ _ _ _ _ _)
      | (with_reducible exact leap_Table_Length.mono _ _ _ _)
      | (with_reducible exact leap_Table_begin.mono _ _ _ _)
      | (with_reducible exact LeO.refl _)
      | (with_reducible exact LeO.none _)
      | (with_reducible refine LeO.ite ?_ ?_)
      | (with_reducible refine LeO.bind ?_ (fun _ => ?_))
      | exact ih0 _ _ _ _
      | exact ih1 _ _ _ _ _
      | exact ih2 _ _ _ _ _ _ _
      | exact leap_Table_Length.mono _ _ _ _
      | exact leap_Table_begin.mono _ _ _ _
      | exact LeO.none _
      | refine LeO.ite ?_ ?_
      | refine LeO.bind ?_ (fun _ => ?_)
set_option maxHeartbeats 8000000 in
set_option maxRecDepth 100000 in
theorem leap_Table_UTC.calls (k : Nat) (g : Nat) (s0_0 : ByteArray) (s0_1 : List (S52)) (a1 : Int) (r1 : Int) (r2 : Int) (r3 : Int) (r4 : ByteArray) (w0 w : World) (hI : IsS50 w0 w g s0_0 s0_1) (hB : Below w0.heap.size w0 w) (h : leap_Table_UTC.f k s0_0 s0_1 a1 = some (r1, r2, r3, r4)) :
    Calls Tryd.prog 12 #[.pointer (some ⟨g, 0, none⟩), .int .i64 a1] w fun e w' => e = .returned (.tuple #[.int .i64 r1, .int .i64 r2, .int .i64 r3]) ∧ IsS50 w0 w' g r4 s0_1 ∧ Below w0.heap.size w0 w' ∧ KeepBut w w' g none := by
  have HI0 := Aside0.mk hI
  have HK := Aside0.mk (KeepBut.refl w g none)
  have HL := Aside0.mk hB.size
  clear hI
  have HW0 := Aside0.mk hB.size
  have HB := Aside0.mk hB
  clear hB
  have H : (if a1 < (-371085174374400) then (leap_Table_UTC.j0 k a1 true s0_0 s0_1) else (leap_Table_UTC.j0 k a1 (decide (a1 > 371085174374400)) s0_0 s0_1)) = some (r1, r2, r3, r4) := h
  clear h
  have HC3 := Aside0.mk H
  clear H
  go_enter Tryd.func12, Tryd.ntmps12
  go_upto_region 1 with (fail)
  go_cut [17] (fun v17 wc => ∃ (kq : Nat) (x17_2 : Bool), v17 = .bool x17_2 ∧ Aside0 (leap_Table_UTC.j0 kq a1 x17_2 s0_0 s0_1 = some (r1, r2, r3, r4)) ∧ Aside0 (kq ≤ k) ∧ Aside0 (IsS50 w0 wc g s0_0 s0_1) ∧ Aside0 (KeepBut w wc g none) ∧ Aside0 (Below w0.heap.size w0 wc))
  case first =>
    have H := HC3.out
    clear HC3
    by_cases c4 : a1 < (-371085174374400)
    · rw [if_pos c4] at H
      have c4b0 : decide (a1 < (-371085174374400)) = true := decide_eq_true c4
      clear c4
      (first | rw [c4b0] | (simp only [i64_w, i32_w]; rw [c4b0]) | skip)
      have H' := Aside0.mk H
      clear H
      go_wp2
      go_meet
      case rel => exact ⟨_, (true), (by first | rfl | (simp; done) | (simp [*]; done)), H', ⟨by first | omega | exact Nat.le_refl _⟩, ⟨by repeat (first | (with_reducible first | exact HI0.out | apply IsS50.alloc | apply IsS50.drewN | apply IsS50.drew | apply IsS50.set_0) | exact HI0.out)⟩, ⟨by repeat (first | (with_reducible first | exact HK.out | apply KeepBut.set_ | apply keep_drewN | apply keep_drew | apply keep_alloc) | exact HK.out)⟩, ⟨by repeat (first | (with_reducible first | exact HB.out | apply below_alloc | apply pw_below_drewN | apply below_drew1) | exact HB.out)⟩⟩
    · rw [if_neg c4] at H
      have c4b0 : decide (a1 < (-371085174374400)) = false := decide_eq_false c4
      clear c4
      (first | rw [c4b0] | (simp only [i64_w, i32_w]; rw [c4b0]) | skip)
      have H' := Aside0.mk H
      clear H
      go_wp2
      go_meet
      case rel => exact ⟨_, (decide (a1 > 371085174374400)), (by first | rfl | (simp; done) | (simp [*]; done)), H', ⟨by first | omega | exact Nat.le_refl _⟩, ⟨by repeat (first | (with_reducible first | exact HI0.out | apply IsS50.alloc | apply IsS50.drewN | apply IsS50.drew | apply IsS50.set_0) | exact HI0.out)⟩, ⟨by repeat (first | (with_reducible first | exact HK.out | apply KeepBut.set_ | apply keep_drewN | apply keep_drew | apply keep_alloc) | exact HK.out)⟩, ⟨by repeat (first | (with_reducible first | exact HB.out | apply below_alloc | apply pw_below_drewN | apply below_drew1) | exact HB.out)⟩⟩
  case rest =>
    clear HC3
    try clear c1
    try clear p2
    try clear c4
    try clear c4b0
    obtain ⟨kq, x17_2, rfl, HA, HJ2, HI0, HK, HB⟩ := hcut
    cases kq with
    | zero => exact absurd HA.out (by simp [leap_Table_UTC.j0])
    | succ kj2 =>
      have H := HA.out
      clear HA
      simp only [leap_Table_UTC.j0] at H
      by_cases c5 : x17_2 = true
      · subst c5
        have H1 : (some (0, 0, 4, s0_0)) = some (r1, r2, r3, r4) := by rw [if_pos rfl] at H; exact H
        clear H
        have H := H1
        clear H1
        simp only [Option.some.injEq, Prod.mk.injEq] at H
        obtain ⟨rfl, rfl, rfl, rfl⟩ := H
        go_wp2
        go_ret3
        exact ⟨by first | rfl | (simp [errW_none, errW_some] <;> rfl) | (simp [*, errW_none, errW_some] <;> rfl), by repeat (first | (with_reducible first | exact HI0.out | apply IsS50.alloc | apply IsS50.drewN | apply IsS50.drew | apply IsS50.set_0) | exact HI0.out), by repeat (first | (with_reducible first | exact HB.out | apply below_alloc | apply pw_below_drewN | apply below_drew1) | exact HB.out), by repeat (first | (with_reducible first | exact HK.out | apply KeepBut.set_ | apply keep_drewN | apply keep_drew | apply keep_alloc) | exact HK.out)⟩
      · replace c5 := Bool.eq_false_iff.mpr c5
        subst c5
        have H1 : (leap_Table_UTC.l0 kj2 a1 (wrap64 ((wrap64 (Int.tdiv (wrap64 ((wrap64 (a1 + 371085174374400)) - 10000)) 86400)) - 4294967296)) (wrap64 ((wrap64 ((wrap64 (Int.tdiv (wrap64 ((wrap64 (a1 + 371085174374400)) - 10000)) 86400)) - 4294967296)) - 1)) s0_0 s0_1) = some (r1, r2, r3, r4) := by rw [if_neg (show ¬ (false = true) by decide)] at H; exact H
        clear H
        have H := H1
        clear H1
        have H' := Aside0.mk H
        clear H
        go_wp2
        go_loopg [8] kj2 (fun kq v8 w' => ∃ (x8_2 : Int) (x1000_2 : ByteArray), v8 = .int .i64 x8_2 ∧ Aside0 (leap_Table_UTC.l0 kq a1 (wrap64 ((wrap64 (Int.tdiv (wrap64 ((wrap64 (a1 + 371085174374400)) - 10000)) 86400)) - 4294967296)) x8_2 x1000_2 s0_1 = some (r1, r2, r3, r4)) ∧ Aside0 (kq ≤ kj2) ∧ Aside0 (IsS50 w0 w' g x1000_2 s0_1) ∧ Aside0 (KeepBut w w' g none) ∧ Aside0 (Below w0.heap.size w0 w'))
        case atStart => exact ⟨(wrap64 ((wrap64 ((wrap64 (Int.tdiv (wrap64 ((wrap64 (a1 + 371085174374400)) - 10000)) 86400)) - 4294967296)) - 1)), (s0_0), (by first | rfl | (simp; done) | (simp [*]; done)), H', ⟨Nat.le_refl _⟩, ⟨by repeat (first | (with_reducible first | exact HI0.out | apply IsS50.alloc | apply IsS50.drewN | apply IsS50.drew | apply IsS50.set_0) | exact HI0.out)⟩, ⟨by repeat (first | (with_reducible first | exact HK.out | apply KeepBut.set_ | apply keep_drewN | apply keep_drew | apply keep_alloc) | exact HK.out)⟩, ⟨by repeat (first | (with_reducible first | exact HB.out | apply below_alloc | apply pw_below_drewN | apply below_drew1) | exact HB.out)⟩⟩
        case round =>
          clear H'
          try clear c1
          try clear p2
          try clear c4
          try clear c4b0
          try clear c5
          try clear p2
          obtain ⟨x8_2, x1000_2, rfl, HA, HK2, HI0, HK, HB⟩ := hrel
          cases gk with
          | zero => exact absurd HA.out (by simp [leap_Table_UTC.l0])
          | succ k2 =>
            have H := HA.out
            clear HA
            simp only [leap_Table_UTC.l0] at H
            by_cases c6 : x8_2 ≤ (wrap64 ((wrap64 ((wrap64 (Int.tdiv (wrap64 ((wrap64 (a1 + 371085174374400)) - 10000)) 86400)) - 4294967296)) + 2))
            · rw [if_pos c6] at H
              have c6b0 : decide (x8_2 ≤ (wrap64 ((wrap64 ((wrap64 (Int.tdiv (wrap64 ((wrap64 (a1 + 371085174374400)) - 10000)) 86400)) - 4294967296)) + 2))) = true := decide_eq_true c6
              clear c6
              replace H := Option.bind_eq_some_iff.mp H
              obtain ⟨⟨t173, t174, t175⟩, A70, H⟩ := H
              replace H : ((leap_Table_begin.f k2 t175 s0_1 x8_2).bind fun bt176 => (if t174 = 0 then (if (wrap64 (a1 - bt176.1)) ≥ 0 then (leap_Table_UTC.j2 k2 a1 (wrap64 ((wrap64 (Int.tdiv (wrap64 ((wrap64 (a1 + 371085174374400)) - 10000)) 86400)) - 4294967296)) x8_2 (wrap64 (a1 - bt176.1)) (decide ((wrap64 (a1 - bt176.1)) < t173)) bt176.2 s0_1) else (leap_Table_UTC.j2 k2 a1 (wrap64 ((wrap64 (Int.tdiv (wrap64 ((wrap64 (a1 + 371085174374400)) - 10000)) 86400)) - 4294967296)) x8_2 (wrap64 (a1 - bt176.1)) false bt176.2 s0_1)) else (leap_Table_UTC.j2 k2 a1 (wrap64 ((wrap64 (Int.tdiv (wrap64 ((wrap64 (a1 + 371085174374400)) - 10000)) 86400)) - 4294967296)) x8_2 (wrap64 (a1 - bt176.1)) false bt176.2 s0_1))) = some (r1, r2, r3, r4) := H
              have A7 := Aside0.mk A70
              clear A70
              replace H := Option.bind_eq_some_iff.mp H
              obtain ⟨⟨t176, t177⟩, A80, H⟩ := H
              replace H : (if t174 = 0 then (if (wrap64 (a1 - t176)) ≥ 0 then (leap_Table_UTC.j2 k2 a1 (wrap64 ((wrap64 (Int.tdiv (wrap64 ((wrap64 (a1 + 371085174374400)) - 10000)) 86400)) - 4294967296)) x8_2 (wrap64 (a1 - t176)) (decide ((wrap64 (a1 - t176)) < t173)) t177 s0_1) else (leap_Table_UTC.j2 k2 a1 (wrap64 ((wrap64 (Int.tdiv (wrap64 ((wrap64 (a1 + 371085174374400)) - 10000)) 86400)) - 4294967296)) x8_2 (wrap64 (a1 - t176)) false t177 s0_1)) else (leap_Table_UTC.j2 k2 a1 (wrap64 ((wrap64 (Int.tdiv (wrap64 ((wrap64 (a1 + 371085174374400)) - 10000)) 86400)) - 4294967296)) x8_2 (wrap64 (a1 - t176)) false t177 s0_1)) = some (r1, r2, r3, r4) := H
              have A8 := Aside0.mk A80
              clear A80
              have HC9 := Aside0.mk H
              clear H
              go_upto_region 9 with (first | ((with_reducible refine gate_callee (f := 13) rfl ?_); refine goesL_ (some 34) rfl rfl Tryd.func13 (by kernel_rfl) rfl #[.pointer (some ⟨g, 0, none⟩), .int .i64 x8_2] rfl (by (try simp only [List.map_toArray, List.map_cons, List.map_nil]); first | done | rfl | (simp only [List.length_drop, List.length_take]; rfl)) ?_; (with_reducible refine (leap_Table_Length.calls k2 g x1000_2 s0_1 x8_2 t173 t174 t175 w0 _ ?side1 ?side2 A7.out).mono ?_); (case side1 => repeat (first | (with_reducible first | exact HI0.out | apply IsS50.alloc | apply IsS50.drewN | apply IsS50.drew | apply IsS50.set_0) | exact HI0.out)); (case side2 => repeat (first | (with_reducible first | exact HB.out | apply below_alloc | apply pw_below_drewN | apply below_drew1) | exact HB.out)); rintro e w10 ⟨rfl, hi, hb, hk⟩; refine ⟨_, rfl, ?_⟩; have n0_ := Aside0.mk (KeepBut.trans (by repeat (first | (with_reducible first | exact HK.out | apply KeepBut.set_ | apply keep_drewN | apply keep_drew | apply keep_alloc) | exact HK.out)) hk (.inl rfl)); have n1_ := Aside0.mk (hb); have n2_ := Aside0.mk (hi); clear HK; clear HB; clear HI0; have HK := n0_; have HB := n1_; have HI0 := n2_; clear n0_ n1_ n2_; (try clear hb); (try clear hb2); (try clear hk); (try clear hi)) | ((with_reducible refine gate_callee (f := 24) rfl ?_); refine goesL_ (some 40) rfl rfl Tryd.func24 (by kernel_rfl) rfl #[.pointer (some ⟨g, 0, none⟩), .int .i64 x8_2] rfl (by (try simp only [List.map_toArray, List.map_cons, List.map_nil]); first | done | rfl | (simp only [List.length_drop, List.length_take]; rfl)) ?_; (with_reducible refine (leap_Table_begin.calls k2 g t175 s0_1 x8_2 t176 t177 w0 _ ?side1 ?side2 A8.out).mono ?_); (case side1 => repeat (first | (with_reducible first | exact HI0.out | apply IsS50.alloc | apply IsS50.drewN | apply IsS50.drew | apply IsS50.set_0) | exact HI0.out)); (case side2 => repeat (first | (with_reducible first | exact HB.out | apply below_alloc | apply pw_below_drewN | apply below_drew1) | exact HB.out)); rintro e w11 ⟨rfl, hi, hb, hk⟩; refine ⟨_, rfl, ?_⟩; have n0_ := Aside0.mk (KeepBut.trans (by repeat (first | (with_reducible first | exact HK.out | apply KeepBut.set_ | apply keep_drewN | apply keep_drew | apply keep_alloc) | exact HK.out)) hk (.inl rfl)); have n1_ := Aside0.mk (hb); have n2_ := Aside0.mk (hi); clear HK; clear HB; clear HI0; have HK := n0_; have HB := n1_; have HI0 := n2_; clear n0_ n1_ n2_; (try clear hb); (try clear hb2); (try clear hk); (try clear hi)))
              (try simp only [Act.put, List.setIfInBounds_toArray, List.set_cons_zero, List.set_cons_succ])
              go_cut [52] (fun v52 wc => ∃ (kq : Nat) (x52_8 : Bool), v52 = .bool x52_8 ∧ Aside0 (leap_Table_UTC.j2 kq a1 (wrap64 ((wrap64 (Int.tdiv (wrap64 ((wrap64 (a1 + 371085174374400)) - 10000)) 86400)) - 4294967296)) x8_2 (wrap64 (a1 - t176)) x52_8 t177 s0_1 = some (r1, r2, r3, r4)) ∧ Aside0 (kq ≤ k2) ∧ Aside0 (IsS50 w0 wc g t177 s0_1) ∧ Aside0 (KeepBut w wc g none) ∧ Aside0 (Below w0.heap.size w0 wc))
              case first =>
                have H := HC9.out
                clear HC9
                by_cases c12 : t174 = 0
                · rw [if_pos c12] at H
                  have c12b0 : (t174 == 0) = true := beq_iff_eq.mpr c12
                  have c12b1 : (t174 != 0) = false := bne_eq_false_iff_eq.mpr c12
                  clear c12
                  (first | rw [c12b0] | (simp only [i64_w, i32_w]; rw [c12b0]) | skip)
                  by_cases c13 : (wrap64 (a1 - t176)) ≥ 0
                  · rw [if_pos c13] at H
                    have c13b0 : decide (0 ≤ (wrap64 (a1 - t176))) = true := decide_eq_true c13
                    clear c13
                    have H' := Aside0.mk H
                    clear H
                    go_wp2
                    go_meet
                    case rel => exact ⟨_, (decide ((wrap64 (a1 - t176)) < t173)), (by first | rfl | (simp; done) | (simp [*]; done)), H', ⟨by have := HJ2.out; have := HK2.out; first | omega | exact Nat.le_refl _⟩, ⟨by repeat (first | (with_reducible first | exact HI0.out | apply IsS50.alloc | apply IsS50.drewN | apply IsS50.drew | apply IsS50.set_0) | exact HI0.out)⟩, ⟨by repeat (first | (with_reducible first | exact HK.out | apply KeepBut.set_ | apply keep_drewN | apply keep_drew | apply keep_alloc) | exact HK.out)⟩, ⟨by repeat (first | (with_reducible first | exact HB.out | apply below_alloc | apply pw_below_drewN | apply below_drew1) | exact HB.out)⟩⟩
                  · rw [if_neg c13] at H
                    have c13b0 : decide (0 ≤ (wrap64 (a1 - t176))) = false := decide_eq_false c13
                    clear c13
                    have H' := Aside0.mk H
                    clear H
                    go_wp2
                    go_meet
                    case rel => exact ⟨_, (false), (by first | rfl | (simp; done) | (simp [*]; done)), H', ⟨by have := HJ2.out; have := HK2.out; first | omega | exact Nat.le_refl _⟩, ⟨by repeat (first | (with_reducible first | exact HI0.out | apply IsS50.alloc | apply IsS50.drewN | apply IsS50.drew | apply IsS50.set_0) | exact HI0.out)⟩, ⟨by repeat (first | (with_reducible first | exact HK.out | apply KeepBut.set_ | apply keep_drewN | apply keep_drew | apply keep_alloc) | exact HK.out)⟩, ⟨by repeat (first | (with_reducible first | exact HB.out | apply below_alloc | apply pw_below_drewN | apply below_drew1) | exact HB.out)⟩⟩
                · rw [if_neg c12] at H
                  have c12b0 : (t174 == 0) = false := beq_eq_false_iff_ne.mpr c12
                  have c12b1 : (t174 != 0) = true := bne_iff_ne.mpr c12
                  (first | rw [c12b0] | (simp only [i64_w, i32_w]; rw [c12b0]) | skip)
                  have H' := Aside0.mk H
                  clear H
                  go_wp2
                  go_meet
                  case rel => exact ⟨_, (false), (by first | rfl | (simp; done) | (simp [*]; done)), H', ⟨by have := HJ2.out; have := HK2.out; first | omega | exact Nat.le_refl _⟩, ⟨by repeat (first | (with_reducible first | exact HI0.out | apply IsS50.alloc | apply IsS50.drewN | apply IsS50.drew | apply IsS50.set_0) | exact HI0.out)⟩, ⟨by repeat (first | (with_reducible first | exact HK.out | apply KeepBut.set_ | apply keep_drewN | apply keep_drew | apply keep_alloc) | exact HK.out)⟩, ⟨by repeat (first | (with_reducible first | exact HB.out | apply below_alloc | apply pw_below_drewN | apply below_drew1) | exact HB.out)⟩⟩
              case rest =>
                clear HC9
                try clear c1
                try clear c2
                try clear p2
                try clear c4
                try clear c4b0
                try clear c5
                try clear c6
                try clear c6b0
                try clear p6
                try clear c12
                try clear c12b0
                try clear c12b1
                try clear c13
                try clear c13b0
                try clear p2
                obtain ⟨kq, x52_8, rfl, HA, HJ8, HI0, HK, HB⟩ := hcut
                cases kq with
                | zero => exact absurd HA.out (by simp [leap_Table_UTC.j2])
                | succ kj8 =>
                  have H := HA.out
                  clear HA
                  simp only [leap_Table_UTC.j2] at H
                  by_cases c14 : x52_8 = true
                  · subst c14
                    have H1 : (some (x8_2, (wrap64 (a1 - t176)), 0, t177)) = some (r1, r2, r3, r4) := by rw [if_pos rfl] at H; exact H
                    clear H
                    have H := H1
                    clear H1
                    simp only [Option.some.injEq, Prod.mk.injEq] at H
                    obtain ⟨rfl, rfl, rfl, rfl⟩ := H
                    go_wp2
                    go_ret3
                    exact ⟨by first | rfl | (simp [errW_none, errW_some] <;> rfl) | (simp [*, errW_none, errW_some] <;> rfl), by repeat (first | (with_reducible first | exact HI0.out | apply IsS50.alloc | apply IsS50.drewN | apply IsS50.drew | apply IsS50.set_0) | exact HI0.out), by repeat (first | (with_reducible first | exact HB.out | apply below_alloc | apply pw_below_drewN | apply below_drew1) | exact HB.out), by repeat (first | (with_reducible first | exact HK.out | apply KeepBut.set_ | apply keep_drewN | apply keep_drew | apply keep_alloc) | exact HK.out)⟩
                  · replace c14 := Bool.eq_false_iff.mpr c14
                    subst c14
                    have H1 : (leap_Table_UTC.l0 kj8 a1 (wrap64 ((wrap64 (Int.tdiv (wrap64 ((wrap64 (a1 + 371085174374400)) - 10000)) 86400)) - 4294967296)) (wrap64 (x8_2 + 1)) t177 s0_1) = some (r1, r2, r3, r4) := by rw [if_neg (show ¬ (false = true) by decide)] at H; exact H
                    clear H
                    have H := H1
                    clear H1
                    have H' := Aside0.mk H
                    clear H
                    go_wp2
                    go_roundg kj8
                    case measure => have := HJ2.out; have := HK2.out; have := HJ8.out; omega
                    case rel => exact ⟨(wrap64 (x8_2 + 1)), (t177), (by first | rfl | (simp; done) | (simp [*]; done)), H', ⟨by have := HJ2.out; have := HK2.out; have := HJ8.out; omega⟩, ⟨by repeat (first | (with_reducible first | exact HI0.out | apply IsS50.alloc | apply IsS50.drewN | apply IsS50.drew | apply IsS50.set_0) | exact HI0.out)⟩, ⟨by repeat (first | (with_reducible first | exact HK.out | apply KeepBut.set_ | apply keep_drewN | apply keep_drew | apply keep_alloc) | exact HK.out)⟩, ⟨by repeat (first | (with_reducible first | exact HB.out | apply below_alloc | apply pw_below_drewN | apply below_drew1) | exact HB.out)⟩⟩
            · rw [if_neg c6] at H
              have c6b0 : decide (x8_2 ≤ (wrap64 ((wrap64 ((wrap64 (Int.tdiv (wrap64 ((wrap64 (a1 + 371085174374400)) - 10000)) 86400)) - 4294967296)) + 2))) = false := decide_eq_false c6
              clear c6
              simp only [Option.some.injEq, Prod.mk.injEq] at H
              obtain ⟨rfl, rfl, rfl, rfl⟩ := H
              go_wp2
              go_ret3
              exact ⟨by first | rfl | (simp [errW_none, errW_some] <;> rfl) | (simp [*, errW_none, errW_some] <;> rfl), by repeat (first | (with_reducible first | exact HI0.out | apply IsS50.alloc | apply IsS50.drewN | apply IsS50.drew | apply IsS50.set_0) | exact HI0.out), by repeat (first | (with_reducible first | exact HB.out | apply below_alloc | apply pw_below_drewN | apply below_drew1) | exact HB.out), by repeat (first | (with_reducible first | exact HK.out | apply KeepBut.set_ | apply keep_drewN | apply keep_drew | apply keep_alloc) | exact HK.out)⟩

end Go.Proofs.YthelnkmjhchmnaaDoor.QLeap
