/- What the Go functions compute: each as a Lean function, with the proof that its call answers so; written by a program of this session over the kit's print. Conditions: each theorem's own. -/
import Derived.Test.YthelnkmjhchmnaaDoorQLeapx0
import Derived.Test.YthelnkmjhchmnaaDoorQLeapx5
import Derived.Test.YthelnkmjhchmnaaDoorQLeapx6
import Derived.Test.YthelnkmjhchmnaaDoorQLeapx11
import Derived.Test.YthelnkmjhchmnaaDoorQLeapx12
import Derived.Test.YthelnkmjhchmnaaDoorQLeapx15
namespace Go.Proofs.YthelnkmjhchmnaaDoor.QLeap
open Go.RowKit Go.Proofs.YthelnkmjhchmnaaDoorW.PrintWords Go.Proofs.YthelnkmjhchmnaaDoorW.PrintLast Go.Proofs.YthelnkmjhchmnaaDoorW.PrintMore
attribute [local go_sem] max2_int min2_int max_two min_two max_three min_three max_four min_four   -- for this text's walks alone
set_option linter.unusedVariables false
set_option linter.unusedSimpArgs false

/-! ### leap_two: function 29 -/
def leap_two.f (a0 : Int) : Option (ByteArray) := (strconv_Itoa.f (wrap64 (Int.tdiv a0 10))).bind fun t178 => ((strconv_Itoa.f (Int.tmod a0 10)).bind fun t179 => (if t178.size + t179.size ≤ 9223372036854775807 then (some (t178 ++ t179)) else (none)))
set_option maxHeartbeats 8000000 in
set_option maxRecDepth 100000 in
theorem leap_two.calls (a0 : Int) (r : ByteArray) (w : World) (h : leap_two.f a0 = some r) :
    Calls Tryd.prog 29 #[.int .i64 a0] w fun e w' => e = .returned (.string r) ∧ Drawn0 w w' := by
  have H : ((strconv_Itoa.f (wrap64 (Int.tdiv a0 10))).bind fun t178 => ((strconv_Itoa.f (Int.tmod a0 10)).bind fun t179 => (if t178.size + t179.size ≤ 9223372036854775807 then (some (t178 ++ t179)) else (none)))) = some r := h
  clear h
  replace H := Option.bind_eq_some_iff.mp H
  obtain ⟨t178, A20, H⟩ := H
  replace H : ((strconv_Itoa.f (Int.tmod a0 10)).bind fun t179 => (if t178.size + t179.size ≤ 9223372036854775807 then (some (t178 ++ t179)) else (none))) = some r := H
  have A2 := Aside0.mk A20
  clear A20
  replace H := Option.bind_eq_some_iff.mp H
  obtain ⟨t179, A30, H⟩ := H
  replace H : (if t178.size + t179.size ≤ 9223372036854775807 then (some (t178 ++ t179)) else (none)) = some r := H
  have A3 := Aside0.mk A30
  clear A30
  by_cases c4 : t178.size + t179.size ≤ 9223372036854775807
  · rw [if_pos c4] at H
    have c4b0 := eq_true c4
    have c4b1 : decide (t178.size + t179.size ≤ 9223372036854775807) = true := decide_eq_true c4
    try have c4b2 : (9223372036854775807 < t178.size + t179.size) = False := eq_false (Nat.not_lt.2 c4)
    have c4s := c4
    try simp only [ByteArray.size_append, show (⟨#[84]⟩ : ByteArray).size = 1 from rfl, show (⟨#[58]⟩ : ByteArray).size = 1 from rfl] at c4s
    have c4n := eq_false (Nat.not_lt.2 c4s)
    obtain rfl := Option.some.inj H
    go_enter Tryd.func29, Tryd.ntmps29
    go_wp2_with (first | ((with_reducible refine gate_callee (f := 38) rfl ?_); refine goesL_ (some 5) rfl rfl Tryd.func38 (by kernel_rfl) rfl #[.int .i64 (wrap64 (Int.tdiv a0 10))] rfl (by (try simp only [List.map_toArray, List.map_cons, List.map_nil]); first | done | rfl | (simp only [List.length_drop, List.length_take]; rfl)) ?_; (with_reducible refine (strconv_Itoa.calls (wrap64 (Int.tdiv a0 10)) t178 _ A2.out).mono ?_); rintro e w' ⟨rfl, ⟨nd, rfl⟩⟩; refine ⟨_, rfl, ?_⟩) | ((with_reducible refine gate_callee (f := 38) rfl ?_); refine goesL_ (some 8) rfl rfl Tryd.func38 (by kernel_rfl) rfl #[.int .i64 (Int.tmod a0 10)] rfl (by (try simp only [List.map_toArray, List.map_cons, List.map_nil]); first | done | rfl | (simp only [List.length_drop, List.length_take]; rfl)) ?_; (with_reducible refine (strconv_Itoa.calls (Int.tmod a0 10) t179 _ A3.out).mono ?_); rintro e w' ⟨rfl, ⟨nd, rfl⟩⟩; refine ⟨_, rfl, ?_⟩))
    go_ret
    exact ⟨by first | rfl | (simp; done) | (simp [*]; done), by repeat (first | exact Drawn0.refl _ | apply Drawn0.step)⟩
  · rw [if_neg c4] at H
    exact absurd H (by simp)

/-! ### leap_Table_Clock: function 15 -/
def leap_Table_Clock.f (k : Nat) (s0_0 : ByteArray) (s0_1 : List (S52)) (a1 : Int) : Option (ByteArray × ByteArray) := (leap_Table_UTC.f k s0_0 s0_1 a1).bind fun bt180 => (if bt180.2.2.1 = 0 then ((civil_Of.f k bt180.1).bind fun bt184 => ((civil_Text.f k bt184.1 bt184.2.1 bt184.2.2.1).bind fun t189 => (if t189.size + 1 ≤ 9223372036854775807 then ((leap_two.f (wrap64 (Int.tdiv (mn (wrap64 (Int.tdiv bt180.2.1 60)) 1439) 60))).bind fun t190 => (if (t189 ++ (⟨#[84]⟩ : ByteArray)).size + t190.size ≤ 9223372036854775807 then (if ((t189 ++ (⟨#[84]⟩ : ByteArray)) ++ t190).size + 1 ≤ 9223372036854775807 then ((leap_two.f (Int.tmod (mn (wrap64 (Int.tdiv bt180.2.1 60)) 1439) 60)).bind fun t191 => (if (((t189 ++ (⟨#[84]⟩ : ByteArray)) ++ t190) ++ (⟨#[58]⟩ : ByteArray)).size + t191.size ≤ 9223372036854775807 then (if ((((t189 ++ (⟨#[84]⟩ : ByteArray)) ++ t190) ++ (⟨#[58]⟩ : ByteArray)) ++ t191).size + 1 ≤ 9223372036854775807 then ((leap_two.f (wrap64 (bt180.2.1 - (wrap64 ((mn (wrap64 (Int.tdiv bt180.2.1 60)) 1439) * 60))))).bind fun t192 => (if (((((t189 ++ (⟨#[84]⟩ : ByteArray)) ++ t190) ++ (⟨#[58]⟩ : ByteArray)) ++ t191) ++ (⟨#[58]⟩ : ByteArray)).size + t192.size ≤ 9223372036854775807 then (if ((((((t189 ++ (⟨#[84]⟩ : ByteArray)) ++ t190) ++ (⟨#[58]⟩ : ByteArray)) ++ t191) ++ (⟨#[58]⟩ : ByteArray)) ++ t192).size + 1 ≤ 9223372036854775807 then (some (((((((t189 ++ (⟨#[84]⟩ : ByteArray)) ++ t190) ++ (⟨#[58]⟩ : ByteArray)) ++ t191) ++ (⟨#[58]⟩ : ByteArray)) ++ t192) ++ (⟨#[90]⟩ : ByteArray), bt180.2.2.2)) else (none)) else (none))) else (none)) else (none))) else (none)) else (none))) else (none)))) else (some ((⟨#[]⟩ : ByteArray), bt180.2.2.2)))
theorem leap_Table_Clock.mono : ∀ a0 a1 a2 k, LeO (leap_Table_Clock.f k a0 a1 a2) (leap_Table_Clock.f (k + 1) a0 a1 a2) := by
  intro a0 a1 a2 k
  unfold leap_Table_Clock.f
  repeat' first
      | (with_reducible exact civil_Of.mono _ _)
      | (with_reducible exact civil_Text.mono _ _ _ _)
      | (with_reducible exact leap_Table_UTC.mono _ _ _ _)
      | (with_reducible exact LeO.refl _)
      | (with_reducible exact LeO.none _)
      | (with_reducible refine LeO.ite ?_ ?_)
      | (with_reducible refine LeO.bind ?_ (fun _ => ?_))
      | exact civil_Of.mono _ _
      | exact civil_Text.mono _ _ _ _
      | exact leap_Table_UTC.mono _ _ _ _
      | exact LeO.none _
      | refine LeO.ite ?_ ?_
      | refine LeO.bind ?_ (fun _ => ?_)
set_option maxHeartbeats 8000000 in
set_option maxRecDepth 100000 in
theorem leap_Table_Clock.calls (k : Nat) (g : Nat) (s0_0 : ByteArray) (s0_1 : List (S52)) (a1 : Int) (r1 : ByteArray) (r2 : ByteArray) (w0 w : World) (hI : IsS50 w0 w g s0_0 s0_1) (hB : Below w0.heap.size w0 w) (h : leap_Table_Clock.f k s0_0 s0_1 a1 = some (r1, r2)) :
    Calls Tryd.prog 15 #[.pointer (some ⟨g, 0, none⟩), .int .i64 a1] w fun e w' => e = .returned (.string r1) ∧ IsS50 w0 w' g r2 s0_1 ∧ Below w0.heap.size w0 w' ∧ KeepBut w w' g none := by
  have hu37 := Tryd.underlying37
  have HI0 := Aside0.mk hI
  have HK := Aside0.mk (KeepBut.refl w g none)
  have HL := Aside0.mk hB.size
  clear hI
  have HW0 := Aside0.mk hB.size
  have HB := Aside0.mk hB
  clear hB
  have H : ((leap_Table_UTC.f k s0_0 s0_1 a1).bind fun bt180 => (if bt180.2.2.1 = 0 then ((civil_Of.f k bt180.1).bind fun bt184 => ((civil_Text.f k bt184.1 bt184.2.1 bt184.2.2.1).bind fun t189 => (if t189.size + 1 ≤ 9223372036854775807 then ((leap_two.f (wrap64 (Int.tdiv (mn (wrap64 (Int.tdiv bt180.2.1 60)) 1439) 60))).bind fun t190 => (if (t189 ++ (⟨#[84]⟩ : ByteArray)).size + t190.size ≤ 9223372036854775807 then (if ((t189 ++ (⟨#[84]⟩ : ByteArray)) ++ t190).size + 1 ≤ 9223372036854775807 then ((leap_two.f (Int.tmod (mn (wrap64 (Int.tdiv bt180.2.1 60)) 1439) 60)).bind fun t191 => (if (((t189 ++ (⟨#[84]⟩ : ByteArray)) ++ t190) ++ (⟨#[58]⟩ : ByteArray)).size + t191.size ≤ 9223372036854775807 then (if ((((t189 ++ (⟨#[84]⟩ : ByteArray)) ++ t190) ++ (⟨#[58]⟩ : ByteArray)) ++ t191).size + 1 ≤ 9223372036854775807 then ((leap_two.f (wrap64 (bt180.2.1 - (wrap64 ((mn (wrap64 (Int.tdiv bt180.2.1 60)) 1439) * 60))))).bind fun t192 => (if (((((t189 ++ (⟨#[84]⟩ : ByteArray)) ++ t190) ++ (⟨#[58]⟩ : ByteArray)) ++ t191) ++ (⟨#[58]⟩ : ByteArray)).size + t192.size ≤ 9223372036854775807 then (if ((((((t189 ++ (⟨#[84]⟩ : ByteArray)) ++ t190) ++ (⟨#[58]⟩ : ByteArray)) ++ t191) ++ (⟨#[58]⟩ : ByteArray)) ++ t192).size + 1 ≤ 9223372036854775807 then (some (((((((t189 ++ (⟨#[84]⟩ : ByteArray)) ++ t190) ++ (⟨#[58]⟩ : ByteArray)) ++ t191) ++ (⟨#[58]⟩ : ByteArray)) ++ t192) ++ (⟨#[90]⟩ : ByteArray), bt180.2.2.2)) else (none)) else (none))) else (none)) else (none))) else (none)) else (none))) else (none)))) else (some ((⟨#[]⟩ : ByteArray), bt180.2.2.2)))) = some (r1, r2) := h
  clear h
  replace H := Option.bind_eq_some_iff.mp H
  obtain ⟨⟨t180, t181, t182, t183⟩, A30, H⟩ := H
  replace H : (if t182 = 0 then ((civil_Of.f k t180).bind fun bt184 => ((civil_Text.f k bt184.1 bt184.2.1 bt184.2.2.1).bind fun t189 => (if t189.size + 1 ≤ 9223372036854775807 then ((leap_two.f (wrap64 (Int.tdiv (mn (wrap64 (Int.tdiv t181 60)) 1439) 60))).bind fun t190 => (if (t189 ++ (⟨#[84]⟩ : ByteArray)).size + t190.size ≤ 9223372036854775807 then (if ((t189 ++ (⟨#[84]⟩ : ByteArray)) ++ t190).size + 1 ≤ 9223372036854775807 then ((leap_two.f (Int.tmod (mn (wrap64 (Int.tdiv t181 60)) 1439) 60)).bind fun t191 => (if (((t189 ++ (⟨#[84]⟩ : ByteArray)) ++ t190) ++ (⟨#[58]⟩ : ByteArray)).size + t191.size ≤ 9223372036854775807 then (if ((((t189 ++ (⟨#[84]⟩ : ByteArray)) ++ t190) ++ (⟨#[58]⟩ : ByteArray)) ++ t191).size + 1 ≤ 9223372036854775807 then ((leap_two.f (wrap64 (t181 - (wrap64 ((mn (wrap64 (Int.tdiv t181 60)) 1439) * 60))))).bind fun t192 => (if (((((t189 ++ (⟨#[84]⟩ : ByteArray)) ++ t190) ++ (⟨#[58]⟩ : ByteArray)) ++ t191) ++ (⟨#[58]⟩ : ByteArray)).size + t192.size ≤ 9223372036854775807 then (if ((((((t189 ++ (⟨#[84]⟩ : ByteArray)) ++ t190) ++ (⟨#[58]⟩ : ByteArray)) ++ t191) ++ (⟨#[58]⟩ : ByteArray)) ++ t192).size + 1 ≤ 9223372036854775807 then (some (((((((t189 ++ (⟨#[84]⟩ : ByteArray)) ++ t190) ++ (⟨#[58]⟩ : ByteArray)) ++ t191) ++ (⟨#[58]⟩ : ByteArray)) ++ t192) ++ (⟨#[90]⟩ : ByteArray), t183)) else (none)) else (none))) else (none)) else (none))) else (none)) else (none))) else (none)))) else (some ((⟨#[]⟩ : ByteArray), t183))) = some (r1, r2) := H
  have A3 := Aside0.mk A30
  clear A30
  by_cases c4 : t182 = 0
  · rw [if_pos c4] at H
    have c4b0 : (t182 == 0) = true := beq_iff_eq.mpr c4
    have c4b1 : (t182 != 0) = false := bne_eq_false_iff_eq.mpr c4
    clear c4
    replace H := Option.bind_eq_some_iff.mp H
    obtain ⟨⟨t184, t185, t186, t187⟩, A50, H⟩ := H
    replace H : ((civil_Text.f k t184 t185 t186).bind fun t189 => (if t189.size + 1 ≤ 9223372036854775807 then ((leap_two.f (wrap64 (Int.tdiv (mn (wrap64 (Int.tdiv t181 60)) 1439) 60))).bind fun t190 => (if (t189 ++ (⟨#[84]⟩ : ByteArray)).size + t190.size ≤ 9223372036854775807 then (if ((t189 ++ (⟨#[84]⟩ : ByteArray)) ++ t190).size + 1 ≤ 9223372036854775807 then ((leap_two.f (Int.tmod (mn (wrap64 (Int.tdiv t181 60)) 1439) 60)).bind fun t191 => (if (((t189 ++ (⟨#[84]⟩ : ByteArray)) ++ t190) ++ (⟨#[58]⟩ : ByteArray)).size + t191.size ≤ 9223372036854775807 then (if ((((t189 ++ (⟨#[84]⟩ : ByteArray)) ++ t190) ++ (⟨#[58]⟩ : ByteArray)) ++ t191).size + 1 ≤ 9223372036854775807 then ((leap_two.f (wrap64 (t181 - (wrap64 ((mn (wrap64 (Int.tdiv t181 60)) 1439) * 60))))).bind fun t192 => (if (((((t189 ++ (⟨#[84]⟩ : ByteArray)) ++ t190) ++ (⟨#[58]⟩ : ByteArray)) ++ t191) ++ (⟨#[58]⟩ : ByteArray)).size + t192.size ≤ 9223372036854775807 then (if ((((((t189 ++ (⟨#[84]⟩ : ByteArray)) ++ t190) ++ (⟨#[58]⟩ : ByteArray)) ++ t191) ++ (⟨#[58]⟩ : ByteArray)) ++ t192).size + 1 ≤ 9223372036854775807 then (some (((((((t189 ++ (⟨#[84]⟩ : ByteArray)) ++ t190) ++ (⟨#[58]⟩ : ByteArray)) ++ t191) ++ (⟨#[58]⟩ : ByteArray)) ++ t192) ++ (⟨#[90]⟩ : ByteArray), t183)) else (none)) else (none))) else (none)) else (none))) else (none)) else (none))) else (none))) = some (r1, r2) := H
    have A5 := Aside0.mk A50
    clear A50
    obtain ⟨ji6, hji6⟩ : ∃ j_ : Int, (mn (wrap64 (Int.tdiv t181 60)) 1439) = j_ := ⟨_, rfl⟩
    replace H : ((civil_Text.f k t184 t185 t186).bind fun t189 => (if t189.size + 1 ≤ 9223372036854775807 then ((leap_two.f (wrap64 (Int.tdiv (ji6) 60))).bind fun t190 => (if (t189 ++ (⟨#[84]⟩ : ByteArray)).size + t190.size ≤ 9223372036854775807 then (if ((t189 ++ (⟨#[84]⟩ : ByteArray)) ++ t190).size + 1 ≤ 9223372036854775807 then ((leap_two.f (Int.tmod (ji6) 60)).bind fun t191 => (if (((t189 ++ (⟨#[84]⟩ : ByteArray)) ++ t190) ++ (⟨#[58]⟩ : ByteArray)).size + t191.size ≤ 9223372036854775807 then (if ((((t189 ++ (⟨#[84]⟩ : ByteArray)) ++ t190) ++ (⟨#[58]⟩ : ByteArray)) ++ t191).size + 1 ≤ 9223372036854775807 then ((leap_two.f (wrap64 (t181 - (wrap64 ((ji6) * 60))))).bind fun t192 => (if (((((t189 ++ (⟨#[84]⟩ : ByteArray)) ++ t190) ++ (⟨#[58]⟩ : ByteArray)) ++ t191) ++ (⟨#[58]⟩ : ByteArray)).size + t192.size ≤ 9223372036854775807 then (if ((((((t189 ++ (⟨#[84]⟩ : ByteArray)) ++ t190) ++ (⟨#[58]⟩ : ByteArray)) ++ t191) ++ (⟨#[58]⟩ : ByteArray)) ++ t192).size + 1 ≤ 9223372036854775807 then (some (((((((t189 ++ (⟨#[84]⟩ : ByteArray)) ++ t190) ++ (⟨#[58]⟩ : ByteArray)) ++ t191) ++ (⟨#[58]⟩ : ByteArray)) ++ t192) ++ (⟨#[90]⟩ : ByteArray), t183)) else (none)) else (none))) else (none)) else (none))) else (none)) else (none))) else (none))) = some (r1, r2) := by first | (rw [hji6] at H; exact H) | (simp only [hji6] at H ⊢; exact H)
    (try rw [hji6] at A3)
    (try rw [hji6] at A5)
    (try (have hji6h : ji6 ≤ 1439 := by (rw [← hji6]; unfold mn; (repeat' split) <;> omega)))
    (try (have hji6g : ji6 ≤ 64 := by omega))
    have hji6_ : (if 1439 < (wrap64 (Int.tdiv t181 60)) then 1439 else (wrap64 (Int.tdiv t181 60))) = ji6 := hji6
    replace H := Option.bind_eq_some_iff.mp H
    obtain ⟨t189, A70, H⟩ := H
    replace H : (if t189.size + 1 ≤ 9223372036854775807 then ((leap_two.f (wrap64 (Int.tdiv (ji6) 60))).bind fun t190 => (if (t189 ++ (⟨#[84]⟩ : ByteArray)).size + t190.size ≤ 9223372036854775807 then (if ((t189 ++ (⟨#[84]⟩ : ByteArray)) ++ t190).size + 1 ≤ 9223372036854775807 then ((leap_two.f (Int.tmod (ji6) 60)).bind fun t191 => (if (((t189 ++ (⟨#[84]⟩ : ByteArray)) ++ t190) ++ (⟨#[58]⟩ : ByteArray)).size + t191.size ≤ 9223372036854775807 then (if ((((t189 ++ (⟨#[84]⟩ : ByteArray)) ++ t190) ++ (⟨#[58]⟩ : ByteArray)) ++ t191).size + 1 ≤ 9223372036854775807 then ((leap_two.f (wrap64 (t181 - (wrap64 ((ji6) * 60))))).bind fun t192 => (if (((((t189 ++ (⟨#[84]⟩ : ByteArray)) ++ t190) ++ (⟨#[58]⟩ : ByteArray)) ++ t191) ++ (⟨#[58]⟩ : ByteArray)).size + t192.size ≤ 9223372036854775807 then (if ((((((t189 ++ (⟨#[84]⟩ : ByteArray)) ++ t190) ++ (⟨#[58]⟩ : ByteArray)) ++ t191) ++ (⟨#[58]⟩ : ByteArray)) ++ t192).size + 1 ≤ 9223372036854775807 then (some (((((((t189 ++ (⟨#[84]⟩ : ByteArray)) ++ t190) ++ (⟨#[58]⟩ : ByteArray)) ++ t191) ++ (⟨#[58]⟩ : ByteArray)) ++ t192) ++ (⟨#[90]⟩ : ByteArray), t183)) else (none)) else (none))) else (none)) else (none))) else (none)) else (none))) else (none)) = some (r1, r2) := H
    have A7 := Aside0.mk A70
    clear A70
    by_cases c8 : t189.size + 1 ≤ 9223372036854775807
    · rw [if_pos c8] at H
      have c8b0 := eq_true c8
      have c8b1 : decide (t189.size + 1 ≤ 9223372036854775807) = true := decide_eq_true c8
      try have c8b2 : (9223372036854775807 < t189.size + 1) = False := eq_false (Nat.not_lt.2 c8)
      have c8s := c8
      try simp only [ByteArray.size_append, show (⟨#[84]⟩ : ByteArray).size = 1 from rfl, show (⟨#[58]⟩ : ByteArray).size = 1 from rfl] at c8s
      have c8n := eq_false (Nat.not_lt.2 c8s)
      replace H := Option.bind_eq_some_iff.mp H
      obtain ⟨t190, A90, H⟩ := H
      replace H : (if (t189 ++ (⟨#[84]⟩ : ByteArray)).size + t190.size ≤ 9223372036854775807 then (if ((t189 ++ (⟨#[84]⟩ : ByteArray)) ++ t190).size + 1 ≤ 9223372036854775807 then ((leap_two.f (Int.tmod (ji6) 60)).bind fun t191 => (if (((t189 ++ (⟨#[84]⟩ : ByteArray)) ++ t190) ++ (⟨#[58]⟩ : ByteArray)).size + t191.size ≤ 9223372036854775807 then (if ((((t189 ++ (⟨#[84]⟩ : ByteArray)) ++ t190) ++ (⟨#[58]⟩ : ByteArray)) ++ t191).size + 1 ≤ 9223372036854775807 then ((leap_two.f (wrap64 (t181 - (wrap64 ((ji6) * 60))))).bind fun t192 => (if (((((t189 ++ (⟨#[84]⟩ : ByteArray)) ++ t190) ++ (⟨#[58]⟩ : ByteArray)) ++ t191) ++ (⟨#[58]⟩ : ByteArray)).size + t192.size ≤ 9223372036854775807 then (if ((((((t189 ++ (⟨#[84]⟩ : ByteArray)) ++ t190) ++ (⟨#[58]⟩ : ByteArray)) ++ t191) ++ (⟨#[58]⟩ : ByteArray)) ++ t192).size + 1 ≤ 9223372036854775807 then (some (((((((t189 ++ (⟨#[84]⟩ : ByteArray)) ++ t190) ++ (⟨#[58]⟩ : ByteArray)) ++ t191) ++ (⟨#[58]⟩ : ByteArray)) ++ t192) ++ (⟨#[90]⟩ : ByteArray), t183)) else (none)) else (none))) else (none)) else (none))) else (none)) else (none)) = some (r1, r2) := H
      have A9 := Aside0.mk A90
      clear A90
      by_cases c10 : (t189 ++ (⟨#[84]⟩ : ByteArray)).size + t190.size ≤ 9223372036854775807
      · rw [if_pos c10] at H
        have c10b0 := eq_true c10
        have c10b1 : decide ((t189 ++ (⟨#[84]⟩ : ByteArray)).size + t190.size ≤ 9223372036854775807) = true := decide_eq_true c10
        try have c10b2 : (9223372036854775807 < (t189 ++ (⟨#[84]⟩ : ByteArray)).size + t190.size) = False := eq_false (Nat.not_lt.2 c10)
        have c10s := c10
        try simp only [ByteArray.size_append, show (⟨#[84]⟩ : ByteArray).size = 1 from rfl, show (⟨#[58]⟩ : ByteArray).size = 1 from rfl] at c10s
        have c10n := eq_false (Nat.not_lt.2 c10s)
        by_cases c11 : ((t189 ++ (⟨#[84]⟩ : ByteArray)) ++ t190).size + 1 ≤ 9223372036854775807
        · rw [if_pos c11] at H
          have c11b0 := eq_true c11
          have c11b1 : decide (((t189 ++ (⟨#[84]⟩ : ByteArray)) ++ t190).size + 1 ≤ 9223372036854775807) = true := decide_eq_true c11
          try have c11b2 : (9223372036854775807 < ((t189 ++ (⟨#[84]⟩ : ByteArray)) ++ t190).size + 1) = False := eq_false (Nat.not_lt.2 c11)
          have c11s := c11
          try simp only [ByteArray.size_append, show (⟨#[84]⟩ : ByteArray).size = 1 from rfl, show (⟨#[58]⟩ : ByteArray).size = 1 from rfl] at c11s
          have c11n := eq_false (Nat.not_lt.2 c11s)
          replace H := Option.bind_eq_some_iff.mp H
          obtain ⟨t191, A120, H⟩ := H
          replace H : (if (((t189 ++ (⟨#[84]⟩ : ByteArray)) ++ t190) ++ (⟨#[58]⟩ : ByteArray)).size + t191.size ≤ 9223372036854775807 then (if ((((t189 ++ (⟨#[84]⟩ : ByteArray)) ++ t190) ++ (⟨#[58]⟩ : ByteArray)) ++ t191).size + 1 ≤ 9223372036854775807 then ((leap_two.f (wrap64 (t181 - (wrap64 ((ji6) * 60))))).bind fun t192 => (if (((((t189 ++ (⟨#[84]⟩ : ByteArray)) ++ t190) ++ (⟨#[58]⟩ : ByteArray)) ++ t191) ++ (⟨#[58]⟩ : ByteArray)).size + t192.size ≤ 9223372036854775807 then (if ((((((t189 ++ (⟨#[84]⟩ : ByteArray)) ++ t190) ++ (⟨#[58]⟩ : ByteArray)) ++ t191) ++ (⟨#[58]⟩ : ByteArray)) ++ t192).size + 1 ≤ 9223372036854775807 then (some (((((((t189 ++ (⟨#[84]⟩ : ByteArray)) ++ t190) ++ (⟨#[58]⟩ : ByteArray)) ++ t191) ++ (⟨#[58]⟩ : ByteArray)) ++ t192) ++ (⟨#[90]⟩ : ByteArray), t183)) else (none)) else (none))) else (none)) else (none)) = some (r1, r2) := H
          have A12 := Aside0.mk A120
          clear A120
          by_cases c13 : (((t189 ++ (⟨#[84]⟩ : ByteArray)) ++ t190) ++ (⟨#[58]⟩ : ByteArray)).size + t191.size ≤ 9223372036854775807
          · rw [if_pos c13] at H
            have c13b0 := eq_true c13
            have c13b1 : decide ((((t189 ++ (⟨#[84]⟩ : ByteArray)) ++ t190) ++ (⟨#[58]⟩ : ByteArray)).size + t191.size ≤ 9223372036854775807) = true := decide_eq_true c13
            try have c13b2 : (9223372036854775807 < (((t189 ++ (⟨#[84]⟩ : ByteArray)) ++ t190) ++ (⟨#[58]⟩ : ByteArray)).size + t191.size) = False := eq_false (Nat.not_lt.2 c13)
            have c13s := c13
            try simp only [ByteArray.size_append, show (⟨#[84]⟩ : ByteArray).size = 1 from rfl, show (⟨#[58]⟩ : ByteArray).size = 1 from rfl] at c13s
            have c13n := eq_false (Nat.not_lt.2 c13s)
            by_cases c14 : ((((t189 ++ (⟨#[84]⟩ : ByteArray)) ++ t190) ++ (⟨#[58]⟩ : ByteArray)) ++ t191).size + 1 ≤ 9223372036854775807
            · rw [if_pos c14] at H
              have c14b0 := eq_true c14
              have c14b1 : decide (((((t189 ++ (⟨#[84]⟩ : ByteArray)) ++ t190) ++ (⟨#[58]⟩ : ByteArray)) ++ t191).size + 1 ≤ 9223372036854775807) = true := decide_eq_true c14
              try have c14b2 : (9223372036854775807 < ((((t189 ++ (⟨#[84]⟩ : ByteArray)) ++ t190) ++ (⟨#[58]⟩ : ByteArray)) ++ t191).size + 1) = False := eq_false (Nat.not_lt.2 c14)
              have c14s := c14
              try simp only [ByteArray.size_append, show (⟨#[84]⟩ : ByteArray).size = 1 from rfl, show (⟨#[58]⟩ : ByteArray).size = 1 from rfl] at c14s
              have c14n := eq_false (Nat.not_lt.2 c14s)
              replace H := Option.bind_eq_some_iff.mp H
              obtain ⟨t192, A150, H⟩ := H
              replace H : (if (((((t189 ++ (⟨#[84]⟩ : ByteArray)) ++ t190) ++ (⟨#[58]⟩ : ByteArray)) ++ t191) ++ (⟨#[58]⟩ : ByteArray)).size + t192.size ≤ 9223372036854775807 then (if ((((((t189 ++ (⟨#[84]⟩ : ByteArray)) ++ t190) ++ (⟨#[58]⟩ : ByteArray)) ++ t191) ++ (⟨#[58]⟩ : ByteArray)) ++ t192).size + 1 ≤ 9223372036854775807 then (some (((((((t189 ++ (⟨#[84]⟩ : ByteArray)) ++ t190) ++ (⟨#[58]⟩ : ByteArray)) ++ t191) ++ (⟨#[58]⟩ : ByteArray)) ++ t192) ++ (⟨#[90]⟩ : ByteArray), t183)) else (none)) else (none)) = some (r1, r2) := H
              have A15 := Aside0.mk A150
              clear A150
              by_cases c16 : (((((t189 ++ (⟨#[84]⟩ : ByteArray)) ++ t190) ++ (⟨#[58]⟩ : ByteArray)) ++ t191) ++ (⟨#[58]⟩ : ByteArray)).size + t192.size ≤ 9223372036854775807
              · rw [if_pos c16] at H
                have c16b0 := eq_true c16
                have c16b1 : decide ((((((t189 ++ (⟨#[84]⟩ : ByteArray)) ++ t190) ++ (⟨#[58]⟩ : ByteArray)) ++ t191) ++ (⟨#[58]⟩ : ByteArray)).size + t192.size ≤ 9223372036854775807) = true := decide_eq_true c16
                try have c16b2 : (9223372036854775807 < (((((t189 ++ (⟨#[84]⟩ : ByteArray)) ++ t190) ++ (⟨#[58]⟩ : ByteArray)) ++ t191) ++ (⟨#[58]⟩ : ByteArray)).size + t192.size) = False := eq_false (Nat.not_lt.2 c16)
                have c16s := c16
                try simp only [ByteArray.size_append, show (⟨#[84]⟩ : ByteArray).size = 1 from rfl, show (⟨#[58]⟩ : ByteArray).size = 1 from rfl] at c16s
                have c16n := eq_false (Nat.not_lt.2 c16s)
                by_cases c17 : ((((((t189 ++ (⟨#[84]⟩ : ByteArray)) ++ t190) ++ (⟨#[58]⟩ : ByteArray)) ++ t191) ++ (⟨#[58]⟩ : ByteArray)) ++ t192).size + 1 ≤ 9223372036854775807
                · rw [if_pos c17] at H
                  have c17b0 := eq_true c17
                  have c17b1 : decide (((((((t189 ++ (⟨#[84]⟩ : ByteArray)) ++ t190) ++ (⟨#[58]⟩ : ByteArray)) ++ t191) ++ (⟨#[58]⟩ : ByteArray)) ++ t192).size + 1 ≤ 9223372036854775807) = true := decide_eq_true c17
                  try have c17b2 : (9223372036854775807 < ((((((t189 ++ (⟨#[84]⟩ : ByteArray)) ++ t190) ++ (⟨#[58]⟩ : ByteArray)) ++ t191) ++ (⟨#[58]⟩ : ByteArray)) ++ t192).size + 1) = False := eq_false (Nat.not_lt.2 c17)
                  have c17s := c17
                  try simp only [ByteArray.size_append, show (⟨#[84]⟩ : ByteArray).size = 1 from rfl, show (⟨#[58]⟩ : ByteArray).size = 1 from rfl] at c17s
                  have c17n := eq_false (Nat.not_lt.2 c17s)
                  simp only [Option.some.injEq, Prod.mk.injEq] at H
                  obtain ⟨rfl, rfl⟩ := H
                  go_enter Tryd.func15, Tryd.ntmps15
                  go_wp2_with (first | ((with_reducible refine gate_callee (f := 12) rfl ?_); refine goesL_ (some 14) rfl rfl Tryd.func12 (by kernel_rfl) rfl #[.pointer (some ⟨g, 0, none⟩), .int .i64 a1] rfl (by (try simp only [List.map_toArray, List.map_cons, List.map_nil]); first | done | rfl | (simp only [List.length_drop, List.length_take]; rfl)) ?_; (with_reducible refine (leap_Table_UTC.calls k g s0_0 s0_1 a1 t180 t181 t182 t183 w0 _ ?side1 ?side2 A3.out).mono ?_); (case side1 => repeat (first | (with_reducible first | exact HI0.out | apply IsS50.alloc | apply IsS50.drewN | apply IsS50.drew | apply IsS50.set_0) | exact HI0.out)); (case side2 => repeat (first | (with_reducible first | exact HB.out | apply below_alloc | apply pw_below_drewN | apply below_drew1) | exact HB.out)); rintro e w18 ⟨rfl, hi, hb, hk⟩; refine ⟨_, rfl, ?_⟩; have n0_ := Aside0.mk (KeepBut.trans (by repeat (first | (with_reducible first | exact HK.out | apply KeepBut.set_ | apply keep_drewN | apply keep_drew | apply keep_alloc) | exact HK.out)) hk (.inl rfl)); have n1_ := Aside0.mk (hb); have n2_ := Aside0.mk (hi); clear HK; clear HB; clear HI0; have HK := n0_; have HB := n1_; have HI0 := n2_; clear n0_ n1_ n2_; (try clear hb); (try clear hb2); (try clear hk); (try clear hi)) | ((with_reducible refine gate_callee (f := 14) rfl ?_); refine goesL_ (some 22) rfl rfl Tryd.func14 (by kernel_rfl) rfl #[.int .i64 t180] rfl (by (try simp only [List.map_toArray, List.map_cons, List.map_nil]); first | done | rfl | (simp only [List.length_drop, List.length_take]; rfl)) ?_; (with_reducible refine (civil_Of.calls k t180 t184 t185 t186 t187 _ A5.out).mono ?_); rintro e w19 ⟨rfl, hb⟩; refine ⟨_, rfl, ?_⟩; have n0_ := Aside0.mk (IsS50.below (by repeat (first | (with_reducible first | exact HI0.out | apply IsS50.alloc | apply IsS50.drewN | apply IsS50.drew | apply IsS50.set_0) | exact HI0.out)) hb); have n1_ := Aside0.mk (KeepBut.trans (by repeat (first | (with_reducible first | exact HK.out | apply KeepBut.set_ | apply keep_drewN | apply keep_drew | apply keep_alloc) | exact HK.out)) (KeepBut.of_below hb g none) (.inl rfl)); have n2_ := Aside0.mk (below_step (by repeat (first | (with_reducible first | exact HB.out | apply below_alloc | apply pw_below_drewN | apply below_drew1) | exact HB.out)) hb); clear HI0; clear HK; clear HB; have HI0 := n0_; have HK := n1_; have HB := n2_; clear n0_ n1_ n2_; (try clear hb); (try clear hb2); (try clear hk); (try clear hi)) | ((with_reducible refine gate_dst (N := 8) rfl ?_); refine box_event ?hg (N := 8) ?hd (cs := #[.int .i64 0, .int .i64 0, .int .i64 0]) (t := 37) ?hr ?_; (case hd => rfl); (case hg => rfl); (case hr => first | (go_simp; done) | (go_simp; rfl)); intro gb188 hg w20 hbox hb; have n0_ := Aside0.mk (IsS50.below (by repeat (first | (with_reducible first | exact HI0.out | apply IsS50.alloc | apply IsS50.drewN | apply IsS50.drew | apply IsS50.set_0) | exact HI0.out)) hb); have n1_ := Aside0.mk (KeepBut.trans (by repeat (first | (with_reducible first | exact HK.out | apply KeepBut.set_ | apply keep_drewN | apply keep_drew | apply keep_alloc) | exact HK.out)) (KeepBut.of_below hb g none) (.inl rfl)); have n2_ := Aside0.mk (below_step (by repeat (first | (with_reducible first | exact HB.out | apply below_alloc | apply pw_below_drewN | apply below_drew1) | exact HB.out)) hb); have n3_ := Aside0.mk (hbox); have n4_ := Aside0.mk ((by rw [hg]; exact (keep_size (w := w) (g := g) (row := none) (by repeat (first | (with_reducible first | exact HK.out | apply KeepBut.set_ | apply keep_drewN | apply keep_drew | apply keep_alloc) | exact HK.out))) : w.heap.size ≤ gb188)); have n5_ := Aside0.mk ((Nat.le_trans HW0.out (by rw [hg]; exact (keep_size (w := w) (g := g) (row := none) (by repeat (first | (with_reducible first | exact HK.out | apply KeepBut.set_ | apply keep_drewN | apply keep_drew | apply keep_alloc) | exact HK.out))) : w.heap.size ≤ gb188) : w0.heap.size ≤ gb188)); have n6_ := Aside0.mk ((by rw [hg]; exact Nat.ne_of_lt (IsS50.lt (show IsS50 w0 _ g t183 s0_1 from by repeat (first | (with_reducible first | exact HI0.out | apply IsS50.alloc | apply IsS50.drewN | apply IsS50.drew | apply IsS50.set_0) | exact HI0.out))) : g ≠ gb188)); have n7_ := Aside0.mk ((by rw [hg]; exact Nat.ne_of_gt (IsS50.lt (show IsS50 w0 _ g t183 s0_1 from by repeat (first | (with_reducible first | exact HI0.out | apply IsS50.alloc | apply IsS50.drewN | apply IsS50.drew | apply IsS50.set_0) | exact HI0.out))) : gb188 ≠ g)); clear HI0; clear HK; clear HB; have HI0 := n0_; have HK := n1_; have HB := n2_; have BK188 := n3_; have GW188 := n4_; have GE188 := n5_; have NB0_188 := n6_; have NB188_0 := n7_; clear n0_ n1_ n2_ n3_ n4_ n5_ n6_ n7_; clear hb hbox hg; have hnb21 := NB188_0.out; have hnc21 := NB0_188.out; have hcz22_0 : w20.cell? ⟨gb188, 0, none⟩ = some (.int .i64 0) := (blk_cell BK188.out 0).trans rfl; have hcz22_1 : w20.cell? ⟨gb188, 1, none⟩ = some (.int .i64 0) := (blk_cell BK188.out 1).trans rfl; have hcz22_2 : w20.cell? ⟨gb188, 2, none⟩ = some (.int .i64 0) := (blk_cell BK188.out 2).trans rfl; have hfz22_0 := blk_frozen BK188.out 0; have hfz22_1 := blk_frozen BK188.out 1; have hfz22_2 := blk_frozen BK188.out 2) | ((with_reducible refine gate_callee (f := 16) rfl ?_); refine goesL_ (some 29) rfl rfl Tryd.func16 (by kernel_rfl) rfl #[.agg #[.int .i64 t184, .int .i64 t185, .int .i64 t186]] rfl (by (try simp only [List.map_toArray, List.map_cons, List.map_nil]); first | done | rfl | (simp only [List.length_drop, List.length_take]; rfl)) ?_; (with_reducible refine (civil_Text.calls k t184 t185 t186 t189 _ A7.out).mono ?_); rintro e w23 ⟨rfl, hb⟩; refine ⟨_, rfl, ?_⟩; have n0_ := Aside0.mk (IsS50.below (show IsS50 w0 (((w20.setCell ⟨gb188, 0, none⟩ (.int .i64 t184)).setCell ⟨gb188, 1, none⟩ (.int .i64 t185)).setCell ⟨gb188, 2, none⟩ (.int .i64 t186)) g t183 s0_1 from by repeat (first | (with_reducible first | exact HI0.out | apply IsS50.alloc | apply IsS50.drewN | apply IsS50.drew | apply IsS50.set_0 | refine IsS50.far ?_ NB0_188.out _) | exact HI0.out)) hb); have n1_ := Aside0.mk (blk_below (g := gb188) (o := .cells #[.int .i64 t184, .int .i64 t185, .int .i64 t186] 37 (0, 0)) (by (with_reducible repeat (first | refine blk_drewN ?_ _ | refine blk_drew ?_ | refine blk_alloc ?_ _)); refine blk_put (cs := #[.int .i64 t184, .int .i64 t185, .int .i64 0]) ?_ 2 _ rfl; (with_reducible repeat (first | refine blk_drewN ?_ _ | refine blk_drew ?_ | refine blk_alloc ?_ _)); refine blk_put (cs := #[.int .i64 t184, .int .i64 0, .int .i64 0]) ?_ 1 _ rfl; (with_reducible repeat (first | refine blk_drewN ?_ _ | refine blk_drew ?_ | refine blk_alloc ?_ _)); refine blk_put (cs := #[.int .i64 0, .int .i64 0, .int .i64 0]) ?_ 0 _ rfl; (with_reducible repeat (first | refine blk_drewN ?_ _ | refine blk_drew ?_ | refine blk_alloc ?_ _)); exact BK188.out) hb); have n2_ := Aside0.mk (KeepBut.trans (by repeat (first | (with_reducible first | exact HK.out | apply KeepBut.set_ | apply keep_drewN | apply keep_drew | apply keep_alloc | refine keep_far ?_ GW188.out _) | exact HK.out)) (KeepBut.of_below hb g none) (.inl rfl)); have n3_ := Aside0.mk (below_step (by repeat (first | (with_reducible first | exact HB.out | apply below_alloc | apply pw_below_drewN | apply below_drew1 | refine below_set ?_ GE188.out) | exact HB.out)) hb); clear HI0; clear BK188; clear HK; clear HB; have HI0 := n0_; have BK188 := n1_; have HK := n2_; have HB := n3_; clear n0_ n1_ n2_ n3_; (try clear hb); (try clear hb2); (try clear hk); (try clear hi)) | ((with_reducible refine gate_callee (f := 29) rfl ?_); refine goesL_ (some 33) rfl rfl Tryd.func29 (by kernel_rfl) rfl #[.int .i64 (wrap64 (Int.tdiv (ji6) 60))] rfl (by (try simp only [List.map_toArray, List.map_cons, List.map_nil]); first | done | (simp only [hji6]; rfl) | rfl | (simp only [List.length_drop, List.length_take]; rfl)) ?_; (with_reducible refine (leap_two.calls (wrap64 (Int.tdiv (ji6) 60)) t190 _ A9.out).mono ?_); rintro e w' ⟨rfl, ⟨nd, rfl⟩⟩; refine ⟨_, rfl, ?_⟩) | ((with_reducible refine gate_callee (f := 29) rfl ?_); refine goesL_ (some 38) rfl rfl Tryd.func29 (by kernel_rfl) rfl #[.int .i64 (Int.tmod (ji6) 60)] rfl (by (try simp only [List.map_toArray, List.map_cons, List.map_nil]); first | done | (simp only [hji6]; rfl) | rfl | (simp only [List.length_drop, List.length_take]; rfl)) ?_; (with_reducible refine (leap_two.calls (Int.tmod (ji6) 60) t191 _ A12.out).mono ?_); rintro e w' ⟨rfl, ⟨nd, rfl⟩⟩; refine ⟨_, rfl, ?_⟩) | ((with_reducible refine gate_callee (f := 29) rfl ?_); refine goesL_ (some 45) rfl rfl Tryd.func29 (by kernel_rfl) rfl #[.int .i64 (wrap64 (t181 - (wrap64 ((ji6) * 60))))] rfl (by (try simp only [List.map_toArray, List.map_cons, List.map_nil]); first | done | (simp only [hji6]; rfl) | rfl | (simp only [List.length_drop, List.length_take]; rfl)) ?_; (with_reducible refine (leap_two.calls (wrap64 (t181 - (wrap64 ((ji6) * 60)))) t192 _ A15.out).mono ?_); rintro e w' ⟨rfl, ⟨nd, rfl⟩⟩; refine ⟨_, rfl, ?_⟩))
                  go_ret
                  exact ⟨by first | rfl | (simp [errW_none, errW_some] <;> rfl) | (simp only [← hji6]; first | rfl | (simp [errW_none, errW_some] <;> rfl)) | (simp [*, errW_none, errW_some] <;> rfl), by repeat (first | (with_reducible first | exact HI0.out | apply IsS50.alloc | apply IsS50.drewN | apply IsS50.drew | apply IsS50.set_0 | refine IsS50.far ?_ NB0_188.out _) | exact HI0.out), by repeat (first | (with_reducible first | exact HB.out | apply below_alloc | apply pw_below_drewN | apply below_drew1 | refine below_set ?_ GE188.out) | exact HB.out), by repeat (first | (with_reducible first | exact HK.out | apply KeepBut.set_ | apply keep_drewN | apply keep_drew | apply keep_alloc | refine keep_far ?_ GW188.out _) | exact HK.out)⟩
                · rw [if_neg c17] at H
                  exact absurd H (by simp)
              · rw [if_neg c16] at H
                exact absurd H (by simp)
            · rw [if_neg c14] at H
              exact absurd H (by simp)
          · rw [if_neg c13] at H
            exact absurd H (by simp)
        · rw [if_neg c11] at H
          exact absurd H (by simp)
      · rw [if_neg c10] at H
        exact absurd H (by simp)
    · rw [if_neg c8] at H
      exact absurd H (by simp)
  · rw [if_neg c4] at H
    have c4b0 : (t182 == 0) = false := beq_eq_false_iff_ne.mpr c4
    have c4b1 : (t182 != 0) = true := bne_iff_ne.mpr c4
    simp only [Option.some.injEq, Prod.mk.injEq] at H
    obtain ⟨rfl, rfl⟩ := H
    go_enter Tryd.func15, Tryd.ntmps15
    go_wp2_with (first | ((with_reducible refine gate_callee (f := 12) rfl ?_); refine goesL_ (some 14) rfl rfl Tryd.func12 (by kernel_rfl) rfl #[.pointer (some ⟨g, 0, none⟩), .int .i64 a1] rfl (by (try simp only [List.map_toArray, List.map_cons, List.map_nil]); first | done | rfl | (simp only [List.length_drop, List.length_take]; rfl)) ?_; (with_reducible refine (leap_Table_UTC.calls k g s0_0 s0_1 a1 t180 t181 t182 t183 w0 _ ?side1 ?side2 A3.out).mono ?_); (case side1 => repeat (first | (with_reducible first | exact HI0.out | apply IsS50.alloc | apply IsS50.drewN | apply IsS50.drew | apply IsS50.set_0) | exact HI0.out)); (case side2 => repeat (first | (with_reducible first | exact HB.out | apply below_alloc | apply pw_below_drewN | apply below_drew1) | exact HB.out)); rintro e w24 ⟨rfl, hi, hb, hk⟩; refine ⟨_, rfl, ?_⟩; have n0_ := Aside0.mk (KeepBut.trans (by repeat (first | (with_reducible first | exact HK.out | apply KeepBut.set_ | apply keep_drewN | apply keep_drew | apply keep_alloc) | exact HK.out)) hk (.inl rfl)); have n1_ := Aside0.mk (hb); have n2_ := Aside0.mk (hi); clear HK; clear HB; clear HI0; have HK := n0_; have HB := n1_; have HI0 := n2_; clear n0_ n1_ n2_; (try clear hb); (try clear hb2); (try clear hk); (try clear hi)))
    go_ret
    exact ⟨by first | rfl | (simp [errW_none, errW_some] <;> rfl) | (simp [*, errW_none, errW_some] <;> rfl), by repeat (first | (with_reducible first | exact HI0.out | apply IsS50.alloc | apply IsS50.drewN | apply IsS50.drew | apply IsS50.set_0) | exact HI0.out), by repeat (first | (with_reducible first | exact HB.out | apply below_alloc | apply pw_below_drewN | apply below_drew1) | exact HB.out), by repeat (first | (with_reducible first | exact HK.out | apply KeepBut.set_ | apply keep_drewN | apply keep_drew | apply keep_alloc) | exact HK.out)⟩

/-! ### hourglasslaw5_some: function 18 -/
def hourglasslaw5_some.f  : Option (ByteArray) := some (⟨#[50, 48, 49, 54, 45, 48, 55, 45, 48, 49, 32, 51, 54, 10, 50, 48, 49, 55, 45, 48, 49, 45, 48, 49, 32, 51, 55, 10]⟩ : ByteArray)
set_option maxHeartbeats 8000000 in
set_option maxRecDepth 100000 in
theorem hourglasslaw5_some.calls  (r : ByteArray) (w : World) (h : hourglasslaw5_some.f  = some r) :
    Calls Tryd.prog 18 #[] w fun e w' => e = .returned (.string r) ∧ Drawn0 w w' := by
  have H : (some (⟨#[50, 48, 49, 54, 45, 48, 55, 45, 48, 49, 32, 51, 54, 10, 50, 48, 49, 55, 45, 48, 49, 45, 48, 49, 32, 51, 55, 10]⟩ : ByteArray)) = some r := h
  clear h
  obtain rfl := Option.some.inj H
  go_enter Tryd.func18, Tryd.ntmps18
  go_wp2
  go_ret
  exact ⟨by first | rfl | (simp; done) | (simp [*]; done), by repeat (first | exact Drawn0.refl _ | apply Drawn0.step)⟩

/-! ### leap_Table_Text: function 19 -/
def leap_Table_Text.f (s0_0 : ByteArray) (s0_1 : List (S52)) : Option (ByteArray × ByteArray) := some (s0_0, s0_0)
set_option maxHeartbeats 8000000 in
set_option maxRecDepth 100000 in
theorem leap_Table_Text.calls (g : Nat) (s0_0 : ByteArray) (s0_1 : List (S52)) (r1 : ByteArray) (r2 : ByteArray) (w0 w : World) (hI : IsS50 w0 w g s0_0 s0_1) (hB : Below w0.heap.size w0 w) (h : leap_Table_Text.f s0_0 s0_1 = some (r1, r2)) :
    Calls Tryd.prog 19 #[.pointer (some ⟨g, 0, none⟩)] w fun e w' => e = .returned (.string r1) ∧ IsS50 w0 w' g r2 s0_1 ∧ Below w0.heap.size w0 w' ∧ KeepBut w w' g none := by
  have HI0 := Aside0.mk hI
  have HK := Aside0.mk (KeepBut.refl w g none)
  have HL := Aside0.mk hB.size
  clear hI
  have HW0 := Aside0.mk hB.size
  have HB := Aside0.mk hB
  clear hB
  have H : (some (s0_0, s0_0)) = some (r1, r2) := h
  clear h
  simp only [Option.some.injEq, Prod.mk.injEq] at H
  obtain ⟨rfl, rfl⟩ := H
  obtain ⟨ASz2_1, cSz2_1, HGz2, hgz2, HSz2_1⟩ := HI0.out
  have hcz2_0 := cellS50_0 HGz2
  have hcz2_1 := cellS50_1 HGz2
  have hfz2_0 := blk_frozen HGz2 0
  clear HGz2 hgz2
  go_enter Tryd.func19, Tryd.ntmps19
  go_wp2
  go_ret
  exact ⟨by first | rfl | (simp [errW_none, errW_some] <;> rfl) | (simp [*, errW_none, errW_some] <;> rfl), by repeat (first | (with_reducible first | exact HI0.out | apply IsS50.alloc | apply IsS50.drewN | apply IsS50.drew | apply IsS50.set_0) | exact HI0.out), by repeat (first | (with_reducible first | exact HB.out | apply below_alloc | apply pw_below_drewN | apply below_drew1) | exact HB.out), by repeat (first | (with_reducible first | exact HK.out | apply KeepBut.set_ | apply keep_drewN | apply keep_drew | apply keep_alloc) | exact HK.out)⟩

-- NOT PRINTED: function 9 (hourglasslaw5_awake)

-- NOT PRINTED: function 3 (hourglasslaw5_LeapBack)

-- NOT PRINTED: function 4 (hourglasslaw5_LeapRises)

-- NOT PRINTED: function 5 (hourglasslaw5_LeapSteps)

-- NOT PRINTED: function 6 (hourglasslaw5_LeapTexts)

-- NOT PRINTED: function 7 (hourglasslaw5_LeapPlain)

end Go.Proofs.YthelnkmjhchmnaaDoor.QLeap
