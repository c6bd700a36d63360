/- Stamps compared: contracts for every world. Conditions: each theorem's own. -/
import Derived.Test.YtgkigcobaimccaaProg
import Derived.Test.YtgkigcobaimccaaSep
import Derived.Test.YtgkigcobaimccaaRw
import Derived.WalkKit
import Derived.KernelRfl
import Derived.LoopTactic
import Derived.StillTailTactics
import Derived.Deep.QuietTactic
import Derived.BigQuiet
import Derived.Lib.Hide
import Derived.Laws.Tables
import Derived.Laws.Strings
namespace Go.Proofs.Ytgkigcobaimccaa
open Go.RowKit Go.Proofs.Ytgkigcobaimccaa.Sp
set_option linter.unusedVariables false
set_option linter.unusedSimpArgs false
theorem still_tail {P : Program} {id : Nat} {Q : Exit → Act → World → Prop} {a : Act} {w : World} {l : List Oper} (n : Nat) (hm : P.follows .mixedOrders = true) (hB : Region.lexTailB .any l.toArray n = true)
    (hh : wpStill P l.toArray w.drew (fun a' => wpList P l.toArray Q (l.drop n) a' w.drew) (l.take n) a) : (Code.region id l.toArray true).wp P Q a w :=
  wp_region_still_tail n hm hB hh

def gd (t : Int) : Bool := decide (0 ≤ t ∧ t ≤ 36028797018963967)
def c2 (x y : Int) : Int := if x < y then -1 else if y < x then 1 else 0
def cs (a m b n : Int) : Int := if c2 a b ≠ 0 then c2 a b else c2 m n

theorem good_calls (t n : Int) (w : World) :
    Calls Try.prog 26 #[.agg #[.int .i64 t, .int .u8 n]] w fun e w' => e = .returned (.bool (gd t)) ∧ Below w.heap.size w w' := by
  go_enter Try.func26, Try.ntmps26
  go_wp2
  all_goals go_ret
  all_goals exact ⟨by simp [gd]; omega, (Below.refl _ _).alloc (Nat.le_refl _) _⟩

theorem nanI_calls (x : Int) (w : World) : Calls Try.prog 44 #[.int .i64 x] w fun e w' => e = .returned (.bool false) ∧ w = w' := by
  go_enter Try.func44, Try.ntmps44
  go_wp2
  go_ret
  exact ⟨rfl, rfl⟩
theorem nanB_calls (x : Int) (w : World) : Calls Try.prog 45 #[.int .u8 x] w fun e w' => e = .returned (.bool false) ∧ w = w' := by
  go_enter Try.func45, Try.ntmps45
  go_wp2
  go_ret
  exact ⟨rfl, rfl⟩
theorem cmpI_calls (x y : Int) (w : World) :
    Calls Try.prog 41 #[.int .i64 x, .int .i64 y] w fun e w' => e = .returned (.int .i64 (c2 x y)) ∧ w = w' := by
  by_cases h1 : x < y
  · rw [show c2 x y = -1 by unfold c2; rw [if_pos h1]]
    go_enter Try.func41, Try.ntmps41
    go_wp2_with fail
    refine (nanI_calls x _).mono ?_
    rintro e w1 ⟨rfl, rfl⟩
    go_wp2_with fail
    refine (nanI_calls y _).mono ?_
    rintro e w1 ⟨rfl, rfl⟩
    go_wp2_with fail
    go_ret
    exact ⟨rfl, rfl⟩
  · by_cases h2 : y < x
    · rw [show c2 x y = 1 by unfold c2; rw [if_neg h1, if_pos h2]]
      go_enter Try.func41, Try.ntmps41
      go_wp2_with fail
      refine (nanI_calls x _).mono ?_
      rintro e w1 ⟨rfl, rfl⟩
      go_wp2_with fail
      refine (nanI_calls y _).mono ?_
      rintro e w1 ⟨rfl, rfl⟩
      go_wp2_with fail
      go_ret
      exact ⟨rfl, rfl⟩
    · rw [show c2 x y = 0 by unfold c2; rw [if_neg h1, if_neg h2]]
      go_enter Try.func41, Try.ntmps41
      go_wp2_with fail
      refine (nanI_calls x _).mono ?_
      rintro e w1 ⟨rfl, rfl⟩
      go_wp2_with fail
      refine (nanI_calls y _).mono ?_
      rintro e w1 ⟨rfl, rfl⟩
      go_wp2_with fail
      go_ret
      exact ⟨rfl, rfl⟩
theorem cmpB_calls (x y : Int) (w : World) :
    Calls Try.prog 42 #[.int .u8 x, .int .u8 y] w fun e w' => e = .returned (.int .i64 (c2 x y)) ∧ w = w' := by
  by_cases h1 : x < y
  · rw [show c2 x y = -1 by unfold c2; rw [if_pos h1]]
    go_enter Try.func42, Try.ntmps42
    go_wp2_with fail
    refine (nanB_calls x _).mono ?_
    rintro e w1 ⟨rfl, rfl⟩
    go_wp2_with fail
    refine (nanB_calls y _).mono ?_
    rintro e w1 ⟨rfl, rfl⟩
    go_wp2_with fail
    go_ret
    exact ⟨rfl, rfl⟩
  · by_cases h2 : y < x
    · rw [show c2 x y = 1 by unfold c2; rw [if_neg h1, if_pos h2]]
      go_enter Try.func42, Try.ntmps42
      go_wp2_with fail
      refine (nanB_calls x _).mono ?_
      rintro e w1 ⟨rfl, rfl⟩
      go_wp2_with fail
      refine (nanB_calls y _).mono ?_
      rintro e w1 ⟨rfl, rfl⟩
      go_wp2_with fail
      go_ret
      exact ⟨rfl, rfl⟩
    · rw [show c2 x y = 0 by unfold c2; rw [if_neg h1, if_neg h2]]
      go_enter Try.func42, Try.ntmps42
      go_wp2_with fail
      refine (nanB_calls x _).mono ?_
      rintro e w1 ⟨rfl, rfl⟩
      go_wp2_with fail
      refine (nanB_calls y _).mono ?_
      rintro e w1 ⟨rfl, rfl⟩
      go_wp2_with fail
      go_ret
      exact ⟨rfl, rfl⟩

theorem or_calls (x y : Int) (b : Nat) (w : World) (H : w.heap[b]? = some (.cells #[.int .i64 x, .int .i64 y] 3 (0, 0))) :
    Calls Try.prog 40 #[.slice (some ⟨b, 0, none⟩) 2 2] w fun e w' => e = .returned (.int .i64 (if x ≠ 0 then x else y)) ∧ w = w' := by
  have c0 : w.cell? ⟨b, 0, none⟩ = some (.int .i64 x) := by simp [World.cell?, H]
  have c1 : w.cell? ⟨b, 1, none⟩ = some (.int .i64 y) := by simp [World.cell?, H]
  clear H
  go_enter Try.func40, Try.ntmps40
  go_wp2
  go_loop [8] (fun i => ∃ k : Nat, k ≤ 2 ∧ i = .int .i64 k ∧ (1 ≤ k → x = 0) ∧ (2 ≤ k → y = 0)) (fun i => 2 - (intOf i).toNat)
  case atStart => exact ⟨0, by omega, rfl, by omega, by omega⟩
  case round =>
    obtain ⟨k, hk, rfl, hx, hy⟩ := hrel
    by_cases h0 : k = 0
    · subst h0
      by_cases hx0 : x = 0
      · subst hx0
        go_wp2
        go_round
        case rel => exact ⟨1, by omega, by go_num, by simp, by simp⟩
        case measure => simp [intOf]
      · go_wp2
        go_ret
        exact ⟨rfl, rfl⟩
    · have hx0 := hx (by omega)
      by_cases h1 : k = 1
      · subst h1
        by_cases hy0 : y = 0
        · subst hy0
          go_wp2
          go_round
          case rel => exact ⟨2, by omega, by go_num, fun _ => hx0, by simp⟩
          case measure => simp [intOf]
        · go_wp2
          go_ret
          exact ⟨rfl, rfl⟩
      · obtain rfl : k = 2 := by omega
        have hy0 := hy (by omega)
        go_wp2
        go_ret
        exact ⟨rfl, rfl⟩

theorem heap3_new (w : World) (x y z : Obj) : (((w.alloc x).alloc y).alloc z).heap[w.heap.size + 1 + 1]? = some z := by
  have h := heap_alloc_new ((w.alloc x).alloc y) z
  simpa using h

theorem cmp_calls (a m b n : Int) (w : World) :
    Calls Try.prog 35 #[.agg #[.int .i64 a, .int .u8 m], .agg #[.int .i64 b, .int .u8 n]] w fun e w' => e = .returned (.int .i64 (cs a m b n)) ∧ Below w.heap.size w w' := by
  obtain ⟨p, hp⟩ : ∃ p, c2 a b = p := ⟨_, rfl⟩
  obtain ⟨q, hq⟩ : ∃ q, c2 m n = q := ⟨_, rfl⟩
  have HA := Lib.hid (fun w => show Calls Try.prog 41 #[.int .i64 a, .int .i64 b] w fun e w' => e = .returned (.int .i64 p) ∧ w' = w from hp ▸ (cmpI_calls a b w).mono fun _ _ h => ⟨h.1, h.2.symm⟩)
  have HB := Lib.hid (fun w => show Calls Try.prog 42 #[.int .u8 m, .int .u8 n] w fun e w' => e = .returned (.int .i64 q) ∧ w' = w from hq ▸ (cmpB_calls m n w).mono fun _ _ h => ⟨h.1, h.2.symm⟩)
  rw [show cs a m b n = if p ≠ 0 then p else q by rw [← hp, ← hq]; rfl]
  clear hp hq
  go_enter Try.func35, Try.ntmps35
  go_wp2_with fail
  refine still_tail 10 (by kernel_rfl) (by kernel_rfl) ?_
  simp only [List.take_succ_cons, List.take_zero, List.drop_succ_cons, List.drop_zero]
  repeat (first | still_step | still_call (HA.out _) | still_call (HB.out _))
  refine wpStill_nil ?_
  go_wp2_with fail
  refine Calls.mono (or_calls p q _ _ ?_) ?_
  · exact heap3_new _ _ _ _
  rintro e w1 ⟨rfl, rfl⟩
  go_wp2_with fail
  all_goals go_ret
  all_goals exact ⟨rfl, ((((Below.refl _ _).alloc (Nat.le_refl _) _).alloc (by simp) _).alloc (by simp; omega) _).drew⟩

end Go.Proofs.Ytgkigcobaimccaa
