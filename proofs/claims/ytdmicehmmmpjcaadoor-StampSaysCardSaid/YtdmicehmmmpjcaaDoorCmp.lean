/- What stamp's Good, Pack, Unpack, Cmp, Max, Next do, for every stamp; and what awake answers. No condition beyond the words' own bounds. -/
import Derived.Test.YtdmicehmmmpjcaaDoorShelf
import Derived.WalkKit
import Derived.KernelRfl
import Derived.StillTailTactics
import Derived.Deep.QuietTactic
import Derived.BigQuiet
import Derived.Lib.Hide
import Derived.Laws.BitsLemmas
import Derived.Laws.Bits64
import Derived.Laws.CopyOwn
namespace Go.Proofs.YtdmicehmmmpjcaaDoor
open Go.RowKit
set_option linter.unusedVariables false
set_option linter.unusedSimpArgs false

theorem still_tail {P : Program} {id : Nat} {Q : Exit → Act → World → Prop} {a : Act} {w : World} {l : List Oper} (n : Nat) (hm : P.follows .mixedOrders = true) (hB : Region.lexTailB .any l.toArray n = true)
    (hh : wpStill P l.toArray w.drew (fun a' => wpList P l.toArray Q (l.drop n) a' w.drew) (l.take n) a) : (Code.region id l.toArray true).wp P Q a w :=
  wp_region_still_tail n hm hB hh

def gd (t : Int) : Bool := decide (0 ≤ t ∧ t ≤ 36028797018963967)
def c2 (x y : Int) : Int := if x < y then -1 else if y < x then 1 else 0
def cs (a m b n : Int) : Int := if c2 a b ≠ 0 then c2 a b else c2 m n

theorem good_calls (t n : Int) (w : World) :
    Calls Tryd.prog 14 #[.agg #[.int .i64 t, .int .u8 n]] w fun e w' => e = .returned (.bool (gd t)) ∧ Below w.heap.size w w' := by
  go_enter Tryd.func14, Tryd.ntmps14
  go_wp2
  all_goals go_ret
  all_goals exact ⟨by simp [gd]; omega, (Below.refl _ _).alloc (Nat.le_refl _) _⟩

theorem nanI_calls (x : Int) (w : World) : Calls Tryd.prog 28 #[.int .i64 x] w fun e w' => e = .returned (.bool false) ∧ w = w' := by
  go_enter Tryd.func28, Tryd.ntmps28
  go_wp2
  go_ret
  exact ⟨rfl, rfl⟩
theorem nanB_calls (x : Int) (w : World) : Calls Tryd.prog 29 #[.int .u8 x] w fun e w' => e = .returned (.bool false) ∧ w = w' := by
  go_enter Tryd.func29, Tryd.ntmps29
  go_wp2
  go_ret
  exact ⟨rfl, rfl⟩
theorem cmpI_calls (x y : Int) (w : World) :
    Calls Tryd.prog 23 #[.int .i64 x, .int .i64 y] w fun e w' => e = .returned (.int .i64 (c2 x y)) ∧ w = w' := by
  by_cases h1 : x < y
  · rw [show c2 x y = -1 by unfold c2; rw [if_pos h1]]
    go_enter Tryd.func23, Tryd.ntmps23
    go_wp2_with fail
    refine (nanI_calls x _).mono ?_
    rintro e w1 ⟨rfl, rfl⟩
    go_wp2_with fail
    refine (nanI_calls y _).mono ?_
    rintro e w1 ⟨rfl, rfl⟩
    go_wp2_with fail
    go_ret
    exact ⟨rfl, rfl⟩
  · by_cases h2 : y < x
    · rw [show c2 x y = 1 by unfold c2; rw [if_neg h1, if_pos h2]]
      go_enter Tryd.func23, Tryd.ntmps23
      go_wp2_with fail
      refine (nanI_calls x _).mono ?_
      rintro e w1 ⟨rfl, rfl⟩
      go_wp2_with fail
      refine (nanI_calls y _).mono ?_
      rintro e w1 ⟨rfl, rfl⟩
      go_wp2_with fail
      go_ret
      exact ⟨rfl, rfl⟩
    · rw [show c2 x y = 0 by unfold c2; rw [if_neg h1, if_neg h2]]
      go_enter Tryd.func23, Tryd.ntmps23
      go_wp2_with fail
      refine (nanI_calls x _).mono ?_
      rintro e w1 ⟨rfl, rfl⟩
      go_wp2_with fail
      refine (nanI_calls y _).mono ?_
      rintro e w1 ⟨rfl, rfl⟩
      go_wp2_with fail
      go_ret
      exact ⟨rfl, rfl⟩
theorem cmpB_calls (x y : Int) (w : World) :
    Calls Tryd.prog 24 #[.int .u8 x, .int .u8 y] w fun e w' => e = .returned (.int .i64 (c2 x y)) ∧ w = w' := by
  by_cases h1 : x < y
  · rw [show c2 x y = -1 by unfold c2; rw [if_pos h1]]
    go_enter Tryd.func24, Tryd.ntmps24
    go_wp2_with fail
    refine (nanB_calls x _).mono ?_
    rintro e w1 ⟨rfl, rfl⟩
    go_wp2_with fail
    refine (nanB_calls y _).mono ?_
    rintro e w1 ⟨rfl, rfl⟩
    go_wp2_with fail
    go_ret
    exact ⟨rfl, rfl⟩
  · by_cases h2 : y < x
    · rw [show c2 x y = 1 by unfold c2; rw [if_neg h1, if_pos h2]]
      go_enter Tryd.func24, Tryd.ntmps24
      go_wp2_with fail
      refine (nanB_calls x _).mono ?_
      rintro e w1 ⟨rfl, rfl⟩
      go_wp2_with fail
      refine (nanB_calls y _).mono ?_
      rintro e w1 ⟨rfl, rfl⟩
      go_wp2_with fail
      go_ret
      exact ⟨rfl, rfl⟩
    · rw [show c2 x y = 0 by unfold c2; rw [if_neg h1, if_neg h2]]
      go_enter Tryd.func24, Tryd.ntmps24
      go_wp2_with fail
      refine (nanB_calls x _).mono ?_
      rintro e w1 ⟨rfl, rfl⟩
      go_wp2_with fail
      refine (nanB_calls y _).mono ?_
      rintro e w1 ⟨rfl, rfl⟩
      go_wp2_with fail
      go_ret
      exact ⟨rfl, rfl⟩

theorem or_calls (x y : Int) (b : Nat) (w : World) (H : w.heap[b]? = some (.cells #[.int .i64 x, .int .i64 y] 3 (0, 0))) :
    Calls Tryd.prog 22 #[.slice (some ⟨b, 0, none⟩) 2 2] w fun e w' => e = .returned (.int .i64 (if x ≠ 0 then x else y)) ∧ w = w' := by
  have c0 : w.cell? ⟨b, 0, none⟩ = some (.int .i64 x) := by simp [World.cell?, H]
  have c1 : w.cell? ⟨b, 1, none⟩ = some (.int .i64 y) := by simp [World.cell?, H]
  clear H
  go_enter Tryd.func22, Tryd.ntmps22
  go_wp2
  go_loop [8] (fun i => ∃ k : Nat, k ≤ 2 ∧ i = .int .i64 k ∧ (1 ≤ k → x = 0) ∧ (2 ≤ k → y = 0)) (fun i => 2 - (intOf i).toNat)
  case atStart => exact ⟨0, by omega, rfl, by omega, by omega⟩
  case round =>
    obtain ⟨k, hk, rfl, hx, hy⟩ := hrel
    by_cases h0 : k = 0
    · subst h0
      by_cases hx0 : x = 0
      · subst hx0
        go_wp2
        go_round
        case rel => exact ⟨1, by omega, by go_num, by simp, by simp⟩
        case measure => simp [intOf]
      · go_wp2
        go_ret
        exact ⟨rfl, rfl⟩
    · have hx0 := hx (by omega)
      by_cases h1 : k = 1
      · subst h1
        by_cases hy0 : y = 0
        · subst hy0
          go_wp2
          go_round
          case rel => exact ⟨2, by omega, by go_num, fun _ => hx0, by simp⟩
          case measure => simp [intOf]
        · go_wp2
          go_ret
          exact ⟨rfl, rfl⟩
      · obtain rfl : k = 2 := by omega
        have hy0 := hy (by omega)
        go_wp2
        go_ret
        exact ⟨rfl, rfl⟩

theorem heap3_new (w : World) (x y z : Obj) : (((w.alloc x).alloc y).alloc z).heap[w.heap.size + 1 + 1]? = some z := by
  have h := heap_alloc_new ((w.alloc x).alloc y) z
  simpa using h

theorem cmp_calls (a m b n : Int) (w : World) :
    Calls Tryd.prog 11 #[.agg #[.int .i64 a, .int .u8 m], .agg #[.int .i64 b, .int .u8 n]] w fun e w' => e = .returned (.int .i64 (cs a m b n)) ∧ Below w.heap.size w w' := by
  obtain ⟨p, hp⟩ : ∃ p, c2 a b = p := ⟨_, rfl⟩
  obtain ⟨q, hq⟩ : ∃ q, c2 m n = q := ⟨_, rfl⟩
  have HA := Lib.hid (fun w => show Calls Tryd.prog 23 #[.int .i64 a, .int .i64 b] w fun e w' => e = .returned (.int .i64 p) ∧ w' = w from hp ▸ (cmpI_calls a b w).mono fun _ _ h => ⟨h.1, h.2.symm⟩)
  have HB := Lib.hid (fun w => show Calls Tryd.prog 24 #[.int .u8 m, .int .u8 n] w fun e w' => e = .returned (.int .i64 q) ∧ w' = w from hq ▸ (cmpB_calls m n w).mono fun _ _ h => ⟨h.1, h.2.symm⟩)
  rw [show cs a m b n = if p ≠ 0 then p else q by rw [← hp, ← hq]; rfl]
  clear hp hq
  go_enter Tryd.func11, Tryd.ntmps11
  go_wp2_with fail
  refine still_tail 10 (by kernel_rfl) (by kernel_rfl) ?_
  simp only [List.take_succ_cons, List.take_zero, List.drop_succ_cons, List.drop_zero]
  repeat (first | still_step | still_call (HA.out _) | still_call (HB.out _))
  refine wpStill_nil ?_
  go_wp2_with fail
  refine Calls.mono (or_calls p q _ _ ?_) ?_
  · exact heap3_new _ _ _ _
  rintro e w1 ⟨rfl, rfl⟩
  go_wp2_with fail
  all_goals go_ret
  all_goals exact ⟨rfl, ((((Below.refl _ _).alloc (Nat.le_refl _) _).alloc (by simp) _).alloc (by simp; omega) _).drew⟩

/-! A stamp's block. -/
def IsSt (w : World) (g : Nat) (t n : Int) : Prop := w.heap[g]? = some (.cells #[.int .i64 t, .int .u8 n] 23 (0, 0))
theorem IsSt.c0 {w : World} {g : Nat} {t n : Int} (H : IsSt w g t n) : w.cell? ⟨g, 0, none⟩ = some (.int .i64 t) := by unfold IsSt at H; simp [World.cell?, H]
theorem IsSt.c1 {w : World} {g : Nat} {t n : Int} (H : IsSt w g t n) : w.cell? ⟨g, 1, none⟩ = some (.int .u8 n) := by unfold IsSt at H; simp [World.cell?, H]
theorem IsSt.fr {w : World} {g : Nat} {t n : Int} (H : IsSt w g t n) (i : Nat) : w.frozen? ⟨g, i, none⟩ = false := by unfold IsSt at H; simp [World.frozen?, H]
theorem IsSt.lt {w : World} {g : Nat} {t n : Int} (H : IsSt w g t n) : g < w.heap.size := lt_of_block H
theorem IsSt.alloc {w : World} {g : Nat} {t n : Int} (H : IsSt w g t n) (x : Obj) : IsSt (w.alloc x) g t n := by
  unfold IsSt
  rw [Below.heap_alloc _ _ _ H.lt]
  exact H
theorem IsSt.to {w w' : World} {b g : Nat} {t n : Int} (H : IsSt w g t n) (hb : Below b w w') (hg : g < b) : IsSt w' g t n := (hb.block g hg).trans H
theorem isSt_new (w : World) (t n : Int) : IsSt (w.alloc (.cells #[.int .i64 t, .int .u8 n] 23)) w.heap.size t n := heap_alloc_new w _

theorem und23 : ∃ d, Tryd.prog.underlying 23 = some d ∧ (match d with | .struct _ | .array _ _ => true | _ => false) = true := by
  have h : (Tryd.prog.underlying 23).any (fun d => match d with | .struct _ | .array _ _ => true | _ => false) = true := by kernel_rfl
  cases hu : Tryd.prog.underlying 23 with
  | none => rw [hu] at h; cases h
  | some d => rw [hu] at h; exact ⟨d, rfl, h⟩
theorem info23 : (Tryd.prog.info? 23).map (·.size) = some 2 := by kernel_rfl
abbrev st2 (t n : Int) : Array Value := #[.int .i64 t, .int .u8 n]
theorem stL {ops : Array Oper} {rest : List Oper} {dst : Option Tmp} {ty : TypeId} {pos : String} {af : Array Edge} {a : Act} {w : World} {Q : Exit → Act → World → Prop} (x y : Operand) (g : Nat) (t n t' n' : Int)
    (hx : a.eval x = .pointer (some ⟨g, 0, none⟩)) (hy : a.eval y = .agg (st2 t n)) (hg : IsSt w g t' n')
    (hh : wpList Tryd.prog ops Q rest (a.put dst undef) (w.setRow g (st2 t n))) : wpList Tryd.prog ops Q ({ dst := dst, op := .store 23 x y, type := ty, pos := pos, after := af, guard := none } :: rest) a w :=
  wpList_store_row rfl 23 x y rfl g (st2 t n) hx hy 23 (st2 t' n') hg info23 rfl (by simp [Value.oneCell']) hh
theorem ldL {ops : Array Oper} {rest : List Oper} {dst : Option Tmp} {ty : TypeId} {pos : String} {af : Array Edge} {a : Act} {w : World} {Q : Exit → Act → World → Prop} (x : Operand) (g : Nat) (t n : Int)
    (hx : a.eval x = .pointer (some ⟨g, 0, none⟩)) (hg : IsSt w g t n)
    (hh : wpList Tryd.prog ops Q rest (a.put dst (.agg (st2 t n))) w) : wpList Tryd.prog ops Q ({ dst := dst, op := .load 23 x, type := ty, pos := pos, after := af, guard := none } :: rest) a w := by
  obtain ⟨d, h1, h2⟩ := und23
  exact wpList_load_row rfl 23 x rfl g hx 23 (st2 t n) (0, 0) d hg h1 (by cases d <;> simp_all) info23 hh
theorem IsSt.put {W : World} {g : Nat} {t' n' : Int} (H : IsSt W g t' n') (t n : Int) : IsSt (W.setRow g (st2 t n)) g t n := setRow_heap W g _ _ _ _ H
theorem IsSt.putO {W : World} {g h : Nat} {t' n' : Int} (H : IsSt W g t' n') (hne : g ≠ h) (t n : Int) : IsSt (W.setRow h (st2 t n)) g t' n' := (setRow_other _ _ _ _ hne).trans H
theorem IsSt.load {W : World} {g : Nat} {t n : Int} (H : IsSt W g t n) : (loadVar 23 ⟨g, 0, none⟩).run Tryd.prog W = .ok (.agg (st2 t n)) W := by
  obtain ⟨d, h1, h2⟩ := und23
  exact run_loadVar_row (P := Tryd.prog) W g 23 23 (st2 t n) (0, 0) d H h1 (by cases d <;> simp_all) info23

theorem res12 (tmps : Array Value) (W : World) (t n : Int) (g : Nat) (h4 : tmps.getD 4 undef = .pointer (some ⟨g, 0, none⟩)) (H : IsSt W g t n) : (results Tryd.f12 tmps).run Tryd.prog W = .ok (.agg (st2 t n)) W := by
  obtain ⟨d, h1, h2⟩ := und23
  exact results_cell_row Tryd.results12 tmps W g 23 (st2 t n) (0, 0) d h4 H h1 (by cases d <;> simp_all) info23
theorem res10 (tmps : Array Value) (W : World) (t n e : Int) (g : Nat) (h2 : tmps.getD 2 undef = .pointer (some ⟨g, 0, none⟩)) (h3 : tmps.getD 3 undef = .int .i64 e) (H : IsSt W g t n) :
    (results Tryd.f10 tmps).run Tryd.prog W = .ok (.tuple #[.agg (st2 t n), .int .i64 e]) W := by
  rw [results_cell_tmp Tryd.results10, h2, h3]
  simp [asAddr, H.load, Result.andThen]
theorem res13 (tmps : Array Value) (W : World) (t n e : Int) (g : Nat) (h2 : tmps.getD 2 undef = .pointer (some ⟨g, 0, none⟩)) (h3 : tmps.getD 3 undef = .int .i64 e) (H : IsSt W g t n) :
    (results Tryd.f13 tmps).run Tryd.prog W = .ok (.tuple #[.agg (st2 t n), .int .i64 e]) W := by
  rw [results_cell_tmp Tryd.results13, h2, h3]
  simp [asAddr, H.load, Result.andThen]

theorem max_calls (a m b n : Int) (w : World) :
    Calls Tryd.prog 12 #[.agg #[.int .i64 a, .int .u8 m], .agg #[.int .i64 b, .int .u8 n]] w fun e w' => e = .returned (if cs a m b n < 0 then .agg (st2 b n) else .agg (st2 a m)) ∧ Below w.heap.size w w' := by
  have HC := Lib.hid (fun w => cmp_calls a m b n w)
  obtain ⟨z, hz⟩ : ∃ z, cs a m b n = z := ⟨_, rfl⟩
  rw [hz] at HC ⊢
  clear hz
  have I0 := Lib.hid (((isSt_new w a m).alloc (.cells #[.int .i64 b, .int .u8 n] 23)).alloc (.cells #[.int .i64 0, .int .u8 0] 23))
  have I1 := Lib.hid ((isSt_new (w.alloc (.cells #[.int .i64 a, .int .u8 m] 23)) b n).alloc (.cells #[.int .i64 0, .int .u8 0] 23))
  have I2 := Lib.hid (isSt_new ((w.alloc (.cells #[.int .i64 a, .int .u8 m] 23)).alloc (.cells #[.int .i64 b, .int .u8 n] 23)) 0 0)
  have BB := Lib.hid ((((Below.refl w.heap.size w).alloc (Nat.le_refl _) (.cells #[.int .i64 a, .int .u8 m] 23)).alloc (by simp) (.cells #[.int .i64 b, .int .u8 n] 23)).alloc (by simp; omega) (.cells #[.int .i64 0, .int .u8 0] 23))
  by_cases h : z < 0
  · rw [if_pos h]
    go_enter Tryd.func12, Tryd.ntmps12
    go_wp2_with fail
    refine (HC.out _).mono ?_
    rintro e w1 ⟨rfl, hb⟩
    have c0 := (I1.out.to hb (by simp)).c0
    have c1 := (I1.out.to hb (by simp)).c1
    have J2 := (I2.out.to hb (by simp))
    simp only [World.size_alloc] at c0 c1 J2
    have HJ := Lib.hid J2
    have HB := Lib.hid (BB.out.trans (hb.mono (by simp; omega)))
    clear hb J2
    go_wp2_with ((with_reducible refine stL (.tmp 4) (.tmp 9) _ b n 0 0 ?_ ?_ HJ.out ?_); rfl; rfl)
    exact bodyPost_ret (v := .agg (st2 b n)) (res12 _ _ _ _ _ rfl (HJ.out.put b n)) rfl ⟨rfl, below_setRow HB.out (by omega) _⟩
  · rw [if_neg h]
    go_enter Tryd.func12, Tryd.ntmps12
    go_wp2_with fail
    refine (HC.out _).mono ?_
    rintro e w1 ⟨rfl, hb⟩
    have c0 := (I0.out.to hb (by simp; omega)).c0
    have c1 := (I0.out.to hb (by simp; omega)).c1
    have J2 := (I2.out.to hb (by simp))
    simp only [World.size_alloc] at c0 c1 J2
    have HJ := Lib.hid J2
    have HB := Lib.hid (BB.out.trans (hb.mono (by simp; omega)))
    clear hb J2
    go_wp2_with ((with_reducible refine stL (.tmp 4) (.tmp 10) _ a m 0 0 ?_ ?_ HJ.out ?_); rfl; rfl)
    exact bodyPost_ret (v := .agg (st2 a m)) (res12 _ _ _ _ _ rfl (HJ.out.put a m)) rfl ⟨rfl, below_setRow HB.out (by omega) _⟩

/-! Pack and Unpack. -/
theorem wraps63 (n : Int) (h₀ : 0 ≤ n) (h₁ : n < 2 ^ 63) : IntKind.u64.wrap n = n := by rw [IntKind.wrap_u64]; omega
theorem or_pack (t n : Int) (ht : 0 ≤ t) (ht' : t ≤ 36028797018963967) (hn : 0 ≤ n) (hn' : n ≤ 255) : bits BinOp.or IntKind.u64 (t * 256) n = t * 256 + n :=
  bits_join .u64 63 (by decide) wraps63 8 (t * 256) n (by omega) (by omega) (by omega) hn (by omega) (by omega)
theorem wraps64 (n : Int) (h₀ : 0 ≤ n) (h₁ : n < 2 ^ 64) : IntKind.u64.wrap n = n := by rw [IntKind.wrap_u64]; omega
theorem and_pow (v k : Nat) : v &&& 2 ^ k = (v.testBit k).toNat * 2 ^ k := by
  apply Nat.eq_of_testBit_eq
  intro i
  rw [Nat.testBit_and, Nat.testBit_two_pow]
  by_cases h : k = i
  · subst h
    cases v.testBit k <;> simp [Nat.testBit_two_pow]
  · cases v.testBit k <;> simp [Nat.testBit_two_pow, h]
theorem and_sign (v : Nat) (h1 : v < 18446744073709551616) : bits BinOp.and IntKind.u64 (v : Int) 9223372036854775808 = (((decide (v / 9223372036854775808 % 2 = 1)).toNat * 9223372036854775808 : Nat) : Int) := by
  have h := (bits_nat .u64 64 (by decide) wraps64 v 9223372036854775808 (by omega) (by decide)).1
  have e : v &&& 9223372036854775808 = (v.testBit 63).toNat * 2 ^ 63 := and_pow v 63
  rw [e, Nat.testBit_eq_decide_div_mod_eq] at h
  exact h
theorem and_sign_lo (v : Int) (h0 : 0 ≤ v) (h1 : v < 9223372036854775808) : bits BinOp.and IntKind.u64 v 9223372036854775808 = 0 := by
  obtain ⟨a, rfl⟩ := Int.eq_ofNat_of_zero_le h0
  rw [and_sign a (by omega), show a / 9223372036854775808 % 2 = 0 by omega]
  rfl
theorem and_sign_hi (v : Int) (h0 : 9223372036854775808 ≤ v) (h1 : v < 18446744073709551616) : bits BinOp.and IntKind.u64 v 9223372036854775808 = 9223372036854775808 := by
  obtain ⟨a, rfl⟩ := Int.eq_ofNat_of_zero_le (show 0 ≤ v by omega)
  rw [and_sign a (by omega), show a / 9223372036854775808 % 2 = 1 by omega]
  rfl

theorem pack_yes (t n : Int) (h : gd t = true) (hn : 0 ≤ n) (hn' : n ≤ 255) (w : World) :
    Calls Tryd.prog 9 #[.agg #[.int .i64 t, .int .u8 n]] w fun e w' => e = .returned (.tuple #[.int .u64 (t * 256 + n), .int .i64 0]) ∧ Below w.heap.size w w' := by
  have hg := good_calls t n
  rw [h] at hg
  have HG := Lib.hid hg
  have ht : 0 ≤ t ∧ t ≤ 36028797018963967 := by simpa [gd] using h
  have ho := or_pack t n ht.1 ht.2 hn hn'
  have hw : IntKind.u64.wrap n = n := wraps63 n hn (by omega)
  have I0 := Lib.hid (isSt_new w t n)
  clear hg h
  go_enter Tryd.func9, Tryd.ntmps9
  go_wp2_with fail
  refine (HG.out _).mono ?_
  rintro e w1 ⟨rfl, hb1⟩
  have c0 := (I0.out.to hb1 (by simp)).c0
  have c1 := (I0.out.to hb1 (by simp)).c1
  have HB := Lib.hid (((Below.refl w.heap.size w).alloc (Nat.le_refl _) _).trans (hb1.mono (by simp)))
  clear hb1
  go_wp2_with fail
  go_ret2
  exact ⟨rfl, HB.out⟩

theorem pack_no (t n : Int) (h : gd t = false) (w : World) :
    Calls Tryd.prog 9 #[.agg #[.int .i64 t, .int .u8 n]] w fun e w' => e = .returned (.tuple #[.int .u64 0, .int .i64 1]) ∧ Below w.heap.size w w' := by
  have hg := good_calls t n
  rw [h] at hg
  have HG := Lib.hid hg
  clear hg h
  go_enter Tryd.func9, Tryd.ntmps9
  go_wp2_with fail
  refine (HG.out _).mono ?_
  rintro e w1 ⟨rfl, hb1⟩
  have HB := Lib.hid hb1
  clear hb1
  go_wp2_with fail
  go_ret2
  exact ⟨rfl, ((Below.refl _ _).alloc (Nat.le_refl _) _).trans (HB.out.mono (by simp))⟩

theorem unpack_yes (v : Int) (h0 : 0 ≤ v) (h1 : v < 9223372036854775808) (w : World) :
    Calls Tryd.prog 10 #[.int .u64 v] w fun e w' => e = .returned (.tuple #[.agg (st2 (v / 256) (v % 256)), .int .i64 0]) ∧ Below w.heap.size w w' := by
  have ha := and_sign_lo v h0 h1
  have I0 := Lib.hid (isSt_new w 0 0)
  have e1 : IntKind.u8.wrap v = v % 256 := IntKind.wrap_u8 v
  go_enter Tryd.func10, Tryd.ntmps10
  go_wp2_with ((with_reducible refine stL (.tmp 2) (.tmp 13) _ (v / 256) (v % 256) 0 0 ?_ ?_ I0.out ?_); rfl; rfl)
  exact bodyPost_ret (v := .tuple #[.agg (st2 (v / 256) (v % 256)), .int .i64 0]) (res10 _ _ _ _ _ _ rfl rfl (I0.out.put _ _)) rfl ⟨rfl, below_setRow ((Below.refl _ _).alloc (Nat.le_refl _) _) (Nat.le_refl _) _⟩
theorem unpack_no (v : Int) (h0 : 9223372036854775808 ≤ v) (h1 : v < 18446744073709551616) (w : World) :
    Calls Tryd.prog 10 #[.int .u64 v] w fun e w' => e = .returned (.tuple #[.agg (st2 0 0), .int .i64 1]) ∧ Below w.heap.size w w' := by
  have ha := and_sign_hi v h0 h1
  have I0 := Lib.hid (isSt_new w 0 0)
  go_enter Tryd.func10, Tryd.ntmps10
  go_wp2_with ((with_reducible refine stL (.tmp 2) (.tmp 7) _ 0 0 0 0 ?_ ?_ I0.out ?_); rfl; rfl)
  exact bodyPost_ret (v := .tuple #[.agg (st2 0 0), .int .i64 1]) (res10 _ _ _ _ _ _ rfl rfl (I0.out.put _ _)) rfl ⟨rfl, below_setRow ((Below.refl _ _).alloc (Nat.le_refl _) _) (Nat.le_refl _) _⟩

/-! Next. -/
theorem next_no (t n : Int) (h : gd t = false) (w : World) :
    Calls Tryd.prog 13 #[.agg #[.int .i64 t, .int .u8 n]] w fun e w' => e = .returned (.tuple #[.agg (st2 0 0), .int .i64 1]) ∧ Below w.heap.size w w' := by
  have hg := good_calls t n
  rw [h] at hg
  have HG := Lib.hid hg
  have I2 := Lib.hid (isSt_new (w.alloc (.cells #[.int .i64 t, .int .u8 n] 23)) 0 0)
  clear hg h
  go_enter Tryd.func13, Tryd.ntmps13
  go_wp2_with fail
  refine (HG.out _).mono ?_
  rintro e w1 ⟨rfl, hb1⟩
  have J2 := I2.out.to hb1 (by simp)
  simp only [World.size_alloc] at J2
  have HJ := Lib.hid J2
  have HB := Lib.hid ((((Below.refl w.heap.size w).alloc (Nat.le_refl _) _).alloc (by simp) _).trans (hb1.mono (by simp; omega)))
  clear hb1 J2
  go_wp2_with ((with_reducible refine stL (.tmp 2) (.tmp 8) _ 0 0 0 0 ?_ ?_ HJ.out ?_); rfl; rfl)
  exact bodyPost_ret (v := .tuple #[.agg (st2 0 0), .int .i64 1]) (res13 _ _ _ _ _ _ rfl rfl (HJ.out.put _ _)) rfl ⟨rfl, below_setRow HB.out (by omega) _⟩
theorem next_spent (n : Int) (w : World) :
    Calls Tryd.prog 13 #[.agg #[.int .i64 36028797018963967, .int .u8 n]] w fun e w' => e = .returned (.tuple #[.agg (st2 0 0), .int .i64 12]) ∧ Below w.heap.size w w' := by
  have hg := good_calls 36028797018963967 n
  rw [show gd 36028797018963967 = true from rfl] at hg
  have HG := Lib.hid hg
  have I0 := Lib.hid ((isSt_new w 36028797018963967 n).alloc (.cells #[.int .i64 0, .int .u8 0] 23))
  have I2 := Lib.hid (isSt_new (w.alloc (.cells #[.int .i64 36028797018963967, .int .u8 n] 23)) 0 0)
  clear hg
  go_enter Tryd.func13, Tryd.ntmps13
  go_wp2_with fail
  refine (HG.out _).mono ?_
  rintro e w1 ⟨rfl, hb1⟩
  have c0 := (I0.out.to hb1 (by simp; omega)).c0
  have J2 := I2.out.to hb1 (by simp)
  simp only [World.size_alloc] at J2
  have HJ := Lib.hid J2
  have HB := Lib.hid ((((Below.refl w.heap.size w).alloc (Nat.le_refl _) _).alloc (by simp) _).trans (hb1.mono (by simp; omega)))
  clear hb1 J2
  go_wp2_with ((with_reducible refine stL (.tmp 2) (.tmp 13) _ 0 0 0 0 ?_ ?_ HJ.out ?_); rfl; rfl)
  exact bodyPost_ret (v := .tuple #[.agg (st2 0 0), .int .i64 12]) (res13 _ _ _ _ _ _ rfl rfl (HJ.out.put _ _)) rfl ⟨rfl, below_setRow HB.out (by omega) _⟩
theorem IsSt.set0 {W : World} {g : Nat} {t n : Int} (H : IsSt W g t n) (x : Int) : IsSt (W.setCell ⟨g, 0, none⟩ (.int .i64 x)) g x n := by
  have hlt := H.lt
  unfold IsSt at *
  have h' : W.heap[g] = .cells #[.int .i64 t, .int .u8 n] 23 (0, 0) := by simpa [Array.getElem?_eq_getElem hlt] using H
  show (W.heap.modify g _)[g]? = _
  rw [Array.getElem?_eq_getElem (by simpa using hlt), Array.getElem_modify_self, h']
  rfl
theorem below_setCell {b : Nat} {w W : World} (H : Below b w W) {p : Addr} (hp : b ≤ p.block) (u : Value) : Below b w (W.setCell p u) :=
  H.trans ⟨rfl, rfl, rfl, by simp [World.setCell], fun k hk => Below.heap_setCell W p u k (by omega)⟩
theorem IsSt.setO {W : World} {g : Nat} {t n : Int} (H : IsSt W g t n) (p : Addr) (hne : g ≠ p.block) (u : Value) : IsSt (W.setCell p u) g t n := (Below.heap_setCell W p u g hne).trans H
theorem next_yes (t n : Int) (h : gd t = true) (h2 : t ≠ 36028797018963967) (w : World) :
    Calls Tryd.prog 13 #[.agg #[.int .i64 t, .int .u8 n]] w fun e w' => e = .returned (.tuple #[.agg (st2 (t + 1) n), .int .i64 0]) ∧ Below w.heap.size w w' := by
  have hg := good_calls t n
  rw [h] at hg
  have HG := Lib.hid hg
  have ht : 0 ≤ t ∧ t ≤ 36028797018963967 := by simpa [gd] using h
  have I0 := Lib.hid ((isSt_new w t n).alloc (.cells #[.int .i64 0, .int .u8 0] 23))
  have I2 := Lib.hid (isSt_new (w.alloc (.cells #[.int .i64 t, .int .u8 n] 23)) 0 0)
  clear hg h
  go_enter Tryd.func13, Tryd.ntmps13
  go_wp2_with fail
  refine (HG.out _).mono ?_
  rintro e w1 ⟨rfl, hb1⟩
  have J0 := I0.out.to hb1 (by simp; omega)
  have c0 := J0.c0
  have f0 := J0.fr 0
  have J2 := I2.out.to hb1 (by simp)
  simp only [World.size_alloc] at J2
  have HL := Lib.hid (J0.set0 (t + 1))
  have HJ := Lib.hid (J2.setO ⟨w.heap.size, 0, none⟩ (by simp) (.int .i64 (t + 1)))
  have HB := Lib.hid ((((Below.refl w.heap.size w).alloc (Nat.le_refl _) _).alloc (by simp) _).trans (hb1.mono (by simp; omega)))
  clear hb1 J2 J0
  go_wp2_with (first
    | ((with_reducible refine ldL (.tmp 1) _ (t + 1) n ?_ HL.out ?_); rfl)
    | ((with_reducible refine stL (.tmp 2) (.tmp 18) _ (t + 1) n 0 0 ?_ ?_ HJ.out ?_); rfl; rfl))
  exact bodyPost_ret (v := .tuple #[.agg (st2 (t + 1) n), .int .i64 0]) (res13 _ _ _ _ _ _ rfl rfl (HJ.out.put _ _)) rfl ⟨rfl, below_setRow (below_setCell HB.out (by simp) _) (by omega) _⟩

/-! awake. -/
end Go.Proofs.YtdmicehmmmpjcaaDoor
