/- What the methods of disc.Clock do to a clock that lies in a block of three cells (its node, its last time, its offset): contracts for every world; conditions: the last time from -1 to MaxTime, the offset within its bounds. -/
import Derived.Test.YtfebebjopjopcaaProg
import Derived.WalkKit
import Derived.KernelRfl
import Derived.StillTailTactics
import Derived.Deep.QuietTactic
import Derived.BigQuiet
import Derived.Lib.Hide
namespace Go.Proofs.YtfebebjopjopcaaG
open Go.RowKit
set_option linter.unusedVariables false
set_option linter.unusedSimpArgs false

theorem still_tail {P : Program} {id : Nat} {Q : Exit → Act → World → Prop} {a : Act} {w : World} {l : List Oper} (n : Nat) (hm : P.follows .mixedOrders = true) (hB : Region.lexTailB .any l.toArray n = true)
    (hh : wpStill P l.toArray w.drew (fun a' => wpList P l.toArray Q (l.drop n) a' w.drew) (l.take n) a) : (Code.region id l.toArray true).wp P Q a w :=
  wp_region_still_tail n hm hB hh

def IsClk (w : World) (g : Nat) (n h o : Int) : Prop := w.heap[g]? = some (.cells #[.int .u8 n, .int .i64 h, .int .i64 o] 49 (0, 0))
theorem IsClk.c0 {w : World} {g : Nat} {n h o : Int} (H : IsClk w g n h o) : w.cell? ⟨g, 0, none⟩ = some (.int .u8 n) := by unfold IsClk at H; simp [World.cell?, H]
theorem IsClk.c1 {w : World} {g : Nat} {n h o : Int} (H : IsClk w g n h o) : w.cell? ⟨g, 1, none⟩ = some (.int .i64 h) := by unfold IsClk at H; simp [World.cell?, H]
theorem IsClk.c2 {w : World} {g : Nat} {n h o : Int} (H : IsClk w g n h o) : w.cell? ⟨g, 2, none⟩ = some (.int .i64 o) := by unfold IsClk at H; simp [World.cell?, H]
theorem IsClk.fr {w : World} {g : Nat} {n h o : Int} (H : IsClk w g n h o) (i : Nat) : w.frozen? ⟨g, i, none⟩ = false := by unfold IsClk at H; simp [World.frozen?, H]

def mx (a b : Int) : Int := if b > a then b else a
def mn (a b : Int) : Int := if b < a then b else a
theorem fold_mx : ∀ x y : Int, (if x < y then y else x) = mx x y := fun _ _ => rfl
theorem fold_mn : ∀ x y : Int, (if y < x then y else x) = mn x y := fun _ _ => rfl
theorem mx_le (a b : Int) : a ≤ mx a b ∧ b ≤ mx a b ∧ (mx a b = a ∨ mx a b = b) := by unfold mx; split <;> omega
theorem mn_le (a b : Int) : mn a b ≤ a ∧ mn a b ≤ b ∧ (mn a b = a ∨ mn a b = b) := by unfold mn; split <;> omega
def rdT (h o raw : Int) : Int := mx (mn (mx (mn (mx raw (-1099511627776)) 36029896530591743 + o) 0) 36028797018963967) h

set_option maxHeartbeats 400000 in
theorem read_calls (g : Nat) (n h o raw : Int) (w : World) (H : IsClk w g n h o) (ho : -1099511627776 ≤ o ∧ o ≤ 1099511627776) :
    Calls Try.prog 16 #[.pointer (some ⟨g, 0, none⟩), .int .i64 raw] w fun e w' => e = .returned (.int .i64 (rdT h o raw)) ∧ w = w' := by
  have c1 := H.c1
  have c2 := H.c2
  have b1 := mx_le raw (-1099511627776)
  have b2 := mn_le (mx raw (-1099511627776)) 36029896530591743
  have b3 : -1099511627776 ≤ mn (mx raw (-1099511627776)) 36029896530591743 := by omega
  have b4 := b2.2.1
  clear H b1 b2
  have fx := fold_mx
  have fn := fold_mn
  go_enter Try.func16, Try.ntmps16
  go_wp2
  go_ret
  exact ⟨rfl, rfl⟩

theorem high_calls (g : Nat) (n h o : Int) (w : World) (H : IsClk w g n h o) :
    Calls Try.prog 12 #[.pointer (some ⟨g, 0, none⟩)] w fun e w' => e = .returned (.int .i64 h) ∧ w = w' := by
  have c1 := H.c1
  clear H
  go_enter Try.func12, Try.ntmps12
  go_wp2
  go_ret
  exact ⟨rfl, rfl⟩

theorem new_no (n h : Int) (w : World) (hb : h < -1 ∨ 36028797018963967 < h) :
    Calls Try.prog 10 #[.int .u8 n, .int .i64 h] w fun e w' => e = .returned (.tuple #[.pointer none, .int .i64 1]) ∧ w = w' := by
  rcases hb with hb | hb
  · go_enter Try.func10, Try.ntmps10
    go_wp2
    go_ret2
    exact ⟨rfl, rfl⟩
  · have hb' : ¬ h < -1 := by omega
    go_enter Try.func10, Try.ntmps10
    go_wp2
    go_ret2
    exact ⟨rfl, rfl⟩

theorem new_yes (n h : Int) (w : World) (h1 : -1 ≤ h) (h2 : h ≤ 36028797018963967) :
    Calls Try.prog 10 #[.int .u8 n, .int .i64 h] w fun e w' => e = .returned (.tuple #[.pointer (some ⟨w.heap.size, 0, none⟩), .int .i64 0]) ∧ w' = w.alloc (.cells #[.int .u8 n, .int .i64 h, .int .i64 0] 49) := by
  go_enter Try.func10, Try.ntmps10
  go_wp2
  go_ret2
  exact ⟨rfl, rfl⟩

theorem IsClk.lt {w : World} {g : Nat} {n h o : Int} (H : IsClk w g n h o) : g < w.heap.size := lt_of_block H
theorem IsClk.alloc {w : World} {g : Nat} {n h o : Int} (H : IsClk w g n h o) (x : Obj) : IsClk (w.alloc x) g n h o := by
  unfold IsClk
  rw [Below.heap_alloc _ _ _ H.lt]
  exact H
theorem IsClk.drew {w : World} {g : Nat} {n h o : Int} (H : IsClk w g n h o) : IsClk w.drew g n h o := H

theorem World.grownBy_refl' (w : World) (r : Option Nat) : w.grownBy w r := ⟨rfl, rfl, rfl, Nat.le_refl _, fun _ _ _ => rfl⟩
theorem grown_drew {a w : World} {r : Option Nat} (H : a.grownBy w r) : a.grownBy w.drew r := ⟨H.os, H.tape, H.output, H.size, H.block⟩
theorem grown_alloc {a w : World} {r : Option Nat} (H : a.grownBy w r) (x : Obj) : a.grownBy (w.alloc x) r :=
  ⟨H.os, H.tape, H.output, Nat.le_trans H.size (by simp), fun i hi hne => (Below.heap_alloc w x i (Nat.lt_of_lt_of_le hi H.size)).trans (H.block i hi hne)⟩
theorem grown_set {a w : World} {r : Option Nat} (H : a.grownBy w r) {p : Addr} (hp : some p.block = r ∨ a.heap.size ≤ p.block) (u : Value) : a.grownBy (w.setCell p u) r :=
  ⟨H.os, H.tape, H.output, by simpa [World.setCell] using H.size, fun i hi hne => (Below.heap_setCell w p u i (by
    rintro rfl
    rcases hp with hp | hp
    · exact hne hp
    · omega)).trans (H.block i hi hne)⟩
theorem IsClk.set1 {w : World} {g : Nat} {n h o : Int} (H : IsClk w g n h o) (x : Int) : IsClk (w.setCell ⟨g, 1, none⟩ (.int .i64 x)) g n x o := by
  have hlt := H.lt
  unfold IsClk at *
  have h' : w.heap[g] = .cells #[.int .u8 n, .int .i64 h, .int .i64 o] 49 (0, 0) := by simpa [Array.getElem?_eq_getElem hlt] using H
  show (w.heap.modify g _)[g]? = _
  rw [Array.getElem?_eq_getElem (by simpa using hlt), Array.getElem_modify_self, h']
  rfl

theorem issue_spent (g : Nat) (n o raw : Int) (w : World) (H : IsClk w g n 36028797018963967 o) :
    Calls Try.prog 11 #[.pointer (some ⟨g, 0, none⟩), .int .i64 raw] w fun e w' => e = .returned (.tuple #[.agg #[.int .i64 0, .int .u8 0], .int .i64 12]) ∧ w.grownBy w' none := by
  have c1 := H.c1
  have hl := H.lt
  clear H
  go_enter Try.func11, Try.ntmps11
  go_wp2
  exact bodyPost_ret (v := .tuple #[.agg #[.int .i64 0, .int .u8 0], .int .i64 12]) (by simp [results, Try.results11, go_sem]) rfl ⟨rfl, World.grownBy_alloc _ _ _⟩

theorem issue_ok (g : Nat) (n hh o raw : Int) (w : World) (H : IsClk w g n hh o) (ho : -1099511627776 ≤ o ∧ o ≤ 1099511627776) (h1 : -1 ≤ hh) (h2 : hh < 36028797018963967) :
    Calls Try.prog 11 #[.pointer (some ⟨g, 0, none⟩), .int .i64 raw] w fun e w' => e = .returned (.tuple #[.agg #[.int .i64 (mx (rdT hh o raw) (hh + 1)), .int .u8 n], .int .i64 0]) ∧
      w.grownBy w' (some g) ∧ IsClk w' g n (mx (rdT hh o raw) (hh + 1)) o := by
  have c0 := H.c0
  have c1 := H.c1
  have f1 := H.fr 1
  have hl := H.lt
  have cc : ∀ x : Obj, Calls Try.prog 16 #[.pointer (some ⟨g, 0, none⟩), .int .i64 raw] (w.alloc x).drew fun e w' => e = .returned (.int .i64 (rdT hh o raw)) ∧ w' = (w.alloc x).drew :=
    fun x => (read_calls g n hh o raw _ (H.alloc x).drew ho).mono fun _ _ hx => ⟨hx.1, hx.2.symm⟩
  have HC := Lib.hid cc
  have HH := Lib.hid H
  clear H cc
  have fx := fold_mx
  go_enter Try.func11, Try.ntmps11
  go_wp2_with fail
  refine still_tail 12 (by kernel_rfl) (by kernel_rfl) ?_
  simp only [List.take_succ_cons, List.take_zero, List.drop_succ_cons, List.drop_zero]
  repeat (first | still_step | still_call (HC.out _))
  refine wpStill_nil ?_
  go_wp2_with fail
  refine still_tail 9 (by kernel_rfl) (by kernel_rfl) ?_
  simp only [List.take_succ_cons, List.take_zero, List.drop_succ_cons, List.drop_zero]
  repeat still_step
  refine wpStill_nil ?_
  go_wp2_with fail
  refine bodyPost_ret (v := .tuple #[.agg #[.int .i64 (mx (rdT hh o raw) (hh + 1)), .int .u8 n], .int .i64 0]) (by simp [results, Try.results11, go_sem]) rfl ⟨rfl, ?_, ?_⟩
  · exact grown_drew (grown_alloc (grown_drew (grown_set (World.grownBy_refl' _ _) (.inl rfl) _)) _)
  · exact ((HH.out.set1 _).alloc _)

theorem IsClk.new (w : World) (n h o : Int) : IsClk (w.alloc (.cells #[.int .u8 n, .int .i64 h, .int .i64 o] 49)) w.heap.size n h o := heap_alloc_new w _

theorem issue_t (t : Int) (g : Nat) (n hh o raw : Int) (w : World) (H : IsClk w g n hh o) (ho : -1099511627776 ≤ o ∧ o ≤ 1099511627776) (h1 : -1 ≤ hh) (h2 : hh < 36028797018963967) (ht : mx (rdT hh o raw) (hh + 1) = t) :
    Calls Try.prog 11 #[.pointer (some ⟨g, 0, none⟩), .int .i64 raw] w fun e w' => e = .returned (.tuple #[.agg #[.int .i64 t, .int .u8 n], .int .i64 0]) ∧
      w.grownBy w' (some g) ∧ IsClk w' g n t o := by
  subst ht
  exact issue_ok g n hh o raw w H ho h1 h2

theorem cells_two {w : World} {b : Nat} {x y : Value} {t : TypeId} (H : w.heap[b]? = some (.cells #[x, y] t (0, 0))) : w.cell? ⟨b, 0, none⟩ = some x ∧ w.cell? ⟨b, 1, none⟩ = some y := by
  simp [World.cell?, H]

theorem below_of_grown {a w w' : World} {B g : Nat} (H : Below B a w) (hB : B ≤ w.heap.size) (hg : w.grownBy w' (some g)) (hle : B ≤ g) : Below B a w' :=
  H.grown hg hB (by rintro k hk; injection hk with hk; omega)

set_option maxHeartbeats 400000 in
theorem awake_calls (w : World) : Calls Try.prog 9 #[] w fun e w' => e = .returned (.bool true) ∧ Below w.heap.size w w' := by
  have hk := Lib.hid (IsClk.new w 3 (-1) 0)
  go_enter Try.func9, Try.ntmps9
  go_wp2_with fail
  refine (new_yes 3 (-1) w (by omega) (by omega)).mono ?_
  rintro e w' ⟨rfl, rfl⟩
  go_wp2_with fail
  refine (issue_t 0 w.heap.size 3 (-1) 0 (-5) _ hk.out (by omega) (by omega) (by omega) (by decide)).mono ?_
  rintro e w1 ⟨rfl, hg1, hc1⟩
  have HG1 := Lib.hid hg1
  have HC1 := Lib.hid hc1
  have hs1 : w.heap.size < w1.heap.size := hc1.lt
  clear hg1 hc1
  go_wp2_with fail
  refine (issue_t 1 w.heap.size 3 0 0 (-5) _ (HC1.out.alloc _) (by omega) (by omega) (by omega) (by decide)).mono ?_
  rintro e w2 ⟨rfl, hg2, hc2⟩
  obtain ⟨a0, a1⟩ := cells_two (w := w2) (b := w1.heap.size) ((hg2.block _ (by simp) (by simp; omega)).trans (heap_alloc_new w1 _))
  have hs2 : w1.heap.size < w2.heap.size := by have := hg2.size; simp at this; omega
  have HG2 := Lib.hid hg2
  have HC2 := Lib.hid hc2
  clear hg2 hc2
  go_wp2_with fail
  refine (high_calls w.heap.size 3 1 0 _ (HC2.out.alloc _)).mono ?_
  rintro e w3 ⟨rfl, rfl⟩
  go_wp2_with fail
  go_ret
  refine ⟨rfl, ?_⟩
  have B1 : Below w.heap.size w w1 := below_of_grown ((Below.refl _ w).alloc (Nat.le_refl _) _) (by simp) HG1.out (Nat.le_refl _)
  have B2 : Below w.heap.size w w2 := below_of_grown (B1.alloc (by omega) _) (by simp; omega) HG2.out (Nat.le_refl _)
  exact B2.alloc (by omega) _
end Go.Proofs.YtfebebjopjopcaaG
