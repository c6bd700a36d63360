/- Packets: a copy of one, a way's name, a node's number: contracts for every world. Conditions: each theorem's own. -/
import Derived.Test.YtopnbhinifejkaaBy
import Derived.DeepKeys4
import Derived.Laws.ResultCell
namespace Go.Proofs.Ytopnbhinifejkaa
open Go.RowKit Go.Proofs.Ytopnbhinifejkaa.Sp
set_option linter.unusedVariables false
set_option linter.unusedSimpArgs false
structure Pk where
  fr : Int
  dt : Int
  b : List UInt8
def pkC (v : Value) (p : Pk) : Array Value := #[.int .i64 p.fr, .int .i64 p.dt, v]
def netO (nodes room : Int) (l : Value) (mb : Nat) : Obj := .cells #[.int .i64 nodes, .int .i64 room, l, .map (some mb)] 58 (0, 0)
theorem und31 : ∃ d, Try.prog.underlying 31 = some d ∧ (match d with | .struct _ | .array _ _ => true | _ => false) = true := ⟨_, rfl, rfl⟩
theorem info31 (v : Value) (p : Pk) : (Try.prog.info? 31).map (·.size) = some (pkC v p).size := by kernel_rfl
theorem node_calls (g : Nat) (nodes room k : Int) (l : Value) (mb : Nat) (w : World) (H : w.heap[g]? = some (netO nodes room l mb)) :
    Calls Try.prog 24 #[.pointer (some ⟨g, 0, none⟩), .int .i64 k] w fun e w' => e = .returned (.bool (decide (0 ≤ k ∧ k < nodes))) ∧ w' = w := by
  have c0 : w.cell? ⟨g, 0, none⟩ = some (.int .i64 nodes) := by simp [World.cell?, H, netO]
  clear H
  by_cases h : 0 ≤ k
  · go_enter Try.func24, Try.ntmps24
    go_wp2
    go_ret
    exact ⟨by simp [h], rfl⟩
  · have h' : decide (0 ≤ k ∧ k < nodes) = false := decide_eq_false (fun x => h x.1)
    go_enter Try.func24, Try.ntmps24
    go_wp2
    go_ret
    refine ⟨?_, rfl⟩
    first | rfl | (rw [h']; rfl)
theorem has_calls (g : Nat) (nodes room k : Int) (A : Option Addr) (n c mb : Nat) (w : World) (H : w.heap[g]? = some (netO nodes room (.slice A n c) mb)) :
    Calls Try.prog 27 #[.pointer (some ⟨g, 0, none⟩), .int .i64 k] w fun e w' => e = .returned (.bool (decide (0 ≤ k ∧ k < n))) ∧ w' = w := by
  have c0 : w.cell? ⟨g, 2, none⟩ = some (.slice A n c) := by simp [World.cell?, H, netO]
  clear H
  by_cases h : 0 ≤ k
  · go_enter Try.func27, Try.ntmps27
    go_wp2
    go_ret
    exact ⟨by simp [h], rfl⟩
  · have h' : decide (0 ≤ k ∧ k < (n : Int)) = false := decide_eq_false (fun x => h x.1)
    go_enter Try.func27, Try.ntmps27
    go_wp2
    go_ret
    refine ⟨?_, rfl⟩
    first | rfl | (rw [h']; rfl)
def wayC (a b : Int) : Array Value := #[.int .i64 (if a < b then a else b), .int .i64 (if a < b then b else a)]
theorem info59 (a b : Int) : (Try.prog.info? 59).map (·.size) = some (wayC a b).size := by kernel_rfl
theorem und59 : ∃ d, Try.prog.underlying 59 = some d ∧ (match d with | .struct _ | .array _ _ => true | _ => false) = true := ⟨_, rfl, rfl⟩
theorem info59n (x y : Value) : (Try.prog.info? 59).map (·.size) = some (#[x, y] : Array Value).size := by kernel_rfl
theorem way_calls (a b : Int) (w : World) : Calls Try.prog 25 #[.int .i64 a, .int .i64 b] w fun e w' => e = .returned (.agg (wayC a b)) ∧ Below w.heap.size w w' := by
  by_cases h : a < b
  · have e : wayC a b = #[.int .i64 a, .int .i64 b] := by simp [wayC, h]
    have h2 : ¬ b < a := by omega
    have h3 : ¬ b ≤ a := by omega
    rw [e]
    clear e
    go_enter Try.func25, Try.ntmps25
    go_wp2
    exact bodyPost_ret (v := .agg #[.int .i64 a, .int .i64 b]) (results_cell_row Try.results25 _ _ w.heap.size 59 _ (0, 0) _ rfl (heap_alloc_new w _) Try.underlying59 rfl (info59n _ _)) rfl ⟨rfl, (Below.refl _ w).alloc (Nat.le_refl _) _⟩
  · by_cases h2 : b < a
    · have e : wayC a b = #[.int .i64 b, .int .i64 a] := by simp [wayC, h]
      have h3 : ¬ a ≤ b := by omega
      rw [e]
      clear e
      go_enter Try.func25, Try.ntmps25
      go_wp2
      exact bodyPost_ret (v := .agg #[.int .i64 b, .int .i64 a]) (results_cell_row Try.results25 _ _ w.heap.size 59 _ (0, 0) _ rfl (heap_alloc_new w _) Try.underlying59 rfl (info59n _ _)) rfl ⟨rfl, (Below.refl _ w).alloc (Nat.le_refl _) _⟩
    · obtain rfl : a = b := by omega
      have e : wayC a a = #[.int .i64 a, .int .i64 a] := by simp [wayC]
      rw [e]
      clear e
      go_enter Try.func25, Try.ntmps25
      go_wp2
      exact bodyPost_ret (v := .agg #[.int .i64 a, .int .i64 a]) (results_cell_row Try.results25 _ _ w.heap.size 59 _ (0, 0) _ rfl (heap_alloc_new w _) Try.underlying59 rfl (info59n _ _)) rfl ⟨rfl, (Below.refl _ w).alloc (Nat.le_refl _) _⟩
/-- A packet that lies in a block of its own, loaded, stored. -/
theorem ldP {ops : Array Oper} {rest : List Oper} {dst : Option Tmp} {ty : TypeId} {pos : String} {af : Array Edge} {a : Act} {w : World} {Q : Exit → Act → World → Prop} (x : Operand) (g : Nat) (v : Value) (p : Pk)
    (hx : a.eval x = .pointer (some ⟨g, 0, none⟩)) (hg : w.heap[g]? = some (.cells (pkC v p) 31 (0, 0)))
    (hh : wpList Try.prog ops Q rest (a.put dst (.agg (pkC v p))) w) : wpList Try.prog ops Q ({ dst := dst, op := .load 31 x, type := ty, pos := pos, after := af, guard := none } :: rest) a w := by
  obtain ⟨d, h1, h2⟩ := und31
  exact wpList_load_row rfl 31 x rfl g hx 31 (pkC v p) (0, 0) d hg h1 (by cases d <;> simp_all) (info31 v p) hh
theorem stP {ops : Array Oper} {rest : List Oper} {dst : Option Tmp} {ty : TypeId} {pos : String} {af : Array Edge} {a : Act} {w : World} {Q : Exit → Act → World → Prop} (x y : Operand) (g : Nat) (v v' : Value) (p p' : Pk) (h1c : v.oneCell' = true)
    (hx : a.eval x = .pointer (some ⟨g, 0, none⟩)) (hy : a.eval y = .agg (pkC v p)) (hg : w.heap[g]? = some (.cells (pkC v' p') 31 (0, 0)))
    (hh : wpList Try.prog ops Q rest (a.put dst undef) (w.setRow g (pkC v p))) : wpList Try.prog ops Q ({ dst := dst, op := .store 31 x y, type := ty, pos := pos, after := af, guard := none } :: rest) a w :=
  wpList_store_row rfl 31 x y rfl g (pkC v p) hx hy 31 (pkC v' p') hg (info31 v p) rfl (by cases v <;> simp_all [pkC, Value.oneCell']) hh
theorem info31n (v : Value) (p : Pk) : (Try.prog.info? 31).map (·.size) = some (pkC v p).size := by kernel_rfl
theorem copied_calls (v : Value) (p : Pk) (A : Option Addr) (c : Nat) (w0 w : World) (F : Hp) (hv : v = .slice A p.b.length c) (hc : A = none → c = 0) (hr : Reads w A p.b.length 1 (bv p.b)) (hl : p.b.length ≤ 140737488355328) (H : Holds w0 F w) :
    Calls Try.prog 26 #[.agg (pkC v p)] w fun e w' => ∃ v', e = .returned (.agg (pkC v' p)) ∧ ∃ h, RowB 5 1 v' p.b.length (bv p.b) h ∧ Holds w0 (h ++ F) w' := by
  subst hv
  have HR := Lib.hid hr
  have H1 := H.alloc (.cells (pkC (.slice A p.b.length c) p) 31)
  have H2 := H1.alloc (.cells #[.int .i64 0, .int .i64 0, .slice none 0 0] 31)
  have HH := Lib.hid H2
  clear hr H H1 H2
  have c2 : ((w.alloc (.cells (pkC (.slice A p.b.length c) p) 31)).alloc (.cells #[.int .i64 0, .int .i64 0, .slice none 0 0] 31)).cell? ⟨w.heap.size, 2, none⟩ = some (.slice A p.b.length c) := HH.out.tail.cell 2
  go_enter Try.func26, Try.ntmps26
  go_wp2_with fail
  refine (clone_calls A c p.b w0 _ _ hc (HR.out.below (((Below.refl _ w).alloc (Nat.le_refl _) _).alloc (by simp) _)) hl HH.out).mono ?_
  rintro e w2 ⟨v', rfl, h', hR, hH⟩
  obtain ⟨A', c', rfl, _, _⟩ := RowB.form hR
  have hRR := Lib.hid hR
  have d0 : w2.cell? ⟨w.heap.size, 2, none⟩ = some (.slice A p.b.length c) := hH.right.tail.cell 2
  have f0 : w2.frozen? ⟨w.heap.size, 2, none⟩ = false := hH.right.tail.froz 2
  have H3 := ((hH.perm (k := (w.heap.size, .cells (pkC (.slice A p.b.length c) p) 31) :: (w.heap.size + 1, .cells #[.int .i64 0, .int .i64 0, .slice none 0 0] 31) :: (h' ++ F)) (by
    have e : (w.alloc (.cells (pkC (.slice A p.b.length c) p) 31)).heap.size = w.heap.size + 1 := by simp
    classical
    rw [e, List.perm_iff_count]; intro a; simp only [List.count_append, List.count_cons]; omega)).set 2 (.slice A' p.b.length c'))
  have g0 : (w2.setCell ⟨w.heap.size, 2, none⟩ (.slice A' p.b.length c')).heap[w.heap.size]? = some (.cells (pkC (.slice A' p.b.length c') p) 31 (0, 0)) := H3.get
  have g1 : (w2.setCell ⟨w.heap.size, 2, none⟩ (.slice A' p.b.length c')).heap[w.heap.size + 1]? = some (.cells (pkC (.slice none 0 0) ⟨0, 0, []⟩) 31 (0, 0)) := H3.tail.get
  have hgr := row_grown (w2.setCell ⟨w.heap.size, 2, none⟩ (.slice A' p.b.length c')) (w.heap.size + 1) (pkC (.slice A' p.b.length c') p)
  have H4 := (H3.tail.turn hgr (setRow_heap _ _ _ _ _ _ g1))
  have HH2 := Lib.hid H4.tail
  have g2 : ((w2.setCell ⟨w.heap.size, 2, none⟩ (.slice A' p.b.length c')).setRow (w.heap.size + 1) (pkC (.slice A' p.b.length c') p)).heap[w.heap.size + 1]? = some (.cells (pkC (.slice A' p.b.length c') p) 31 (0, 0)) := H4.get
  clear hR hH c2 HH H4 hgr H3
  go_wp2_with (first | (with_reducible refine ldP (.tmp 1) w.heap.size (.slice A' p.b.length c') p rfl g0 ?_) | (with_reducible refine stP (.tmp 2) (.tmp 7) (w.heap.size + 1) (.slice A' p.b.length c') (.slice none 0 0) p ⟨0, 0, []⟩ rfl rfl rfl g1 ?_))
  exact bodyPost_ret (v := .agg (pkC (.slice A' p.b.length c') p)) (results_cell_row Try.results26 _ _ (w.heap.size + 1) 31 _ (0, 0) _ rfl g2 Try.underlying31 rfl (info31 _ _)) rfl ⟨_, rfl, h', hRR.out, HH2.out⟩
end Go.Proofs.Ytopnbhinifejkaa
