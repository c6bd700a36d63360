/- slices.Values of a slice of keys: an iterator's contract for every loop that keeps what lay before (SeqB). No condition but the reach. -/
import Derived.Test.YtnmnniknklfemaaSo
import Derived.Test.YtnmnniknklfemaaRw
import Derived.RangeFuncBox
import Derived.RangeFuncGives
import Derived.RangeFuncLeaves
import Derived.Shelf.AbstractIn
import Derived.OwnWalkIn
import Derived.TacticsInMore
import Derived.LoopNIn
import Derived.LoopIn
import Derived.Below
namespace Go.Proofs.Ytnmnniknklfemaa
open Go.RowKit Go.Maps Go.Sort Go.Shelf
attribute [local go_sem] Oper.semAt_some
set_option linter.unusedVariables false
set_option linter.unusedSimpArgs false

/-! ### a key's load and store inside a fence -/
theorem ldI {F : Fence} {nF : Nat} {ops : Array Oper} {rest : List Oper} {o : Oper} {a : Act} {w : World} {Q : Exit → Act → World → Prop} (x : Operand) (hgd : o.guard = none) (ho : o.op = .load 23 x)
    (ad : Addr) (hx : a.eval x = .pointer (some ad)) (l : List UInt8) (hc : ∀ j, j < 16 → w.cell? (ad.add j) = some (.int .u8 (kb l j)))
    (hh : wpListIn F nF Try.prog ops Q rest (a.put o.dst (.agg (kv l))) w) : wpListIn F nF Try.prog ops Q (o :: rest) a w := by
  refine wpListIn_plain hgd fun K hK => ?_
  unfold Oper.wpIn
  refine ⟨by simp [Oper.about, ho], ?_⟩
  rw [Oper.semAt_plain F _ _ (by rw [ho]; intro c hc'; cases hc')]
  unfold execOp
  simp only [ho, hx, Instr.loadAt, Instr.sureAddr, Sem.run_bind, Sem.run_pure, Result.andThen_ok, run_load_key ad l hc]
  exact hK _ _ hh
theorem stI {F : Fence} {nF : Nat} {ops : Array Oper} {rest : List Oper} {o : Oper} {a : Act} {w : World} {Q : Exit → Act → World → Prop} (x y : Operand) (hgd : o.guard = none) (ho : o.op = .store 23 x y)
    (g : Nat) (l m : List UInt8) (hx : a.eval x = .pointer (some ⟨g, 0, none⟩)) (hy : a.eval y = .agg (kv l)) (hg : w.heap[g]? = some (.cells (kv m) 23 (0, 0)))
    (hh : wpListIn F nF Try.prog ops Q rest (a.put o.dst undef) (w.setRow g (kv l))) : wpListIn F nF Try.prog ops Q (o :: rest) a w := by
  refine wpListIn_plain hgd fun K hK => ?_
  unfold Oper.wpIn
  refine ⟨by simp [Oper.about, ho], ?_⟩
  rw [Oper.semAt_plain F _ _ (by rw [ho]; intro c hc'; cases hc')]
  unfold execOp
  simp only [ho, hx, hy, Instr.storeAt, Instr.sureAddr, Sem.run_bind, Sem.run_pure, Result.andThen_ok, run_storeVar_row w g 23 23 (kv m) (kv l) hg (info23 l) (by rw [kv_size, kv_size]) (kv_one l)]
  exact hK _ _ hh
theorem row_cells {w : World} {g : Nat} {l : List UInt8} {fr : Nat × Nat} (H : w.heap[g]? = some (.cells (kv l) 23 fr)) : ∀ j, j < 16 → w.cell? ((⟨g, 0, none⟩ : Addr).add j) = some (.int .u8 (kb l j)) := fun j hj => by
  have e : (⟨g, 0, none⟩ : Addr).add j = ⟨g, j, none⟩ := by unfold Addr.add; split <;> simp_all
  rw [e]; simp [World.cell?, H, kv_get l j hj]

theorem row_grown_ (w : World) (g : Nat) (cs : Array Value) : w.grownBy (w.setRow g cs) (some g) :=
  Sp.row_grown w g cs
def SeqB {α : Type} (F : Fence) (n : Nat) (P : Program) (g : Nat) (lb : Array Value) (enc : α → Value) (S : List α → Prop) (N : Nat) (w : World) : Prop :=
  ∀ (l : Nat) (J : List α → World → Prop) (W : World), Below w.heap.size w W → (∀ s W1 W2, J s W1 → Below W1.heap.size W1 W2 → J s W2) → (∀ s W1, J s W1 → Below w.heap.size w W1) →
    (∀ pre x W1, J pre W1 → pre.length < N → YieldAt F (n - 1) P l #[enc x] W1 fun e W' => e = .returned (.bool true) ∧ J (pre ++ [x]) W') →
    J [] W →
    CallsIn F n P g (#[.func (.yield l) #[] #[]] ++ lb) W fun e W' => (∃ v, e = .returned v) ∧ ∃ xs, S xs ∧ J xs W'
def vK (x : K16) : Value := .agg (kv x.1)

theorem take_succ' (ks : List K16) (k : Nat) (hk : k < ks.length) : ks.take (k + 1) = ks.take k ++ [ks[k]] := by
  rw [List.take_succ_eq_append_getElem hk]

/-- What the argument's cells say: row k's key. -/
def Cells (w : World) (b off : Nat) (ks : List K16) : Prop := ∀ t v, (flat ks)[t]? = some v → w.cell? ⟨b, off + t, none⟩ = some v
theorem Cells.key {w : World} {b off : Nat} {ks : List K16} (h : Cells w b off ks) (k : Nat) (hk : k < ks.length) (j : Nat) (hj : j < 16) : w.cell? ⟨b, off + (k * 16 + j), none⟩ = some (.int .u8 (kb ks[k].1 j)) := by
  refine h _ _ ?_
  rw [flat_get ks k j hj, List.getElem?_eq_getElem hk]
  simp only [Option.bind_some]
  have := kv_get ks[k].1 j hj
  rw [← Array.getElem?_toList] at this
  exact this
theorem Cells.below {w W : World} {b off : Nat} {ks : List K16} (h : Cells w b off ks) (hb : b < w.heap.size) (hB : Below w.heap.size w W) : Cells W b off ks :=
  fun t v ht => (hB.cell (p := ⟨b, off + t, none⟩) hb).trans (h t v ht)

set_option maxRecDepth 100000 in
set_option maxHeartbeats 2000000 in
theorem values_gives (F : Fence) (n : Nat) (h36 : F.fn 36) (hro : F.round = none) (hn : 1 ≤ n) (Bs cap : Nat) (A : Option Addr) (b off : Nat) (ks : List K16) (hreach : ks.length * 16 ≤ 140737488351232) (w : World) (hBs : Bs < w.heap.size)
    (hc : w.cell? ⟨Bs, 0, none⟩ = some (.slice A ks.length cap)) (hA : 0 < ks.length → A = some ⟨b, off, none⟩ ∧ b < w.heap.size ∧ Cells w b off ks) :
    SeqB F n Try.prog 36 #[.pointer (some ⟨Bs, 0, none⟩)] vK (· = ks) ks.length w := fun l J W hW hJa hK hY h0 => by
  have HA := Lib.hid hA
  clear hA
  obtain ⟨len, hlen⟩ : ∃ len, ks.length = len := ⟨_, rfl⟩
  rw [hlen] at hreach hc hY
  have hB := (hW.cell (p := ⟨Bs, 0, none⟩) hBs).trans hc
  show CallsIn F n Try.prog 36 #[.func (.yield l) #[] #[], .pointer (some ⟨Bs, 0, none⟩)] W _
  refine callsIn_of_wp Try.func36 rfl h36 ?_ hro
  simp only [Try.ntmps36, List.size_toArray, List.length_cons, List.length_nil, Nat.reduceAdd, Nat.reduceSub, Array.replicate_succ, Array.replicate_zero, List.push_toArray, List.append_toArray, List.nil_append, List.cons_append]
  gi_wp2
  gi_loopw [7] (fun i wr => ∃ k : Nat, k ≤ len ∧ i = .int .i64 k ∧ J (ks.take k) wr)
    (fun i _ => len - (intOf i).toNat)
  case atStart => exact ⟨0, Nat.zero_le _, rfl, h0⟩
  case round =>
    obtain ⟨k, hk, rfl, hJs⟩ := hrel
    by_cases hlt : k < len
    · have hkl : k < ks.length := by omega
      obtain ⟨rfl, hbl, hcs⟩ := HA.out (by omega)
      obtain ⟨x, hx⟩ : ∃ x, ks[k] = x := ⟨_, rfl⟩
      have hcx : ∀ W1, Below w.heap.size w W1 → ∀ j, j < 16 → W1.cell? ((⟨b, off + k * 16, none⟩ : Addr).add j) = some (.int .u8 (kb x.1 j)) := fun W1 h1 j hj => by
        have e : (⟨b, off + k * 16, none⟩ : Addr).add j = ⟨b, off + (k * 16 + j), none⟩ := by unfold Addr.add; split <;> simp_all [Nat.add_assoc]
        rw [e, (hcs.below hbl h1).key k hkl j hj, hx]
      have HC := Lib.hid hcx
      have hbr := hK _ _ hJs
      clear hcx
      have hg2 : wr.grownBy ((wr.alloc (.cells (kv []) 23)).setRow wr.heap.size (kv x.1)) none :=
        ⟨rfl, rfl, rfl, by simp [World.setRow], fun j hj _ => by
          have h1 := (row_grown_ (wr.alloc (.cells (kv []) 23)) wr.heap.size (kv x.1)).block j (by simp; omega) (fun e => by cases e; omega)
          exact h1.trans (Below.heap_alloc _ _ j hj)⟩
      have hJ2 := hJa _ _ _ hJs (Sp.below_of_none hg2)
      obtain ⟨fn, tmps, assign, body, hy, hR⟩ := (show YieldAt F (n - 1) Try.prog l #[.agg (kv x.1)] ((wr.alloc (.cells (kv []) 23)).setRow wr.heap.size (kv x.1)) _ from hY _ x _ hJ2 (by rw [List.length_take]; omega))
      clear hg2
      gi_wp2_with (first
        | ((with_reducible refine ldI (.tmp 9) rfl rfl ⟨b, off + k * 16, none⟩ ?_ x.1 (HC.out _ hbr) ?_); rfl)
        | ((with_reducible refine stI (.tmp 4) (.tmp 10) rfl rfl wr.heap.size x.1 [] ?_ ?_ (World.alloc_heap_new _ _) ?_); rfl; rfl)
        | ((with_reducible refine ldI (.tmp 4) rfl rfl ⟨wr.heap.size, 0, none⟩ ?_ x.1 (row_cells (setRow_heap _ _ _ _ _ _ (World.alloc_heap_new _ _))) ?_); rfl)
        )
      rw [kv_nil, hy, Oper.uponIn_round]
      refine ⟨fun _ => hn, hR.mono ?_⟩
      rintro e W3 ⟨rfl, hJ3⟩
      gi_wp2
      go_roundw
      case rel => exact ⟨k + 1, by omega, by simp, by rw [take_succ' ks k hkl, hx]; exact hJ3⟩
      case measure => simp [intOf]; omega
    · obtain rfl : k = len := by omega
      gi_wp2
      go_end0
      exact ⟨⟨_, rfl⟩, ks, rfl, by rw [← hlen, List.take_length] at hJs; exact hJs⟩
end Go.Proofs.Ytnmnniknklfemaa
