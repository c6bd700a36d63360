/- slices.Values of a slice of whole numbers that came in: an iterator's contract for every loop that keeps what lay before (turned from the worked proof of slices.Values). No other condition than the reach. -/
import Derived.RangeFuncBox
import Derived.RangeFuncGives
import Derived.RangeFuncLeaves
import Derived.Shelf.Abstract
import Derived.WalkKit
import Derived.OwnWalkIn
import Derived.TacticsInMore
import Derived.LoopNIn
import Derived.LoopIn
import Derived.Below
import Derived.Test.YtfebebjopjopcaaProg
namespace Go.Proofs.YtfebebjopjopcaaG
open Go.RowKit Go.Shelf
attribute [local go_sem] Oper.semAt_some
set_option linter.unusedVariables false

def SeqB {α : Type} (F : Fence) (n : Nat) (P : Program) (g : Nat) (lb : Array Value) (enc : α → Value) (S : List α → Prop) (N : Nat) (w : World) : Prop :=
  ∀ (l : Nat) (J : List α → World → Prop) (W : World), Below w.heap.size w W → AbidesFrom W.heap.size J → (∀ s W1, J s W1 → Below w.heap.size w W1) →
    (∀ pre x W1, J pre W1 → pre.length < N → YieldAt F (n - 1) P l #[enc x] W1 fun e W' => e = .returned (.bool true) ∧ J (pre ++ [x]) W' ∧ KeepsWalks W1 W') →
    J [] W →
    CallsIn F n P g (#[.func (.yield l) #[] #[]] ++ lb) W fun e W' => (∃ v, e = .returned v) ∧ ∃ xs, S xs ∧ J xs W'

def upto (zs : List Int) (k : Nat) : List Int := (List.range k).map fun j => zs[j]?.getD 0
theorem upto_succ (zs : List Int) (k : Nat) : upto zs (k + 1) = upto zs k ++ [zs[k]?.getD 0] := by simp [upto, List.range_succ]
theorem upto_length (zs : List Int) (k : Nat) : (upto zs k).length = k := by simp [upto]
theorem upto_all (zs : List Int) : upto zs zs.length = zs := by
  apply List.ext_getElem
  · simp [upto]
  · intro i h1 h2
    simp [upto, h2]

set_option maxRecDepth 100000 in
set_option maxHeartbeats 2000000 in
theorem values_gives (F : Fence) (n : Nat) (h28 : F.fn 28) (hro : F.round = none) (hn : 1 ≤ n) (Bs cap : Nat) (ad : Addr) (zs : List Int) (hreach : zs.length * 8 ≤ 140737488351232) (w : World) (hBs : Bs < w.heap.size)
    (hc : w.cell? ⟨Bs, 0, none⟩ = some (.slice (some ad) zs.length cap)) (hcs : ∀ j, j < zs.length → w.cell? (ad.add j) = some (.int .i64 (zs[j]?.getD 0))) :
    SeqB F n Try.prog 28 #[.pointer (some ⟨Bs, 0, none⟩)] (fun x : Int => Value.int .i64 x) (· = zs) zs.length w := fun l J W hW _ hK hY h0 => by
  obtain ⟨len, hlen⟩ : ∃ len, zs.length = len := ⟨_, rfl⟩
  rw [hlen] at hreach hc hcs hY
  have hB := (hW.cell (p := ⟨Bs, 0, none⟩) hBs).trans hc
  show CallsIn F n Try.prog 28 #[.func (.yield l) #[] #[], .pointer (some ⟨Bs, 0, none⟩)] W _
  refine callsIn_of_wp Try.func28 rfl h28 ?_ hro
  simp only [Try.ntmps28, List.size_toArray, List.length_cons, List.length_nil, Nat.reduceAdd, Nat.reduceSub, Array.replicate_succ, Array.replicate_zero, List.push_toArray, List.append_toArray, List.nil_append, List.cons_append]
  gi_wp2
  gi_loopw [7] (fun i wr => ∃ k : Nat, k ≤ len ∧ i = .int .i64 k ∧ J (upto zs k) wr)
    (fun i _ => len - (intOf i).toNat)
  case atStart => exact ⟨0, Nat.zero_le _, rfl, h0⟩
  case round =>
    obtain ⟨k, hk, rfl, hJs⟩ := hrel
    have hcx : k < len → wr.cell? (ad.add k) = some (.int .i64 (zs[k]?.getD 0)) := fun h => ((hK _ _ hJs).cell (World.block_lt_of_cell? w _ (hcs k h))).trans (hcs k h)
    by_cases hlt : k < len
    · obtain ⟨x, hx⟩ : ∃ x, zs[k]?.getD 0 = x := ⟨_, rfl⟩
      obtain ⟨fn, tmps, assign, body, hy, hR⟩ := hY _ x wr hJs (by rw [upto_length]; exact hlt)
      have hcx' := hcx hlt
      rw [hx] at hcx'
      clear hcx
      gi_wp2
      refine hR.mono ?_
      rintro e W3 ⟨rfl, hJ3, hk3⟩
      gi_wp2
      go_roundw
      case rel => exact ⟨k + 1, by omega, by simp, by rw [upto_succ, hx]; exact hJ3⟩
      case measure => simp [intOf]; omega
    · obtain rfl : k = len := by omega
      gi_wp2
      go_end0
      exact ⟨⟨_, rfl⟩, zs, rfl, by rw [← upto_all zs, hlen]; exact hJs⟩
end Go.Proofs.YtfebebjopjopcaaG
