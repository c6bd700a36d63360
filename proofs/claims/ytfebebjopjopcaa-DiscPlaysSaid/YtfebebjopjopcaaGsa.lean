/- What Sample does to a clock of disc's. No condition other than the reach. -/
import Derived.Test.YtfebebjopjopcaaGsv
namespace Go.Proofs.YtfebebjopjopcaaG
open Go.RowKit Go.Maps Go.Sort Go.Shelf
set_option linter.unusedVariables false

theorem IsB.set2 {w : World} {g : Nat} {x y z : Value} {t : TypeId} (H : IsB w g #[x, y, z] t) (u : Value) : IsB (w.setCell ⟨g, 2, none⟩ u) g #[x, y, u] t := by
  have hlt := H.lt
  unfold IsB at *
  have h' : w.heap[g] = .cells #[x, y, z] t (0, 0) := by simpa [Array.getElem?_eq_getElem hlt] using H
  show (w.heap.modify g _)[g]? = _
  rw [Array.getElem?_eq_getElem (by simpa using hlt), Array.getElem_modify_self, h']
  rfl

theorem sample_no (g : Nat) (n h o : Int) (a : Option Addr) (len cap : Nat) (w : World) (H : IsB w g #[.int .u8 n, .int .i64 h, .int .i64 o] 49) (hl : len = 0 ∨ 64 < len) :
    Calls Try.prog 13 #[.pointer (some ⟨g, 0, none⟩), .slice a len cap] w fun e w' => e = .returned (.int .i64 o) ∧ w' = w := by
  have a2 := H.at 2
  simp at a2
  clear H
  rcases hl with rfl | hl
  · go_enter Try.func13, Try.ntmps13
    go_wp2
    go_ret
    exact ⟨rfl, rfl⟩
  · have h0 : ¬ (len : Int) = 0 := by omega
    have h1 : (len : Int) > 64 := by omega
    go_enter Try.func13, Try.ntmps13
    go_wp2
    go_ret
    exact ⟨rfl, rfl⟩

theorem sample_ok (g : Nat) (n h o : Int) (cap : Nat) (ad : Addr) (zs : List Int) (len : Nat) (hlen : zs.length = len) (w : World) (H : IsB w g #[.int .u8 n, .int .i64 h, .int .i64 o] 49) (h0 : 0 < len) (h1 : len ≤ 64)
    (hcs : ∀ j, j < zs.length → w.cell? (ad.add j) = some (.int .i64 (zs[j]?.getD 0))) (m : Int)
    (hm : m = min (max ((zs.mergeSort fun x y => decide (x ≤ y))[(len - 1) / 2]?.getD 0) (-1099511627776)) 1099511627776) :
    Calls Try.prog 13 #[.pointer (some ⟨g, 0, none⟩), .slice (some ad) len cap] w fun e w' => e = .returned (.int .i64 m) ∧ w.grownBy w' (some g) ∧ IsB w' g #[.int .u8 n, .int .i64 h, .int .i64 m] 49 := by
  have HC := Lib.hid hcs
  have HH := Lib.hid H
  have HM := Lib.hid hm
  have l0 : ¬ (len : Int) = 0 := by omega
  have l1 : ¬ (len : Int) > 64 := by omega
  have HLN := Lib.hid hlen
  clear H hcs hm hlen
  go_enter Try.func13, Try.ntmps13
  go_wp2_with fail
  refine (values_calls _ _ _ _).mono ?_
  rintro e w1 ⟨rfl, rfl⟩
  go_wp2_with fail
  have hlen := HLN.out
  refine (sorted_calls w.heap.size cap ad zs (by omega) (by unfold maxLen; omega) _ (by simp) (by rw [hlen]; have := (isB_new w #[.slice (some ad) len cap] 33).at 0; exact this) (fun j hj => by
    have := HC.out j hj
    rw [← this]
    exact ((Below.refl w.heap.size w).alloc (Nat.le_refl _) _).cell (World.block_lt_of_cell? w _ (HC.out j hj)))).mono ?_
  rintro e w2 ⟨v, rfl, hrow, hbl⟩
  rw [hlen] at hrow
  rcases hrow.2 with ⟨rfl, hz⟩ | ⟨gb, cap2, cur, rfl, hbase, hgb, r1, r2, r3, r4⟩
  · omega
  have hH : Holds encZ w2 gb 0 (zs.mergeSort fun x y => decide (x ≤ y)).toArray := holds_of_block_i hgb (by simpa [hlen] using r4)
  obtain ⟨k, hk⟩ : ∃ k, (len - 1) / 2 = k := ⟨_, rfl⟩
  have hkl : k < len := by omega
  have hcx := (hH k (by simp [hlen]; exact hkl)).1
  rw [Nat.zero_add] at hcx
  have hmm := HM.out
  rw [hk] at hmm
  obtain ⟨x, hx⟩ : ∃ x, (zs.mergeSort fun x y => decide (x ≤ y))[k]?.getD 0 = x := ⟨_, rfl⟩
  have hx' : (zs.mergeSort fun x y => decide (x ≤ y)).toArray[k]! = x := by rw [← hx]; simp [getElem!_def]; cases (zs.mergeSort fun x y => decide (x ≤ y))[k]? <;> rfl
  rw [hx'] at hcx
  rw [hx] at hmm
  have hg0 : Below w.heap.size w w2 := ((Below.refl w.heap.size w).alloc (Nat.le_refl _) _).trans (hbl.mono (by simp))
  have J1 : IsB w2 g #[.int .u8 n, .int .i64 h, .int .i64 o] 49 := HH.out.to hg0 HH.out.lt
  have a2 := J1.at 2
  simp at a2
  have f2 := J1.fr 2
  have HJ := Lib.hid J1
  have GW := Lib.hid (gob hg0 (some g))
  have hdv : ((len : Int) - 1).tdiv 2 = (k : Int) := by rw [Int.tdiv_eq_ediv_of_nonneg (by omega)]; omega
  have hcx' : w2.cell? ⟨gb, k, none⟩ = some (.int .i64 x) := hcx
  clear hcx hx hx' hH r1 r2 r3 r4 hgb hrow hbl J1 hg0 hk hlen
  go_wp2_with fail
  rw [← hmm]
  go_ret
  exact ⟨rfl, grown_set GW.out (.inl rfl) _, HJ.out.set2 _⟩
end Go.Proofs.YtfebebjopjopcaaG
