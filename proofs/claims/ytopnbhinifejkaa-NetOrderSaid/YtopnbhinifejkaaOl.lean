/- What waits where packets are sent, one doubled, one spoilt, all taken: plain laws over the model. Conditions: each theorem's own. -/
import Derived.Test.YtopnbhinifejkaaSp
import Derived.Test.YtopnbhinifejkaaCt
namespace Go.Proofs.Ytopnbhinifejkaa
open Go.RowKit Go.Proofs.Ytopnbhinifejkaa.Sp
set_option linter.unusedVariables false
set_option linter.unusedSimpArgs false
def sentP (l : List (List UInt8)) (j : Nat) : Pk := ⟨(j : Int) % 3, ((j : Int) + 1) % 3, l.getD j []⟩
def sent (l : List (List UInt8)) (i : Nat) : List Pk := (List.range i).map (sentP l)
def mS (l : List (List UInt8)) (i : Nat) : NM := ⟨3, 100, sent l i, []⟩
theorem cut_nil (m : NM) (h : m.cut = []) (a b : Int) : m.isCut a b = false := by
  unfold NM.isCut
  rw [h]
  rfl
theorem send_law (l : List (List UInt8)) (i : Nat) (hi : i < 30) : sendM (mS l i) (sentP l i) = (true, mS l (i + 1)) := by
  unfold sendM
  rw [if_pos]
  · simp [mS, sent, List.range_succ]
  · refine ⟨?_, ?_, cut_nil _ rfl _ _, ?_⟩
    · show 0 ≤ (i : Int) % 3 ∧ (i : Int) % 3 < 3
      omega
    · show 0 ≤ ((i : Int) + 1) % 3 ∧ ((i : Int) + 1) % 3 < 3
      omega
    · simp [mS, sent]
      omega
theorem sent_at (l : List (List UInt8)) (n k : Nat) (hk : k < n) : (sent l n)[k]? = some (sentP l k) := by
  simp [sent, hk]
def mC (l : List (List UInt8)) (n k : Nat) : NM := ⟨3, 100, sent l n ++ [sentP l k], []⟩
theorem copy_law (l : List (List UInt8)) (n k : Nat) (hk : k < n) (hn : n ≤ 30) : copyM (mS l n) k = (true, mC l n k) := by
  have h : atM (mS l n) k = some (sentP l k) := by
    unfold atM
    rw [if_pos (by omega), Int.toNat_natCast]
    exact sent_at l n k hk
  unfold copyM
  rw [h]
  refine if_pos ?_
  simp [mS, sent]
  omega
def spk (l : List (List UInt8)) (k : Nat) (y : UInt8) : Pk := { sentP l k with b := spoilB (l.getD k []) 0 y }
def fin (l : List (List UInt8)) (n k : Nat) (y : UInt8) : List Pk := (sent l n ++ [sentP l k]).set k (spk l k y)
def mT (l : List (List UInt8)) (n k : Nat) (y : UInt8) (i : Nat) : NM := ⟨3, 100, (fin l n k y).drop i, []⟩
theorem spoil_law (l : List (List UInt8)) (n k : Nat) (y : UInt8) (hk : k < n) (hb : 1 ≤ (l.getD k []).length) (hy : y ≠ 0) : spoilM (mC l n k) k 0 y = (true, mT l n k y 0) := by
  have h : atM (mC l n k) k = some (sentP l k) := by
    unfold atM
    rw [if_pos (by omega), Int.toNat_natCast]
    show (sent l n ++ [sentP l k])[k]? = _
    rw [List.getElem?_append_left (by simpa [sent] using hk)]
    exact sent_at l n k hk
  unfold spoilM
  rw [h]
  have h0 : (0 : Int) < ((l.getD k []).length : Int) := by omega
  refine (if_pos ⟨by omega, h0, hy⟩).trans ?_
  simp [mT, mC, fin, spk, sentP]
def qP (l : List (List UInt8)) (n k : Nat) (y : UInt8) (i : Nat) : Pk := if i = k then spk l k y else sentP l (if i < n then i else k)
theorem fin_len (l : List (List UInt8)) (n k : Nat) (y : UInt8) : (fin l n k y).length = n + 1 := by simp [fin, sent]
theorem fin_at (l : List (List UInt8)) (n k : Nat) (y : UInt8) (hk : k < n) (i : Nat) (hi : i ≤ n) : (fin l n k y)[i]? = some (qP l n k y i) := by
  have hl : (sent l n).length = n := by simp [sent]
  unfold fin qP
  rw [List.getElem?_set]
  by_cases h : i = k
  · subst h
    rw [if_pos rfl, if_pos rfl, if_pos (by rw [List.length_append, hl]; simp; omega)]
  · rw [if_neg (Ne.symm h), if_neg h]
    by_cases h2 : i < n
    · rw [if_pos h2, List.getElem?_append_left (by omega)]
      exact sent_at l n i h2
    · obtain rfl : i = n := by omega
      rw [if_neg h2, List.getElem?_append_right (by omega), hl]
      simp
theorem take_at (l : List (List UInt8)) (n k : Nat) (y : UInt8) (hk : k < n) (i : Nat) (hi : i ≤ n) : atM (mT l n k y i) 0 = some (qP l n k y i) ∧ takeM (mT l n k y i) 0 = mT l n k y (i + 1) := by
  have h : atM (mT l n k y i) 0 = some (qP l n k y i) := by
    show (if (0 : Int) ≤ 0 then ((fin l n k y).drop i)[0]? else none) = _
    rw [if_pos (by decide), List.getElem?_drop]
    exact fin_at l n k y hk i hi
  refine ⟨h, ?_⟩
  unfold takeM
  rw [h]
  simp [offK, mT]
theorem end_len (l : List (List UInt8)) (n k : Nat) (y : UInt8) : (mT l n k y (n + 1)).l.length = 0 := by
  show ((fin l n k y).drop (n + 1)).length = 0
  rw [List.length_drop, fin_len]
  omega
end Go.Proofs.Ytopnbhinifejkaa
