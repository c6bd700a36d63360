/- The plain law of records that are whole, and a torn end. Conditions: bytes are bytes. -/
import Derived.Test.YtacbaiflblngfaaTn
namespace Go.Proofs.Ytacbaiflblngfaa.Pl
open Go.RowKit Go.Proofs.Ytacbaiflblngfaa.QFrame Go.Proofs.YtacbaiflblngfaaW.PrintWords
set_option linter.unusedVariables false
set_option linter.unusedSimpArgs false
theorem frs_split (a : List (List Int)) (w : Nat) (h : w < a.length) : frs a = frs (a.take w) ++ (fr a[w] ++ frs (a.drop (w + 1))) := by
  have e : a = a.take w ++ (a[w] :: a.drop (w + 1)) := by rw [← List.drop_eq_getElem_cons h, List.take_append_drop]
  have := congrArg frs e
  rw [frs_app, frs_cons] at this
  exact this
theorem torn_end (k : Nat) (hk : 91000 ≤ k) (a : List (List Int)) (ha : a.length ≤ 10) (sa : ∀ r ∈ a, r.length ≤ 200) (hv : ∀ r ∈ a, ∀ x ∈ r, 0 ≤ x ∧ x < 256) (cut y : Int) (hy : 0 < y ∧ y < 256) (w : Nat) (hw0 : w ≤ a.length)
    (h0 : 0 ≤ cut) (h1 : cut < ((frs a).length : Int)) (hw : ((frs (a.take w)).length : Int) ≤ cut) (hw2 : w < a.length → cut < ((frs (a.take (w + 1))).length : Int)) :
    hourglasslaw3_FrameTorn.j2 (k + 1) a cut y (frs a) (w : Int) false = some true := by
  have la := frs_len a sa
  have hlt : w < a.length := by
    by_cases e : w < a.length
    · exact e
    · rw [List.take_of_length_le (by omega)] at hw; omega
  have c2 := hw2 hlt
  rw [frs_take a w hlt, List.length_append, fr_len] at c2
  have sw := sa a[w] (List.getElem_mem hlt)
  obtain ⟨m, hm⟩ : ∃ m : Nat, cut.toNat = (frs (a.take w)).length + m := ⟨cut.toNat - (frs (a.take w)).length, by omega⟩
  have hm2 : m < 12 + (a[w]).length := by omega
  have ft : (frs a).take cut.toNat = frs (a.take w) ++ (fr a[w]).take m := by
    have lf := fr_len a[w]
    rw [frs_split a w hlt, hm, List.take_length_add_append, List.take_append_of_le_length (by omega)]
  have fg : rd (frs a) cut = (fr a[w]).getD m 0 := by
    have lf := fr_len a[w]
    unfold rd
    rw [frs_split a w hlt, hm, List.getD_eq_getElem?_getD, List.getD_eq_getElem?_getD, List.getElem?_append_right (by omega), Nat.add_sub_cancel_left, List.getElem?_append_left (by omega)]
  obtain ⟨t, ht⟩ : ∃ t, (fr a[w]).take m ++ [Go.bits .xor .u8 ((fr a[w]).getD m 0) y] = t := ⟨_, rfl⟩
  have tf : ∀ k, 90000 ≤ k → frame_first.f k t = some ([], false) := fun k hk => by rw [← ht]; exact first_torn k hk a[w] sw (hv _ (List.getElem_mem hlt)) m hm2 y hy
  have tl : t.length = m + 1 := by
    have lf := fr_len a[w]
    rw [← ht, List.length_append, List.length_take]
    simp; omega
  have sw2 : ∀ r ∈ a.take w, r.length ≤ 200 := fun r hr => sa r (List.mem_of_mem_take hr)
  have S : frame_Scan.f k ((([] : List Int) ++ (frs a).take cut.toNat) ++ [Go.bits .xor .u8 (rd (frs a) cut) y]) = some (a.take w, ((frs (a.take w)).length : Int), false) := by
    have lw : (a.take w).length ≤ 10 := by rw [List.length_take]; omega
    have lfw := frs_len _ sw2
    have Z := scan_t (a.take w) k [] t [] (by omega) (fun r hr => by have := sw2 r hr; omega) (by rw [tl, List.length_nil]; omega) (by rw [List.length_nil]; omega) (by omega) tf
    rw [List.nil_append, ft, fg, List.append_assoc, ht]
    unfold frame_Scan.f
    rw [List.nil_append, List.nil_append] at Z
    exact Z
  have n1 : ([] : List Int).length + ((frs a).take cut.toNat).length < 140737488355328 := by rw [List.length_take, List.length_nil]; omega
  have n2 : (([] : List Int) ++ (frs a).take cut.toNat).length + [Go.bits .xor .u8 (rd (frs a) cut) y].length < 140737488355328 := by
    rw [List.nil_append, List.length_take, List.length_cons, List.length_nil]; omega
  have E := same_f k (a.take w) (by rw [List.length_take]; omega) (by rw [List.length_take]; omega)
  have h2 : cut ≤ ((frs a).length : Int) := by omega
  have w1 : (0 : Int) ≤ (w : Int) := by omega
  have w2 : (w : Int) ≤ (a.length : Int) := by omega
  simp only [hourglasslaw3_FrameTorn.j2]
  rw [if_neg (by decide), Option.bind_some, if_pos h0, if_pos h2, Option.bind_some, if_pos n1, Option.bind_some, if_pos h1, Option.bind_some, if_pos n2, S, Option.bind_some, if_pos w1, if_pos w2]
  show (hourglassref1_Same.f k (a.take w) (a.take (w : Int).toNat)).bind _ = _
  rw [Int.toNat_natCast, E, Option.bind_some, if_pos rfl]
  show (if ((frs (a.take w)).length : Int) ≤ cut then _ else _) = _
  rw [if_pos hw]
  rfl
theorem torn_l0 (a : List (List Int)) (ha : a.length ≤ 10) (hv : ∀ r ∈ a, ∀ x ∈ r, 0 ≤ x ∧ x < 256) (cut y : Int) (hy : 0 < y ∧ y < 256) : ∀ (j k i w : Nat), 92000 + j ≤ k → i + j = a.length → (∀ r ∈ a.take i, r.length ≤ 200) →
    w ≤ i → (0 ≤ cut → ((frs (a.take w)).length : Int) ≤ cut) → (w < i → cut < ((frs (a.take (w + 1))).length : Int)) →
    hourglasslaw3_FrameTorn.l0 k a cut y (frs (a.take i)) (w : Int) (i : Int) = some true
  | 0, k, i, w, hk, h, hs, hwi, hw, hw2 => by
    obtain ⟨k, rfl⟩ : ∃ n, k = n + 2 := ⟨k - 2, by omega⟩
    have e : a.take i = a := List.take_of_length_le (by omega)
    rw [e] at hs ⊢
    have out : hourglasslaw3_FrameTorn.j2 (k + 1) a cut y (frs a) (w : Int) true = some true := rfl
    simp only [hourglasslaw3_FrameTorn.l0]
    rw [if_neg (by omega)]
    by_cases c0 : cut < 0
    · rw [if_pos c0]; exact out
    · rw [if_neg c0]
      by_cases c1 : cut ≥ ((frs a).length : Int)
      · rw [decide_eq_true c1]; exact out
      · rw [decide_eq_false c1]
        exact torn_end k (by omega) a ha hs hv cut y hy w (by omega) (by omega) (by omega) (hw (by omega)) (fun h => hw2 (by omega))
  | j + 1, k, i, w, hk, h, hs, hwi, hw, hw2 => by
    obtain ⟨k, rfl⟩ : ∃ n, k = n + 1 := ⟨k - 1, by omega⟩
    have hi : i < a.length := by omega
    have tl : (a.take i).length ≤ 10 := by rw [List.length_take]; omega
    have fl := frs_len _ hs
    simp only [hourglasslaw3_FrameTorn.l0]
    rw [if_pos (by omega), if_pos (by omega), rd1 a i hi]
    by_cases c : ((a[i]).length : Int) > 200
    · rw [if_pos c]
    · rw [if_neg c, put_f k _ _ (by omega) (by omega) (by omega), Option.bind_some]
      show (if ((frs (a.take i) ++ fr a[i]).length : Int) ≤ cut then hourglasslaw3_FrameTorn.l0 k a cut y (frs (a.take i) ++ fr a[i]) (wrap64 ((i : Int) + 1)) (wrap64 ((i : Int) + 1)) else hourglasslaw3_FrameTorn.l0 k a cut y (frs (a.take i) ++ fr a[i]) (w : Int) (wrap64 ((i : Int) + 1))) = _
      rw [← frs_take a i hi, w64 _ (by omega) (by omega), show (i : Int) + 1 = ((i + 1 : Nat) : Int) by omega]
      have ts := take_small a i hi hs (by omega)
      by_cases d : ((frs (a.take (i + 1))).length : Int) ≤ cut
      · rw [if_pos d]
        exact torn_l0 a ha hv cut y hy j k (i + 1) (i + 1) (by omega) (by omega) ts (by omega) (fun _ => d) (fun h => by omega)
      · rw [if_neg d]
        exact torn_l0 a ha hv cut y hy j k (i + 1) w (by omega) (by omega) ts (by omega) hw (fun h => by
          by_cases e : w < i
          · exact hw2 e
          · obtain rfl : w = i := by omega
            omega)
theorem torn (a : List (List Int)) (hv : ∀ r ∈ a, ∀ x ∈ r, 0 ≤ x ∧ x < 256) (cut y : Int) (hy : 0 ≤ y ∧ y < 256) : hourglasslaw3_FrameTorn.f 93001 a cut y = some true := by
  unfold hourglasslaw3_FrameTorn.f
  rw [awake_k _ (by omega), Option.bind_some, if_pos rfl]
  have out : ∀ k, hourglasslaw3_FrameTorn.j0 (k + 1) a cut y true = some true := fun _ => rfl
  by_cases h : (a.length : Int) > 10
  · rw [if_pos h]; exact out 93000
  · rw [if_neg h]
    by_cases h2 : (y == 0) = true
    · rw [h2]; exact out 93000
    · rw [Bool.eq_false_iff.mpr h2]
      have hy0 : y ≠ 0 := fun e => h2 (by rw [e]; rfl)
      have key : ∀ k, 92500 ≤ k → hourglasslaw3_FrameTorn.j0 (k + 1) a cut y false = some true := by
        intro k hk
        simp only [hourglasslaw3_FrameTorn.j0]
        rw [if_neg (by decide)]
        exact torn_l0 a (by omega) hv cut y (by omega) a.length k 0 0 (by omega) (by omega) (by simp) (by omega) (fun h => by simpa [frs] using h) (fun h => by omega)
      exact key 93000 (by omega)
end Go.Proofs.Ytacbaiflblngfaa.Pl
