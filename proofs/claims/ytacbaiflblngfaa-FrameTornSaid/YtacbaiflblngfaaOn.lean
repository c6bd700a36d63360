/- The plain law of frames behind frames. No condition. -/
import Derived.Test.YtacbaiflblngfaaPl
import Derived.Test.YtacbaiflblngfaaQFramex12
namespace Go.Proofs.Ytacbaiflblngfaa.Pl
open Go.RowKit Go.Proofs.Ytacbaiflblngfaa.QFrame Go.Proofs.YtacbaiflblngfaaW.PrintWords
set_option linter.unusedVariables false
set_option linter.unusedSimpArgs false
theorem rd1 (l : List (List Int)) (i : Nat) (h : i < l.length) : rd_L1 l (i : Int) = l[i] := by
  unfold rd_L1
  rw [Int.toNat_natCast, List.getD_eq_getElem?_getD, List.getElem?_eq_getElem h]; rfl
theorem same_l0 (a b : List (List Int)) (hl : a.length = b.length) (hs : a.length ≤ 1000) (he : a = b) : ∀ (j k i : Nat), j + 1 ≤ k → i + j = a.length → hourglassref1_Same.l0 k a b (i : Int) = some true
  | 0, k, i, hk, h => by
    obtain ⟨k, rfl⟩ : ∃ n, k = n + 1 := ⟨k - 1, by omega⟩
    simp only [hourglassref1_Same.l0]
    rw [if_neg (by omega)]
  | j + 1, k, i, hk, h => by
    obtain ⟨k, rfl⟩ : ∃ n, k = n + 1 := ⟨k - 1, by omega⟩
    simp only [hourglassref1_Same.l0]
    rw [if_pos (by omega), if_pos (by omega), if_pos (by omega), if_pos (by rw [he]), w64 _ (by omega) (by omega), show (i : Int) + 1 = ((i + 1 : Nat) : Int) by omega]
    exact same_l0 a b hl hs he j k (i + 1) (by omega) (by omega)
theorem same_f (k : Nat) (a : List (List Int)) (hs : a.length ≤ 1000) (hk : a.length + 1 ≤ k) : hourglassref1_Same.f k a a = some true := by
  unfold hourglassref1_Same.f
  rw [if_pos rfl]
  exact same_l0 a a rfl hs rfl a.length k 0 hk (by omega)
theorem frs_take (l : List (List Int)) (i : Nat) (h : i < l.length) : frs (l.take (i + 1)) = frs (l.take i) ++ fr l[i] := by
  rw [List.take_succ_eq_append_getElem h, frs_app]
  simp [frs]
theorem frs_len (l : List (List Int)) (h : ∀ r ∈ l, r.length ≤ 200) : (frs l).length ≤ 212 * l.length := by
  induction l with
  | nil => simp [frs]
  | cons r l ih =>
    have := ih (fun x hx => h x (by simp [hx]))
    have := h r (by simp)
    rw [frs_cons, List.length_append, fr_len, List.length_cons]
    omega
theorem take_small (l : List (List Int)) (i : Nat) (h : i < l.length) (ht : ∀ r ∈ l.take i, r.length ≤ 200) (hi : l[i].length ≤ 200) : ∀ r ∈ l.take (i + 1), r.length ≤ 200 := by
  intro r hr
  rw [List.take_succ_eq_append_getElem h, List.mem_append, List.mem_singleton] at hr
  rcases hr with hr | rfl
  · exact ht r hr
  · exact hi
theorem on_end (k : Nat) (hk : 91000 ≤ k) (a b : List (List Int)) (ha : a.length ≤ 8) (hb : b.length ≤ 8) (sa : ∀ r ∈ a, r.length ≤ 200) (sb : ∀ r ∈ b, r.length ≤ 200) (x8 : Int) (h8 : ¬ x8 < (b.length : Int)) :
    hourglasslaw3_FrameOn.l1 (k + 1) a b (frs a) (frs b) x8 = some true := by
  have la := frs_len a sa
  have lb := frs_len b sb
  simp only [hourglasslaw3_FrameOn.l1]
  rw [if_neg h8]
  simp only [Option.bind_some, List.nil_append, List.length_nil, Nat.zero_add]
  have n1 : (frs a).length < 140737488355328 := by omega
  have n2 : (frs a).length + (frs b).length < 140737488355328 := by omega
  have n3 : a.length < 5864062014805 := by omega
  have n4 : a.length + b.length < 5864062014805 := by omega
  have ab : (a ++ b).length ≤ 16 := by rw [List.length_append]; omega
  have fab : (frs (a ++ b)).length = (frs a).length + (frs b).length := by rw [frs_app, List.length_append]
  have sab : ∀ r ∈ a ++ b, r.length ≤ 8000 := by
    intro r hr
    rcases List.mem_append.mp hr with h | h
    · have := sa r h; omega
    · have := sb r h; omega
  have S := scan_f (a ++ b) k (by omega) sab (by omega) (by omega)
  rw [if_pos n1, if_pos n2, ← frs_app, S]
  rw [Option.bind_some]
  have e1 : ((frs (a ++ b)).length : Int) = wrap64 (((frs a).length : Int) + ((frs b).length : Int)) := by
    rw [w64 _ (by omega) (by omega), fab]
    omega
  have e2 := same_f k (a ++ b) (by omega) (by omega)
  rw [if_pos rfl, if_pos e1, if_pos n3, if_pos n4]
  show (hourglassref1_Same.f k (a ++ b) (a ++ b)).bind _ = _
  rw [e2]
  rfl
theorem on_l1 (a b : List (List Int)) (ha : a.length ≤ 8) (hb : b.length ≤ 8) (sa : ∀ r ∈ a, r.length ≤ 200) : ∀ (j k i : Nat), 91001 + j ≤ k → i + j = b.length → (∀ r ∈ b.take i, r.length ≤ 200) →
    hourglasslaw3_FrameOn.l1 k a b (frs a) (frs (b.take i)) (i : Int) = some true
  | 0, k, i, hk, h, hs => by
    obtain ⟨k, rfl⟩ : ∃ n, k = n + 1 := ⟨k - 1, by omega⟩
    rw [List.take_of_length_le (by omega)] at hs ⊢
    exact on_end k (by omega) a b ha hb sa hs (i : Int) (by omega)
  | j + 1, k, i, hk, h, hs => by
    obtain ⟨k, rfl⟩ : ∃ n, k = n + 1 := ⟨k - 1, by omega⟩
    have hi : i < b.length := by omega
    have tl : (b.take i).length ≤ 8 := by rw [List.length_take]; omega
    have fl := frs_len _ hs
    simp only [hourglasslaw3_FrameOn.l1]
    rw [if_pos (by omega), if_pos (by omega), rd1 b i hi]
    by_cases c : ((b[i]).length : Int) > 200
    · rw [if_pos c]
    · rw [if_neg c, put_f k _ _ (by omega) (by omega) (by omega)]
      simp only [Option.bind_some]
      rw [← frs_take b i hi, w64 _ (by omega) (by omega), show (i : Int) + 1 = ((i + 1 : Nat) : Int) by omega]
      exact on_l1 a b ha hb sa j k (i + 1) (by omega) (by omega) (take_small b i hi hs (by omega))
theorem on_l0 (a b : List (List Int)) (ha : a.length ≤ 8) (hb : b.length ≤ 8) : ∀ (j k i : Nat), 91020 + j ≤ k → i + j = a.length → (∀ r ∈ a.take i, r.length ≤ 200) →
    hourglasslaw3_FrameOn.l0 k a b (frs (a.take i)) (i : Int) = some true
  | 0, k, i, hk, h, hs => by
    obtain ⟨k, rfl⟩ : ∃ n, k = n + 1 := ⟨k - 1, by omega⟩
    rw [List.take_of_length_le (by omega)] at hs ⊢
    simp only [hourglasslaw3_FrameOn.l0]
    rw [if_neg (by omega)]
    exact on_l1 a b ha hb hs b.length k 0 (by omega) (by omega) (by simp)
  | j + 1, k, i, hk, h, hs => by
    obtain ⟨k, rfl⟩ : ∃ n, k = n + 1 := ⟨k - 1, by omega⟩
    have hi : i < a.length := by omega
    have tl : (a.take i).length ≤ 8 := by rw [List.length_take]; omega
    have fl := frs_len _ hs
    simp only [hourglasslaw3_FrameOn.l0]
    rw [if_pos (by omega), if_pos (by omega), rd1 a i hi]
    by_cases c : ((a[i]).length : Int) > 200
    · rw [if_pos c]
    · rw [if_neg c, put_f k _ _ (by omega) (by omega) (by omega)]
      simp only [Option.bind_some]
      rw [← frs_take a i hi, w64 _ (by omega) (by omega), show (i : Int) + 1 = ((i + 1 : Nat) : Int) by omega]
      exact on_l0 a b ha hb j k (i + 1) (by omega) (by omega) (take_small a i hi hs (by omega))
theorem on (a b : List (List Int)) : hourglasslaw3_FrameOn.f 92001 a b = some true := by
  unfold hourglasslaw3_FrameOn.f
  rw [awake_k _ (by omega)]
  simp only [Option.bind_some]
  rw [if_pos trivial]
  have out : ∀ k, hourglasslaw3_FrameOn.j0 (k + 1) a b true = some true := fun _ => rfl
  by_cases h : (a.length : Int) > 8
  · rw [if_pos h]; exact out 92000
  · rw [if_neg h]
    by_cases h2 : (b.length : Int) > 8
    · rw [decide_eq_true h2]; exact out 92000
    · rw [decide_eq_false h2]
      have key : ∀ k, 91200 ≤ k → hourglasslaw3_FrameOn.j0 (k + 1) a b false = some true := by
        intro k hk
        simp only [hourglasslaw3_FrameOn.j0]
        rw [if_neg (by decide)]
        exact on_l0 a b (by omega) (by omega) a.length k 0 (by omega) (by omega) (by simp)
      exact key 92000 (by omega)
end Go.Proofs.Ytacbaiflblngfaa.Pl
