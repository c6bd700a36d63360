/- The plain law of a torn end: a byte that is changed is found out. Conditions: each theorem's own. -/
import Derived.Test.YtacbaiflblngfaaOn
import Derived.Test.YtacbaiflblngfaaQFramex11
namespace Go.Proofs.Ytacbaiflblngfaa.Pl
open Go.RowKit Go.Proofs.Ytacbaiflblngfaa.QFrame Go.Proofs.YtacbaiflblngfaaW.PrintWords
set_option linter.unusedVariables false
set_option linter.unusedSimpArgs false

/-! A byte's sum tells it. -/
theorem bx (a b : Int) : Go.bits .xor .u32 a b = ((BitVec.ofInt 32 a ^^^ BitVec.ofInt 32 b).toNat : Int) := by
  unfold Go.bits
  rw [IntKind.wrap_u32]
  have := (BitVec.ofInt 32 a ^^^ BitVec.ofInt 32 b).isLt
  show ((BitVec.ofInt 32 a ^^^ BitVec.ofInt 32 b).toNat : Int) % 4294967296 = _
  omega
theorem ofInt_eq (a b : Int) (h : BitVec.ofInt 32 a = BitVec.ofInt 32 b) (ha : 0 ≤ a ∧ a < 4294967296) (hb : 0 ≤ b ∧ b < 4294967296) : a = b := by
  have := congrArg BitVec.toNat h
  rw [BitVec.toNat_ofInt, BitVec.toNat_ofInt] at this
  have e : ((2 ^ 32 : Nat) : Int) = 4294967296 := rfl
  omega
theorem xor_inj (a b c : Int) (h : Go.bits .xor .u32 a b = Go.bits .xor .u32 a c) (hb : 0 ≤ b ∧ b < 4294967296) (hc : 0 ≤ c ∧ c < 4294967296) : b = c := by
  rw [bx, bx] at h
  have h2 : BitVec.ofInt 32 a ^^^ BitVec.ofInt 32 b = BitVec.ofInt 32 a ^^^ BitVec.ofInt 32 c := BitVec.eq_of_toNat_eq (by omega)
  exact ofInt_eq b c ((BitVec.xor_right_inj _).mp h2) hb hc
theorem xor_comm32 (a b : Int) : Go.bits .xor .u32 a b = Go.bits .xor .u32 b a := by rw [bx, bx, BitVec.xor_comm]
theorem and_one (c : Int) (h0 : 0 ≤ c) (h1 : c < 4294967296) : Go.bits .and .u32 c 1 = c % 2 := bits_mask .u32 32 (by decide) wr32 1 (by decide) c h0 h1
theorem cst_is (c : Int) (h0 : 0 ≤ c) (h1 : c < 4294967296) : cst c = Go.bits .xor .u32 (c / 2) (if c % 2 = 1 then 2197175160 else 0) := by
  unfold cst
  rw [and_one c h0 h1]
  by_cases h : c % 2 = 1
  · rw [if_pos h, h]; rfl
  · rw [if_neg h, show c % 2 = 0 by omega]; rfl
theorem top (c : Int) (h0 : 0 ≤ c) (h1 : c < 4294967296) : (BitVec.ofInt 32 (c / 2)).getLsbD 31 = false := by
  rw [← BitVec.testBit_toNat]
  apply Nat.testBit_lt_two_pow
  rw [BitVec.toNat_ofInt]
  have e : ((2 ^ 32 : Nat) : Int) = 4294967296 := rfl
  omega
theorem cst_inj (c d : Int) (hc : 0 ≤ c ∧ c < 4294967296) (hd : 0 ≤ d ∧ d < 4294967296) (h : cst c = cst d) : c = d := by
  rw [cst_is c hc.1 hc.2, cst_is d hd.1 hd.2] at h
  have h2 : BitVec.ofInt 32 (c / 2) ^^^ BitVec.ofInt 32 (if c % 2 = 1 then 2197175160 else 0) = BitVec.ofInt 32 (d / 2) ^^^ BitVec.ofInt 32 (if d % 2 = 1 then 2197175160 else 0) := by
    rw [bx, bx] at h
    exact BitVec.eq_of_toNat_eq (by omega)
  have t := congrArg (fun v : BitVec 32 => v.getLsbD 31) h2
  simp only [BitVec.getLsbD_xor, top c hc.1 hc.2, top d hd.1 hd.2, Bool.false_xor] at t
  by_cases a : c % 2 = 1
  · by_cases b : d % 2 = 1
    · rw [if_pos a, if_pos b] at h
      rw [xor_comm32, xor_comm32 (d / 2)] at h
      have := xor_inj _ _ _ h (by omega) (by omega)
      omega
    · rw [if_pos a, if_neg b] at t
      exact absurd t (by decide)
  · by_cases b : d % 2 = 1
    · rw [if_neg a, if_pos b] at t
      exact absurd t (by decide)
    · rw [if_neg a, if_neg b] at h
      rw [xor_comm32, xor_comm32 (d / 2)] at h
      have := xor_inj _ _ _ h (by omega) (by omega)
      omega
theorem it_inj : ∀ (j : Nat) (c d : Int), (0 ≤ c ∧ c < 4294967296) → (0 ≤ d ∧ d < 4294967296) → it j c = it j d → c = d
  | 0, c, d, hc, hd, h => h
  | j + 1, c, d, hc, hd, h => by
    rw [it_succ, it_succ] at h
    exact cst_inj c d hc hd (it_inj j (cst c) (cst d) (bits_range _ _ _) (bits_range _ _ _) h)
theorem cra_last (s : Int) (r : List Int) (x y : Int) (hx : 0 ≤ x ∧ x < 256) (hy : 0 ≤ y ∧ y < 256) (h : cra s (r ++ [x]) = cra s (r ++ [y])) : x = y := by
  have g : ∀ z, cfo (cm s) (r ++ [z]) = cby (cfo (cm s) r) z := fun z => by simp [cfo]
  unfold cra at h
  rw [g, g] at h
  unfold cby at h
  have rng : ∀ z, 0 ≤ it 8 z ∧ it 8 z < 4294967296 := fun z => bits_range .xor _ _
  have h1 := xor_inj _ _ _ h (rng _) (rng _)
  have h2 := it_inj 8 _ _ (bits_range .xor _ _) (bits_range .xor _ _) h1
  have h3 := xor_inj _ _ _ h2 (by omega) (by omega)
  omega

/-! One byte turned. -/
theorem turn_ne (b y : Int) (hb : 0 ≤ b ∧ b < 256) (hy : 0 < y ∧ y < 256) : Go.bits .xor .u8 b y ≠ b ∧ 0 ≤ Go.bits .xor .u8 b y ∧ Go.bits .xor .u8 b y < 256 := by
  have e : Go.bits .xor .u8 b y = ((BitVec.ofInt 8 b ^^^ BitVec.ofInt 8 y).toNat : Int) := by
    unfold Go.bits
    rw [IntKind.wrap_u8]
    have := (BitVec.ofInt 8 b ^^^ BitVec.ofInt 8 y).isLt
    show ((BitVec.ofInt 8 b ^^^ BitVec.ofInt 8 y).toNat : Int) % 256 = _
    omega
  have l := (BitVec.ofInt 8 b ^^^ BitVec.ofInt 8 y).isLt
  have p : ((2 ^ 8 : Nat) : Int) = 256 := rfl
  refine ⟨fun h => ?_, by omega, by omega⟩
  rw [e] at h
  have hb2 : (BitVec.ofInt 8 b).toNat = b.toNat := by rw [BitVec.toNat_ofInt]; omega
  have h2 : BitVec.ofInt 8 b ^^^ BitVec.ofInt 8 y = BitVec.ofInt 8 b := BitVec.eq_of_toNat_eq (by omega)
  have h3 : BitVec.ofInt 8 b ^^^ BitVec.ofInt 8 y = BitVec.ofInt 8 b ^^^ 0#8 := by rw [h2, BitVec.xor_zero]
  have h4 := congrArg BitVec.toNat ((BitVec.xor_right_inj _).mp h3)
  rw [BitVec.toNat_ofInt] at h4
  simp at h4
  omega
theorem first_short (k : Nat) (t : List Int) (h : t.length < 12) : frame_first.f k t = some ([], false) := by
  unfold frame_first.f
  rw [if_pos (by omega)]
theorem first_torn (k : Nat) (hk : 90000 ≤ k) (r : List Int) (hr : r.length ≤ 200) (hv : ∀ x ∈ r, 0 ≤ x ∧ x < 256) (m : Nat) (hm : m < 12 + r.length) (y : Int) (hy : 0 < y ∧ y < 256) :
    frame_first.f k ((fr r).take m ++ [Go.bits .xor .u8 ((fr r).getD m 0) y]) = some ([], false) := by
  obtain ⟨c, hc⟩ : ∃ c, cra (cra 0 (hd r.length)) r = c := ⟨_, rfl⟩
  have cr := cra_range (cra 0 (hd r.length)) r
  rw [hc] at cr
  have F : fr r = hd r.length ++ W4 c ++ r := by unfold fr; rw [hc]
  by_cases h1 : m < 11
  · exact first_short k _ (by rw [List.length_append, List.length_take, fr_len]; simp; omega)
  by_cases h2 : m = 11
  · subst h2
    have e : (fr r).getD 11 0 = c / 16777216 % 256 := by rw [F]; simp [hd, W4]
    have T := turn_ne (c / 16777216 % 256) y (by omega) hy
    rw [e]
    obtain ⟨b, hb⟩ : ∃ b, Go.bits .xor .u8 (c / 16777216 % 256) y = b := ⟨_, rfl⟩
    rw [hb] at T ⊢
    have W : W4 (c % 16777216 + b * 16777216) = [c % 256, c / 256 % 256, c / 65536 % 256, b] := by
      unfold W4
      congr 1
      · omega
      congr 1
      · omega
      congr 1
      · omega
      congr 1
      omega
    have e2 : (fr r).take 11 ++ [b] = hd r.length ++ W4 (c % 16777216 + b * 16777216) ++ [] := by rw [F, W]; simp [hd, W4]
    rw [e2, first_at k hk r.length (by omega) _ (by omega) (by omega) [] (by simp), if_neg]
    intro h
    have h0 : r = [] := by
      have := h.1
      simp at this
      exact this
    have h3 := h.2
    rw [h0] at h3 hc
    simp only [List.take_nil] at h3
    rw [hc] at h3
    omega
  · obtain ⟨j, rfl⟩ : ∃ j, m = 12 + j := ⟨m - 12, by omega⟩
    have hj : j < r.length := by omega
    have e : (fr r).getD (12 + j) 0 = r[j] := by
      rw [F, List.getD_eq_getElem?_getD, List.getElem?_append_right (by simp [hd, W4])]
      simp [hd, W4, hj]
    have xr := hv r[j] (List.getElem_mem hj)
    have T := turn_ne r[j] y xr hy
    rw [e]
    obtain ⟨b, hb⟩ : ∃ b, Go.bits .xor .u8 r[j] y = b := ⟨_, rfl⟩
    rw [hb] at T ⊢
    have e2 : (fr r).take (12 + j) ++ [b] = hd r.length ++ W4 c ++ (r.take j ++ [b]) := by
      rw [F, List.take_append, List.take_of_length_le (by simp [hd, W4]), List.append_assoc]
      congr 3
      simp [hd, W4]
    rw [e2, first_at k hk r.length (by omega) _ cr.1 cr.2 _ (by simp; omega), if_neg]
    intro h
    have hl := h.1
    simp at hl
    have hj2 : j + 1 = r.length := by omega
    have h3 := h.2
    rw [List.take_of_length_le (by simp; omega), ← hc] at h3
    have rr : r = r.take j ++ [r[j]] := by
      have := List.take_succ_eq_append_getElem hj
      rw [hj2, List.take_length] at this
      exact this
    have h4 : cra (cra 0 (hd r.length)) (r.take j ++ [b]) = cra (cra 0 (hd r.length)) (r.take j ++ [r[j]]) := by rw [← rr]; exact h3
    exact T.1 (cra_last _ _ _ _ T.2 xr h4)
theorem scan_t : ∀ (l : List (List Int)) (k : Nat) (pre t : List Int) (acc : List (List Int)), 90001 + l.length ≤ k → (∀ r ∈ l, r.length ≤ 8000) → pre.length + (frs l).length + t.length ≤ 80000000 → acc.length + l.length ≤ 1000000 → 0 < t.length → (∀ k, 90000 ≤ k → frame_first.f k t = some ([], false)) →
    frame_Scan.l0 k (pre ++ frs l ++ t) acc (pre.length : Int) = some (acc ++ l, ((pre ++ frs l).length : Int), false)
  | [], k, pre, t, acc, hk, hr, hp, ha, ht, hf => by
    obtain ⟨k, rfl⟩ : ∃ j, k = j + 1 := ⟨k - 1, by omega⟩
    have e : pre ++ frs [] ++ t = pre ++ t := by simp [frs]
    rw [e]
    simp only [frame_Scan.l0]
    rw [if_pos (by rw [List.length_append]; omega), if_pos (by omega), if_pos (by rw [List.length_append]; omega), Int.toNat_natCast, List.drop_left, hf k (by omega)]
    simp [frs]
  | r :: l, k, pre, t, acc, hk, hr, hp, ha, ht, hf => by
    obtain ⟨k, rfl⟩ : ∃ j, k = j + 1 := ⟨k - 1, by omega⟩
    rw [List.length_cons] at hk ha
    have hr1 := hr r (by simp)
    rw [frs_cons] at hp ⊢
    rw [List.length_append, fr_len] at hp
    have ih := scan_t l k (pre ++ fr r) t (acc ++ [r]) (by omega) (fun x hx => hr x (by simp [hx])) (by rw [List.length_append, fr_len]; omega) (by simp; omega) ht hf
    have e : pre ++ (fr r ++ frs l) ++ t = pre ++ (fr r ++ (frs l ++ t)) := by simp
    rw [e]
    simp only [frame_Scan.l0]
    rw [if_pos (by rw [List.length_append, List.length_append, fr_len]; omega), if_pos (by omega), if_pos (by rw [List.length_append]; omega), Int.toNat_natCast, List.drop_left, first_fr k (by omega) r (frs l ++ t) hr1 (by rw [List.length_append]; omega)]
    rw [Option.bind_some]
    have n1 : acc.length < 5864062014805 := by omega
    rw [if_pos rfl, if_pos n1]
    show frame_Scan.l0 k (pre ++ (fr r ++ (frs l ++ t))) (acc ++ [r]) (wrap64 ((pre.length : Int) + wrap64 (12 + (r.length : Int)))) = _
    rw [w64 (12 + (r.length : Int)) (by omega) (by omega), w64 _ (by omega) (by omega), show (pre.length : Int) + (12 + (r.length : Int)) = ((pre ++ fr r).length : Int) by rw [List.length_append, fr_len]; omega,
      show pre ++ (fr r ++ (frs l ++ t)) = pre ++ fr r ++ frs l ++ t by simp, ih]
    simp
end Go.Proofs.Ytacbaiflblngfaa.Pl
