/- Scanning, in plain lists: the program's way and the document's are one. Conditions: bytes are bytes. -/
import Derived.Test.YtacbaiflblngfaaPl
import Derived.Test.YtacbaiflblngfaaRs
import Derived.Test.YtacbaiflblngfaaQFramex10
namespace Go.Proofs.Ytacbaiflblngfaa.Pl
open Go.RowKit Go.Proofs.Ytacbaiflblngfaa.QFrame Go.Proofs.YtacbaiflblngfaaW.PrintWords
set_option linter.unusedVariables false
set_option linter.unusedSimpArgs false
theorem bx (a b : Int) : Go.bits .xor .u32 a b = ((BitVec.ofInt 32 a ^^^ BitVec.ofInt 32 b).toNat : Int) := by
  unfold Go.bits
  rw [IntKind.wrap_u32]
  have := (BitVec.ofInt 32 a ^^^ BitVec.ofInt 32 b).isLt
  show ((BitVec.ofInt 32 a ^^^ BitVec.ofInt 32 b).toNat : Int) % 4294967296 = _
  omega
theorem ofInt_eq (a b : Int) (h : BitVec.ofInt 32 a = BitVec.ofInt 32 b) (ha : 0 ≤ a ∧ a < 4294967296) (hb : 0 ≤ b ∧ b < 4294967296) : a = b := by
  have := congrArg BitVec.toNat h
  rw [BitVec.toNat_ofInt, BitVec.toNat_ofInt] at this
  have e : ((2 ^ 32 : Nat) : Int) = 4294967296 := rfl
  omega
theorem xor_inj (a b c : Int) (h : Go.bits .xor .u32 a b = Go.bits .xor .u32 a c) (hb : 0 ≤ b ∧ b < 4294967296) (hc : 0 ≤ c ∧ c < 4294967296) : b = c := by
  rw [bx, bx] at h
  have h2 : BitVec.ofInt 32 a ^^^ BitVec.ofInt 32 b = BitVec.ofInt 32 a ^^^ BitVec.ofInt 32 c := BitVec.eq_of_toNat_eq (by omega)
  exact ofInt_eq b c ((BitVec.xor_right_inj _).mp h2) hb hc
theorem xor_comm32 (a b : Int) : Go.bits .xor .u32 a b = Go.bits .xor .u32 b a := by rw [bx, bx, BitVec.xor_comm]
theorem and_one (c : Int) (h0 : 0 ≤ c) (h1 : c < 4294967296) : Go.bits .and .u32 c 1 = c % 2 := bits_mask .u32 32 (by decide) wr32 1 (by decide) c h0 h1
theorem cst_is (c : Int) (h0 : 0 ≤ c) (h1 : c < 4294967296) : cst c = Go.bits .xor .u32 (c / 2) (if c % 2 = 1 then 2197175160 else 0) := by
  unfold cst
  rw [and_one c h0 h1]
  by_cases h : c % 2 = 1
  · rw [if_pos h, h]; rfl
  · rw [if_neg h, show c % 2 = 0 by omega]; rfl
theorem cm_cm (x : Int) (h : 0 ≤ x ∧ x < 4294967296) : cm (cm x) = x := by
  unfold cm
  rw [bx, bx]
  have e : BitVec.ofInt 32 (((BitVec.ofInt 32 4294967295 ^^^ BitVec.ofInt 32 x).toNat : Nat) : Int) = BitVec.ofInt 32 4294967295 ^^^ BitVec.ofInt 32 x := by
    rw [BitVec.ofInt_natCast, BitVec.ofNat_toNat]
    simp
  rw [e, ← BitVec.xor_assoc, BitVec.xor_self, BitVec.zero_xor, BitVec.toNat_ofInt]
  have e2 : ((2 ^ 32 : Nat) : Int) = 4294967296 := rfl
  omega
theorem xor_zero (x : Int) (h : 0 ≤ x ∧ x < 4294967296) : Go.bits .xor .u32 x 0 = x := by
  rw [bx]
  have e : BitVec.ofInt 32 0 = 0#32 := rfl
  rw [e, BitVec.xor_zero, BitVec.toNat_ofInt]
  have e2 : ((2 ^ 32 : Nat) : Int) = 4294967296 := rfl
  omega
theorem cst_range (c : Int) : 0 ≤ cst c ∧ cst c < 4294967296 := bits_range .xor _ _
theorem it_range : ∀ (j : Nat) (c : Int), (0 ≤ c ∧ c < 4294967296) → 0 ≤ it j c ∧ it j c < 4294967296
  | 0, c, h => h
  | j + 1, c, h => by rw [it_succ]; exact it_range j _ (cst_range c)
theorem ref_l1 (l : List Int) (i : Int) : ∀ (j k : Nat) (c x : Int), (0 ≤ c ∧ c < 4294967296) → 0 ≤ x → 8 - x = j → hourglassref1_Crc.l1 (k + j + 1) l c i x = hourglassref1_Crc.l0 k l (it j c) (wrap64 (i + 1))
  | 0, k, c, x, hc, h0, h1 => by
    simp only [hourglassref1_Crc.l1]
    rw [if_neg (by omega)]
    rfl
  | j + 1, k, c, x, hc, h0, h1 => by
    have e := cst_is c hc.1 hc.2
    rw [show k + (j + 1) + 1 = (k + j + 1) + 1 by omega]
    simp only [hourglassref1_Crc.l1]
    rw [if_pos (by omega), and_one c hc.1 hc.2, w64 (x + 1) (by omega) (by omega), it_succ]
    by_cases h : c % 2 = 1
    · rw [if_pos h] at e ⊢
      rw [← e]
      exact ref_l1 l i j k _ (x + 1) (cst_range c) (by omega) (by omega)
    · rw [if_neg h] at e ⊢
      rw [xor_zero _ (by omega)] at e
      rw [← e]
      exact ref_l1 l i j k _ (x + 1) (cst_range c) (by omega) (by omega)
theorem ref_l0 (l : List Int) (hl : l.length ≤ 1000000000) : ∀ (j k : Nat) (c : Int) (i : Nat), (0 ≤ c ∧ c < 4294967296) → 10 * j + 1 ≤ k → i + j = l.length → hourglassref1_Crc.l0 k l c (i : Int) = some (cm (cfo c (l.drop i)))
  | 0, k, c, i, hc, hk, h1 => by
    obtain ⟨k, rfl⟩ : ∃ n, k = n + 1 := ⟨k - 1, by omega⟩
    simp only [hourglassref1_Crc.l0]
    rw [if_neg (by omega), List.drop_of_length_le (by omega)]
    rfl
  | j + 1, k, c, i, hc, hk, h1 => by
    obtain ⟨k, rfl⟩ : ∃ n, k = (n + 8 + 1) + 1 := ⟨k - 10, by omega⟩
    simp only [hourglassref1_Crc.l0]
    rw [if_pos (by omega), if_pos (by omega), ref_l1 l i 8 k _ 0 (bits_range .xor _ _) (by omega) (by omega), w64 _ (by omega) (by omega), show (i : Int) + 1 = ((i + 1 : Nat) : Int) by omega,
      ref_l0 l hl j k _ (i + 1) (it_range 8 _ (bits_range .xor _ _)) (by omega) (by omega), rd_drop l i (by omega)]
    rfl
theorem crc_f (k : Nat) (l : List Int) (hl : l.length ≤ 1000000000) (hk : 10 * l.length + 1 ≤ k) : hourglassref1_Crc.f k l = some (cra 0 l) := by
  have := ref_l0 l hl l.length k 4294967295 0 (by omega) hk (by omega)
  rw [List.drop_zero] at this
  unfold hourglassref1_Crc.f
  rw [show (0 : Int) = ((0 : Nat) : Int) from rfl, this]
  rfl
theorem cfo_range : ∀ (l : List Int) (c : Int), (0 ≤ c ∧ c < 4294967296) → 0 ≤ cfo c l ∧ cfo c l < 4294967296
  | [], c, h => h
  | x :: l, c, h => cfo_range l (cby c x) (it_range 8 _ (bits_range .xor _ _))
theorem cra_app (a b : List Int) : cra (cra 0 a) b = cra 0 (a ++ b) := by
  unfold cra
  rw [cm_cm _ (cfo_range a _ (bits_range .xor _ _))]
  unfold cfo
  rw [List.foldl_append]
theorem w32_f (l : List Int) (v : Int) (hl : l.length ≤ 1000000000) : hourglassref1_w32.f l v = some (l ++ W4 v) := by
  unfold hourglassref1_w32.f
  simp only [Option.bind_some, List.nil_append, List.length_nil, Nat.zero_add]
  rw [if_pos (by omega)]
  try simp only [Option.bind_some]
  rw [if_pos (by simp; omega)]
  rfl
theorem frame_f (k : Nat) (r : List Int) (hr : r.length ≤ 8000) (hk : 90000 ≤ k) : hourglassref1_Frame.f k r = some (fr r) := by
  unfold hourglassref1_Frame.f
  have hx : (r.length : Int) % 4294967296 = r.length := by omega
  rw [hx, w32_f [] _ (by simp)]
  simp only [Option.bind_some, List.nil_append]
  rw [w32_f _ _ (by simp [W4])]
  simp only [Option.bind_some, List.nil_append, List.length_nil, Nat.zero_add]
  have hh : (W4 (r.length : Int) ++ W4 (Go.bits .xor .u32 4294967295 (r.length : Int))) = hd r.length := rfl
  rw [hh]
  have hl : (hd (r.length : Int)).length = 8 := by simp [hd, W4]
  rw [if_pos (by omega)]
  try simp only [Option.bind_some]
  rw [if_pos (by omega), crc_f k _ (by rw [List.length_append]; omega) (by rw [List.length_append]; omega)]
  simp only [Option.bind_some]
  rw [w32_f _ _ (by omega)]
  simp only [Option.bind_some]
  rw [if_pos (by rw [List.length_append, hl]; simp [W4]; omega), ← cra_app]
  rfl
theorem W4_join (a b c d : Int) (ha : 0 ≤ a ∧ a < 256) (hb : 0 ≤ b ∧ b < 256) (hc : 0 ≤ c ∧ c < 256) (hd : 0 ≤ d ∧ d < 256) : W4 (join a b c d) = [a, b, c, d] := by
  rw [join_is a b c d ha hb hc hd]
  unfold W4
  congr 1
  · omega
  congr 1
  · omega
  congr 1
  · omega
  congr 1
  omega
theorem join_range (a b c d : Int) : 0 ≤ join a b c d ∧ join a b c d < 4294967296 := bits_range .or _ _
theorem at32_f (a b c d : Int) (t : List Int) : hourglassref1_at32.f (a :: b :: c :: d :: t) = some (join a b c d) := by
  unfold hourglassref1_at32.f
  have h : (((a :: b :: c :: d :: t).length : Nat) : Int) = t.length + 4 := by simp; omega
  rw [h, if_pos (by omega), if_pos (by omega), if_pos (by omega), if_pos (by omega)]
  rfl
theorem str_inj {a b : List Int} (ha : ∀ x ∈ a, 0 ≤ x ∧ x < 256) (hb : ∀ x ∈ b, 0 ≤ x ∧ x < 256) (h : (strOfNums a).toList = (strOfNums b).toList) : a = b := by
  rw [ByteArray.toList_eq, ByteArray.toList_eq, strOfNums_data, strOfNums_data] at h
  have hl := congrArg List.length h
  rw [List.length_map, List.length_map] at hl
  refine List.ext_getElem hl fun i h1 h2 => ?_
  have h3 : (a.map fun n => UInt8.ofNat n.toNat)[i]? = (b.map fun n => UInt8.ofNat n.toNat)[i]? := by rw [h]
  rw [List.getElem?_map, List.getElem?_map, List.getElem?_eq_getElem h1, List.getElem?_eq_getElem h2] at h3
  have h4 := Option.some.inj h3
  have h5 := congrArg UInt8.toNat h4
  simp only [UInt8.toNat_ofNat'] at h5
  have ra := ha _ (List.getElem_mem h1)
  have rb := hb _ (List.getElem_mem h2)
  omega
theorem same_l0' (X : List (List Int)) (hX : X.length ≤ 1000000) : ∀ (j k i : Nat), i + j = X.length → j + 1 ≤ k → hourglassref1_Same.l0 k X X (i : Int) = some true
  | 0, k, i, h, hk => by
    obtain ⟨k, rfl⟩ : ∃ n, k = n + 1 := ⟨k - 1, by omega⟩
    simp only [hourglassref1_Same.l0]
    rw [if_neg (by omega)]
  | j + 1, k, i, h, hk => by
    obtain ⟨k, rfl⟩ : ∃ n, k = n + 1 := ⟨k - 1, by omega⟩
    simp only [hourglassref1_Same.l0]
    rw [if_pos (by omega), if_pos (by omega), if_pos (by omega), if_pos True.intro, w64 _ (by omega) (by omega), show (i : Int) + 1 = ((i + 1 : Nat) : Int) by omega]
    exact same_l0' X hX j k (i + 1) (by omega) (by omega)
theorem same_f' (X : List (List Int)) (hX : X.length ≤ 1000000) : hourglassref1_Same.f (X.length + 1) X X = some true := by
  unfold hourglassref1_Same.f
  rw [if_pos rfl]
  exact same_l0' X hX X.length _ 0 (by omega) (Nat.le_refl _)
theorem ba_inj {a b : ByteArray} (h : a.toList = b.toList) : a = b := by
  rw [ByteArray.toList_eq, ByteArray.toList_eq] at h
  cases a; cases b
  simp_all
/-- One round of the document's scan, case by case. -/
theorem ref_cases (b : List Int) (hl : b.length ≤ 100000) (hb : ∀ x ∈ b, 0 ≤ x ∧ x < 256) (acc : List (List Int)) (ha : acc.length ≤ 1000000) (at_ : Nat) (hat : at_ < b.length) (k3 : Nat) (h2 : 90000 ≤ k3) (r : List Int) (hr : r = b.drop at_) :
    (r.length < 12 ∧ hourglassref1_Scan.l0 (k3 + 2) b acc at_ = some (acc, (at_ : Int), false)) ∨
    (12 ≤ r.length ∧ ∃ n m : Int, 0 ≤ n ∧ n < 4294967296 ∧ hourglassref1_at32.f r = some n ∧ hourglassref1_at32.f (r.drop 4) = some m ∧
      ((m ≠ cm n ∧ hourglassref1_Scan.l0 (k3 + 2) b acc at_ = some (acc, (at_ : Int), false)) ∨ (m = cm n ∧ 8000 < n ∧ hourglassref1_Scan.l0 (k3 + 2) b acc at_ = some (acc, (at_ : Int), false)) ∨
       (m = cm n ∧ n ≤ 8000 ∧ (r.length : Int) - 12 < n ∧ hourglassref1_Scan.l0 (k3 + 2) b acc at_ = some (acc, (at_ : Int), false)) ∨
       (∃ N : Nat, n = N ∧ m = cm n ∧ N ≤ 8000 ∧ N + 12 ≤ r.length ∧ hourglassref1_Frame.f k3 ((r.take (12 + N)).drop 12) = some (fr ((r.take (12 + N)).drop 12)) ∧
        ((strOfNums (fr ((r.take (12 + N)).drop 12)) ≠ strOfNums (r.take (12 + N)) ∧ hourglassref1_Scan.l0 (k3 + 2) b acc at_ = some (acc, (at_ : Int), false)) ∨
         (strOfNums (fr ((r.take (12 + N)).drop 12)) = strOfNums (r.take (12 + N)) ∧ hourglassref1_Scan.l0 (k3 + 2) b acc at_ = hourglassref1_Scan.l0 k3 b (acc ++ [(r.take (12 + N)).drop 12]) ((at_ + 12 + N : Nat) : Int)))))) := by
  have hrl : r.length = b.length - at_ := by rw [hr, List.length_drop]
  have hrb : ∀ x ∈ r, 0 ≤ x ∧ x < 256 := fun x hx => hb x (by rw [hr] at hx; exact List.mem_of_mem_drop hx)
  by_cases h12 : r.length < 12
  · refine Or.inl ⟨h12, ?_⟩
    simp only [hourglassref1_Scan.l0]
    rw [if_pos (by omega), if_pos (by omega), if_pos (by omega), Int.toNat_natCast, ← hr, if_pos (by omega)]
  refine Or.inr ⟨by omega, ?_⟩
  obtain ⟨a0, a1, a2, a3, a4, a5, a6, a7, t, ht⟩ : ∃ a0 a1 a2 a3 a4 a5 a6 a7 t, r = a0 :: a1 :: a2 :: a3 :: a4 :: a5 :: a6 :: a7 :: t := by
    match r, h12 with
    | a0 :: a1 :: a2 :: a3 :: a4 :: a5 :: a6 :: a7 :: t, _ => exact ⟨a0, a1, a2, a3, a4, a5, a6, a7, t, rfl⟩
    | [], h | [_], h | [_, _], h | [_, _, _], h | [_, _, _, _], h | [_, _, _, _, _], h | [_, _, _, _, _, _], h | [_, _, _, _, _, _, _], h => exact absurd (show _ < 12 by simp) h
  have q0 : hourglassref1_at32.f r = some (join a0 a1 a2 a3) := by rw [ht]; exact at32_f _ _ _ _ _
  have q4 : hourglassref1_at32.f (r.drop 4) = some (join a4 a5 a6 a7) := by rw [ht]; exact at32_f _ _ _ _ _
  have n0 := join_range a0 a1 a2 a3
  obtain ⟨n, hn⟩ : ∃ n, n = join a0 a1 a2 a3 := ⟨_, rfl⟩
  obtain ⟨m, hm⟩ : ∃ m, m = join a4 a5 a6 a7 := ⟨_, rfl⟩
  rw [← hn] at n0 q0
  rw [← hm] at q4
  have ref : hourglassref1_Scan.l0 (k3 + 1 + 1) b acc at_ = (if m = (Go.bits .xor .u32 4294967295 n) then (if n > 8000 then (hourglassref1_Scan.j1 (k3 + 1) b acc at_ r n true) else (hourglassref1_Scan.j1 (k3 + 1) b acc at_ r n (decide ((wrap64 ((r.length : Int) - 12)) < (wrap64 n))))) else (hourglassref1_Scan.j1 (k3 + 1) b acc at_ r n true)) := by
    simp only [hourglassref1_Scan.l0]
    rw [if_pos (by omega), if_pos (by omega), if_pos (by omega), Int.toNat_natCast, ← hr, if_neg (by omega), q0]
    simp only [Option.bind_some]
    rw [if_pos (by omega), q4]
    rfl
  have out : hourglassref1_Scan.j1 (k3 + 1) b acc at_ r n true = some (acc, (at_ : Int), false) := rfl
  refine ⟨n, m, n0.1, n0.2, q0, q4, ?_⟩
  by_cases hmn : m = Go.bits .xor .u32 4294967295 n
  · by_cases h8 : n > 8000
    · exact Or.inr (Or.inl ⟨hmn, h8, by rw [ref, if_pos hmn, if_pos h8, out]⟩)
    obtain ⟨N, hN⟩ : ∃ N : Nat, n = N := ⟨n.toNat, by omega⟩
    by_cases hNt : (r.length : Int) - 12 < n
    · refine Or.inr (Or.inr (Or.inl ⟨hmn, by omega, hNt, ?_⟩))
      rw [ref, if_pos hmn, if_neg h8, decide_eq_true (by rw [w64 _ (by omega) (by omega), w64 n (by omega) (by omega)]; exact hNt), out]
    · have dec : decide ((wrap64 ((r.length : Int) - 12)) < (wrap64 n)) = false := by
        rw [w64 _ (by omega) (by omega), w64 n (by omega) (by omega)]
        exact decide_eq_false hNt
      have tl : ((r.take (12 + N)).drop 12).length = N := by rw [List.length_drop, List.length_take]; omega
      have ff := frame_f k3 ((r.take (12 + N)).drop 12) (by omega) (by omega)
      have refj : hourglassref1_Scan.j1 (k3 + 1) b acc at_ r n false = (if (strOfNums (fr ((r.take (12 + N)).drop 12))).toList = (strOfNums (r.take (12 + N))).toList then (hourglassref1_Scan.l0 k3 b (acc ++ [(r.take (12 + N)).drop 12]) ((at_ + 12 + N : Nat) : Int)) else (some (acc, (at_ : Int), false))) := by
        simp only [hourglassref1_Scan.j1]
        rw [if_neg (by decide)]
        simp only [Option.bind_some]
        rw [hN, w64 (N : Int) (by omega) (by omega), w64 (12 + (N : Int)) (by omega) (by omega), if_pos (by omega), if_pos (by omega), show (12 + (N : Int)).toNat = 12 + N by omega, List.nil_append, if_pos (by rw [List.length_nil, tl]; omega)]
        try simp only [Option.bind_some]
        rw [ff]
        simp only [Option.bind_some]
        rw [if_pos (by omega), w64 ((at_ : Int) + 12) (by omega) (by omega), w64 ((at_ : Int) + 12 + (N : Int)) (by omega) (by omega), if_pos (show acc.length < 5864062014805 by omega), show (at_ : Int) + 12 + (N : Int) = ((at_ + 12 + N : Nat) : Int) by omega]
      refine Or.inr (Or.inr (Or.inr ⟨N, hN, hmn, by omega, by omega, ff, ?_⟩))
      by_cases hs : strOfNums (fr ((r.take (12 + N)).drop 12)) = strOfNums (r.take (12 + N))
      · exact Or.inr ⟨hs, by rw [ref, if_pos hmn, if_neg h8, dec, refj, if_pos (by rw [hs])]⟩
      · exact Or.inl ⟨hs, by rw [ref, if_pos hmn, if_neg h8, dec, refj, if_neg (fun e => hs (ba_inj e))]⟩
  · exact Or.inl ⟨hmn, by rw [ref, if_neg hmn, out]⟩
/-- One step of both scans. -/
theorem step (b : List Int) (hb : ∀ x ∈ b, 0 ≤ x ∧ x < 256) (hl : b.length ≤ 100000) (acc : List (List Int)) (ha : acc.length ≤ 1000000) (at_ : Nat) (hat : at_ < b.length) (k1 k2 : Nat) (h1 : 90000 ≤ k1) (h2 : 90001 ≤ k2) :
    (frame_Scan.l0 (k1 + 1) b acc at_ = some (acc, (at_ : Int), false) ∧ hourglassref1_Scan.l0 (k2 + 1) b acc at_ = some (acc, (at_ : Int), false)) ∨
    (∃ (rec : List Int) (at2 : Nat), at_ + 12 ≤ at2 ∧ at2 ≤ b.length ∧ frame_Scan.l0 (k1 + 1) b acc at_ = frame_Scan.l0 k1 b (acc ++ [rec]) at2 ∧ ∃ k3, k2 = k3 + 1 ∧ hourglassref1_Scan.l0 (k2 + 1) b acc at_ = hourglassref1_Scan.l0 k3 b (acc ++ [rec]) at2) := by
  obtain ⟨k3, rfl⟩ : ∃ n, k2 = n + 1 := ⟨k2 - 1, by omega⟩
  obtain ⟨r, hr⟩ : ∃ r, r = b.drop at_ := ⟨_, rfl⟩
  have hrl : r.length = b.length - at_ := by rw [hr, List.length_drop]
  have hrb : ∀ x ∈ r, 0 ≤ x ∧ x < 256 := fun x hx => hb x (by rw [hr] at hx; exact List.mem_of_mem_drop hx)
  have f1 : frame_Scan.l0 (k1 + 1) b acc at_ = (frame_first.f k1 r).bind fun bt147 => (if bt147.2 = true then (if acc.length < 5864062014805 then (frame_Scan.l0 k1 b (acc ++ [bt147.1]) (wrap64 ((at_ : Int) + (wrap64 (12 + (bt147.1.length : Int)))))) else (none)) else (some (acc, (at_ : Int), false))) := by
    simp only [frame_Scan.l0]
    rw [if_pos (by omega), if_pos (by omega), if_pos (by omega), Int.toNat_natCast, ← hr]
  have no : frame_first.f k1 r = some ([], false) → frame_Scan.l0 (k1 + 1) b acc at_ = some (acc, (at_ : Int), false) := by
    intro h
    rw [f1, h]
    rfl
  by_cases h12 : r.length < 12
  · refine Or.inl ⟨no (by unfold frame_first.f; rw [if_pos (by omega)]), ?_⟩
    simp only [hourglassref1_Scan.l0]
    rw [if_pos (by omega), if_pos (by omega), if_pos (by omega), Int.toNat_natCast, ← hr, if_pos (by omega)]
  obtain ⟨a0, a1, a2, a3, a4, a5, a6, a7, a8, a9, a10, a11, t, ht⟩ : ∃ a0 a1 a2 a3 a4 a5 a6 a7 a8 a9 a10 a11 t, r = a0 :: a1 :: a2 :: a3 :: a4 :: a5 :: a6 :: a7 :: a8 :: a9 :: a10 :: a11 :: t := by
    match r, h12 with
    | a0 :: a1 :: a2 :: a3 :: a4 :: a5 :: a6 :: a7 :: a8 :: a9 :: a10 :: a11 :: t, _ => exact ⟨a0, a1, a2, a3, a4, a5, a6, a7, a8, a9, a10, a11, t, rfl⟩
    | [], h | [_], h | [_, _], h | [_, _, _], h | [_, _, _, _], h | [_, _, _, _, _], h | [_, _, _, _, _, _], h | [_, _, _, _, _, _, _], h | [_, _, _, _, _, _, _, _], h | [_, _, _, _, _, _, _, _, _], h | [_, _, _, _, _, _, _, _, _, _], h | [_, _, _, _, _, _, _, _, _, _, _], h => exact absurd (show _ < 12 by simp) h
  have hrt : r.length = t.length + 12 := by rw [ht]; simp
  have B : ∀ x, x ∈ [a0, a1, a2, a3, a4, a5, a6, a7, a8, a9, a10, a11] → 0 ≤ x ∧ x < 256 := by
    intro x hx
    refine hrb x ?_
    rw [ht]
    simp only [List.mem_cons, List.not_mem_nil, or_false] at hx ⊢
    rcases hx with h | h | h | h | h | h | h | h | h | h | h | h <;> simp [h]
  have n0 := join_range a0 a1 a2 a3
  have m0 := join_range a4 a5 a6 a7
  have c0 := join_range a8 a9 a10 a11
  have w0 := W4_join a0 a1 a2 a3 (B a0 (by simp)) (B a1 (by simp)) (B a2 (by simp)) (B a3 (by simp))
  have w1 := W4_join a4 a5 a6 a7 (B a4 (by simp)) (B a5 (by simp)) (B a6 (by simp)) (B a7 (by simp))
  have w2 := W4_join a8 a9 a10 a11 (B a8 (by simp)) (B a9 (by simp)) (B a10 (by simp)) (B a11 (by simp))
  have g0 : frame_at.f r ((0 : Nat) : Int) = some (join a0 a1 a2 a3) := at_f r 0 a0 a1 a2 a3 (by omega) (by rw [ht]; rfl) (by omega)
  have g4 : frame_at.f r ((4 : Nat) : Int) = some (join a4 a5 a6 a7) := at_f r 4 a4 a5 a6 a7 (by omega) (by rw [ht]; rfl) (by omega)
  have q0 : hourglassref1_at32.f r = some (join a0 a1 a2 a3) := by rw [ht]; exact at32_f _ _ _ _ _
  have q4 : hourglassref1_at32.f (r.drop 4) = some (join a4 a5 a6 a7) := by rw [ht]; exact at32_f _ _ _ _ _
  obtain ⟨n, hn⟩ : ∃ n, n = join a0 a1 a2 a3 := ⟨_, rfl⟩
  obtain ⟨m, hm⟩ : ∃ m, m = join a4 a5 a6 a7 := ⟨_, rfl⟩
  obtain ⟨c, hc⟩ : ∃ c, c = join a8 a9 a10 a11 := ⟨_, rfl⟩
  rw [← hn] at n0 w0 g0 q0
  rw [← hm] at m0 w1 g4 q4
  rw [← hc] at c0 w2
  have ref : hourglassref1_Scan.l0 (k3 + 1 + 1) b acc at_ = (if m = (Go.bits .xor .u32 4294967295 n) then (if n > 8000 then (hourglassref1_Scan.j1 (k3 + 1) b acc at_ r n true) else (hourglassref1_Scan.j1 (k3 + 1) b acc at_ r n (decide ((wrap64 ((r.length : Int) - 12)) < (wrap64 n))))) else (hourglassref1_Scan.j1 (k3 + 1) b acc at_ r n true)) := by
    simp only [hourglassref1_Scan.l0]
    rw [if_pos (by omega), if_pos (by omega), if_pos (by omega), Int.toNat_natCast, ← hr, if_neg (by omega), q0]
    simp only [Option.bind_some]
    rw [if_pos (by omega), q4]
    rfl
  have out : hourglassref1_Scan.j1 (k3 + 1) b acc at_ r n true = some (acc, (at_ : Int), false) := rfl
  have fst : frame_first.f k1 r = (if m = (Go.bits .xor .u32 4294967295 n) then (if n > 8000 then (frame_first.j0 k1 r n true) else (frame_first.j0 k1 r n (decide ((wrap64 n) > (wrap64 ((r.length : Int) - 12)))))) else (frame_first.j0 k1 r n true)) := by
    unfold frame_first.f
    rw [if_neg (by omega), show (0 : Int) = ((0 : Nat) : Int) from rfl, g0, show (4 : Int) = ((4 : Nat) : Int) from rfl, g4]
    rfl
  have fout : frame_first.j0 k1 r n true = some ([], false) := by
    obtain ⟨k, rfl⟩ : ∃ j, k1 = j + 1 := ⟨k1 - 1, by omega⟩
    rfl
  by_cases hmn : m = Go.bits .xor .u32 4294967295 n
  · by_cases h8 : n > 8000
    · refine Or.inl ⟨no (by rw [fst, if_pos hmn, if_pos h8, fout]), by rw [ref, if_pos hmn, if_pos h8, out]⟩
    obtain ⟨N, hN⟩ : ∃ N : Nat, n = N := ⟨n.toNat, by omega⟩
    have hrr : r = hd (N : Int) ++ W4 c ++ t := by
      have e1 : W4 (cm (N : Int)) = [a4, a5, a6, a7] := by rw [← w1, hmn, hN]
      unfold hd
      rw [e1, ← hN, w0, w2, ht]
      rfl
    have fa := first_at k1 h1 N (by omega) c c0.1 c0.2 t (by omega)
    rw [← hrr] at fa
    by_cases hNt : N ≤ t.length
    · have tl : (t.take N).length = N := by rw [List.length_take]; omega
      have ff : hourglassref1_Frame.f k3 (t.take N) = some (fr (t.take N)) := frame_f k3 _ (by omega) (by omega)
      have er : (r.take (12 + (N : Int)).toNat) = hd (N : Int) ++ W4 c ++ t.take N := by
        rw [hrr, show (12 + (N : Int)).toNat = (hd (N : Int) ++ W4 c).length + N by simp [hd, W4]; omega, List.take_length_add_append]
      have er2 : (r.take (12 + (N : Int)).toNat).drop 12 = t.take N := by
        rw [er]
        simp [hd, W4]
      have refj : hourglassref1_Scan.j1 (k3 + 1) b acc at_ r n false = (if (strOfNums (fr (t.take N))).toList = (strOfNums (hd (N : Int) ++ W4 c ++ t.take N)).toList then (hourglassref1_Scan.l0 k3 b (acc ++ [t.take N]) ((at_ + 12 + N : Nat) : Int)) else (some (acc, (at_ : Int), false))) := by
        simp only [hourglassref1_Scan.j1]
        rw [if_neg (by decide)]
        simp only [Option.bind_some]
        rw [hN, w64 (N : Int) (by omega) (by omega), w64 (12 + (N : Int)) (by omega) (by omega), if_pos (by omega), if_pos (by omega), er2, List.nil_append, if_pos (by rw [List.length_nil, tl]; omega)]
        try simp only [Option.bind_some]
        rw [ff]
        simp only [Option.bind_some]
        rw [if_pos (by omega), er, w64 ((at_ : Int) + 12) (by omega) (by omega), w64 ((at_ : Int) + 12 + (N : Int)) (by omega) (by omega), if_pos (show acc.length < 5864062014805 by omega), show (at_ : Int) + 12 + (N : Int) = ((at_ + 12 + N : Nat) : Int) by omega]
      have dec : decide ((wrap64 ((r.length : Int) - 12)) < (wrap64 n)) = false := by
        rw [w64 _ (by omega) (by omega), w64 n (by omega) (by omega)]
        exact decide_eq_false (by omega)
      have hfr : fr (t.take N) = hd (N : Int) ++ W4 (cra (cra 0 (hd (N : Int))) (t.take N)) ++ t.take N := by
        unfold fr
        rw [tl]
      by_cases hcc : cra (cra 0 (hd (N : Int))) (t.take N) = c
      · rw [if_pos ⟨hNt, hcc⟩] at fa
        refine Or.inr ⟨t.take N, at_ + 12 + N, by omega, by omega, ?_, k3, rfl, ?_⟩
        · rw [f1, fa, Option.bind_some, if_pos rfl, if_pos (by omega), tl, w64 (12 + (N : Int)) (by omega) (by omega), w64 _ (by omega) (by omega), show (at_ : Int) + (12 + (N : Int)) = ((at_ + 12 + N : Nat) : Int) by omega]
        · rw [ref, if_pos hmn, if_neg h8, dec, refj, hfr, hcc, if_pos rfl]
      · rw [if_neg (fun h => hcc h.2)] at fa
        refine Or.inl ⟨no fa, ?_⟩
        rw [ref, if_pos hmn, if_neg h8, dec, refj, if_neg]
        intro hs
        have tb : ∀ x ∈ t.take N, 0 ≤ x ∧ x < 256 := fun x hx => hrb x (by rw [ht]; simp [List.mem_of_mem_take hx])
        have wb : ∀ v : Int, ∀ x ∈ W4 v, 0 ≤ x ∧ x < 256 := by
          intro v x hx
          simp only [W4, List.mem_cons, List.not_mem_nil, or_false] at hx
          omega
        have bb : ∀ v : Int, ∀ x ∈ hd (N : Int) ++ W4 v ++ t.take N, 0 ≤ x ∧ x < 256 := by
          intro v x hx
          simp only [hd, List.mem_append] at hx
          rcases hx with ((hx | hx) | hx) | hx
          · exact wb _ x hx
          · exact wb _ x hx
          · exact wb _ x hx
          · exact tb x hx
        rw [hfr] at hs
        have he := str_inj (bb _) (bb _) hs
        have he2 : W4 (cra (cra 0 (hd (N : Int))) (t.take N)) = W4 c := by
          have h3 := List.append_cancel_right he
          exact List.append_cancel_left h3
        have cr := cra_range (cra 0 (hd (N : Int))) (t.take N)
        apply hcc
        unfold W4 at he2
        simp only [List.cons.injEq, and_true] at he2
        omega
    · rw [if_neg (fun h => hNt h.1)] at fa
      refine Or.inl ⟨no fa, ?_⟩
      rw [ref, if_pos hmn, if_neg h8, decide_eq_true (by rw [w64 _ (by omega) (by omega), w64 n (by omega) (by omega)]; omega), out]
  · exact Or.inl ⟨no (by rw [fst, if_neg hmn, fout]), by rw [ref, if_neg hmn, out]⟩
theorem both (b : List Int) (hb : ∀ x ∈ b, 0 ≤ x ∧ x < 256) (hl : b.length ≤ 100000) : ∀ (n : Nat) (acc : List (List Int)) (at_ k1 k2 : Nat), at_ ≤ b.length → b.length - at_ ≤ n → acc.length + n ≤ 900000 → 90001 + n ≤ k1 → 90002 + 2 * n ≤ k2 →
    ∃ (p : List (List Int)) (u : Int) (w : Bool), frame_Scan.l0 k1 b acc at_ = some (p, u, w) ∧ hourglassref1_Scan.l0 k2 b acc at_ = some (p, u, w) ∧ p.length ≤ acc.length + n
  | n, acc, at_, k1, k2, h1, h2, h3, h4, h5 => by
    obtain ⟨k1, rfl⟩ : ∃ j, k1 = j + 1 := ⟨k1 - 1, by omega⟩
    obtain ⟨k2, rfl⟩ : ∃ j, k2 = j + 1 := ⟨k2 - 1, by omega⟩
    by_cases hlt : at_ < b.length
    · rcases step b hb hl acc (by omega) at_ hlt k1 k2 (by omega) (by omega) with ⟨s1, s2⟩ | ⟨rec, at2, g1, g2, s1, k3, rfl, s2⟩
      · exact ⟨acc, at_, false, s1, s2, by omega⟩
      · match n, h2 with
        | 0, h2 => omega
        | n + 1, h2 =>
          obtain ⟨p, u, w, e1, e2, e3⟩ := both b hb hl n (acc ++ [rec]) at2 k1 k3 g2 (by omega) (by simp; omega) (by omega) (by omega)
          exact ⟨p, u, w, by rw [s1, e1], by rw [s2, e2], by rw [List.length_append, List.length_cons, List.length_nil] at e3; omega⟩
    · refine ⟨acc, at_, true, ?_, ?_, by omega⟩
      · simp only [frame_Scan.l0]
        rw [if_neg (by omega)]
      · simp only [hourglassref1_Scan.l0]
        rw [if_neg (by omega)]
theorem scan_same (b : List Int) (hb : ∀ x ∈ b, 0 ≤ x ∧ x < 256) (hl : b.length ≤ 100000) : ∃ (p : List (List Int)) (u : Int) (w : Bool), frame_Scan.f 200000 b = some (p, u, w) ∧ hourglassref1_Scan.f 300000 b = some (p, u, w) ∧ p.length ≤ 100000 := by
  obtain ⟨p, u, w, e1, e2, e3⟩ := both b hb hl b.length [] 0 200000 300000 (by omega) (by omega) (by simp; omega) (by omega) (by omega)
  exact ⟨p, u, w, e1, e2, by simp at e3; omega⟩
end Go.Proofs.Ytacbaiflblngfaa.Pl
