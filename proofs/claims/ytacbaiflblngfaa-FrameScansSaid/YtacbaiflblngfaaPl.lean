/- Frames in plain lists: what a record is put into, what is scanned again. Conditions: each theorem's own. -/
import Derived.Test.YtacbaiflblngfaaQFramex6
import Derived.Laws.BitsLemmas
namespace Go.Proofs.Ytacbaiflblngfaa.Pl
open Go.RowKit Go.Proofs.Ytacbaiflblngfaa.QFrame Go.Proofs.YtacbaiflblngfaaW.PrintWords
set_option linter.unusedVariables false
set_option linter.unusedSimpArgs false

theorem w64 (x : Int) (h0 : -9223372036854775808 ≤ x) (h1 : x ≤ 9223372036854775807) : wrap64 x = x := by unfold wrap64; omega
theorem wr32 (n : Int) (h0 : 0 ≤ n) (h1 : n < 2 ^ 32) : IntKind.u32.wrap n = n := by rw [IntKind.wrap_u32]; omega
theorem bits_range (op : BinOp) (x y : Int) : 0 ≤ Go.bits op .u32 x y ∧ Go.bits op .u32 x y < 4294967296 := by
  unfold Go.bits
  simp only [IntKind.wrap_u32]
  omega
abbrev cm (x : Int) : Int := Go.bits .xor .u32 4294967295 x

/-! Sums. -/
def cst (c : Int) : Int := Go.bits .xor .u32 (c / 2) (Go.bits .and .u32 2197175160 ((-(Go.bits .and .u32 c 1)) % 4294967296))
def it (j : Nat) (c : Int) : Int := Nat.rec c (fun _ a => cst a) j
theorem it_succ (j : Nat) (c : Int) : it (j + 1) c = it j (cst c) := by
  induction j with
  | zero => rfl
  | succ j ih =>
    show cst (it (j + 1) c) = cst (it j (cst c))
    rw [ih]
def cby (c x : Int) : Int := it 8 (Go.bits .xor .u32 c (x % 4294967296))
def cfo (c : Int) (l : List Int) : Int := l.foldl cby c
theorem add_l1 (l : List Int) (n i : Int) : ∀ (j k : Nat) (c x : Int), 0 ≤ x → 8 - x = j → crc_Add.l1 (k + j + 1) c l n i x = crc_Add.l0 k (it j c) l n (wrap64 (i + 1))
  | 0, k, c, x, h0, h1 => by
    simp only [crc_Add.l1]
    rw [if_neg (by omega)]
    rfl
  | j + 1, k, c, x, h0, h1 => by
    have ih := add_l1 l n i j k (cst c) (x + 1) (by omega) (by omega)
    rw [show k + (j + 1) + 1 = (k + j + 1) + 1 by omega]
    simp only [crc_Add.l1]
    rw [if_pos (by omega), w64 (x + 1) (by omega) (by omega), it_succ]
    exact ih
theorem rd_drop (l : List Int) (i : Nat) (h : i < l.length) : l.drop i = rd l (i : Int) :: l.drop (i + 1) := by
  rw [List.drop_eq_getElem_cons h]
  congr 1
  unfold rd
  rw [Int.toNat_natCast, List.getD_eq_getElem?_getD, List.getElem?_eq_getElem h]; rfl
theorem add_l0 (l : List Int) (hl : l.length ≤ 1000000000) : ∀ (j k : Nat) (c : Int) (i : Nat), 10 * j + 1 ≤ k → i + j = l.length → crc_Add.l0 k c l (l.length : Int) (i : Int) = some (cm (cfo c (l.drop i)))
  | 0, k, c, i, hk, h1 => by
    obtain ⟨k, rfl⟩ : ∃ n, k = n + 1 := ⟨k - 1, by omega⟩
    simp only [crc_Add.l0]
    rw [if_neg (by omega), List.drop_of_length_le (by omega)]
    rfl
  | j + 1, k, c, i, hk, h1 => by
    obtain ⟨k, rfl⟩ : ∃ n, k = n + 10 := ⟨k - 10, by omega⟩
    simp only [crc_Add.l0]
    rw [if_pos (by omega), if_pos (by omega), if_pos (by omega)]
    have := add_l1 l (l.length : Int) (i : Int) 8 k (Go.bits .xor .u32 c (rd l (i : Int) % 4294967296)) 0 (by omega) (by omega)
    rw [show k + 9 = k + 8 + 1 by omega, this, w64 _ (by omega) (by omega), show (i : Int) + 1 = ((i + 1 : Nat) : Int) by omega, add_l0 l hl j k _ (i + 1) (by omega) (by omega), rd_drop l i (by omega)]
    rfl
def cra (s : Int) (l : List Int) : Int := cm (cfo (cm s) l)
theorem add_f (k : Nat) (s : Int) (l : List Int) (hl : l.length ≤ 1000000000) (hk : 10 * l.length + 1 ≤ k) : crc_Add.f k s l = some (cra s l) := by
  have := add_l0 l hl l.length k (cm s) 0 hk (by omega)
  rw [List.drop_zero] at this
  exact this
theorem of_f (k : Nat) (l : List Int) (hl : l.length ≤ 1000000000) (hk : 10 * l.length + 1 ≤ k) : crc_Of.f k l = some (cra 0 l) := by
  unfold crc_Of.f
  rw [add_f k 0 l hl hk]; rfl
theorem cra_range (s : Int) (l : List Int) : 0 ≤ cra s l ∧ cra s l < 4294967296 := by
  unfold cra
  exact bits_range .xor 4294967295 (cfo (cm s) l)

/-! Numbers of four bytes. -/
def W4 (v : Int) : List Int := [v % 256, v / 256 % 256, v / 65536 % 256, v / 16777216 % 256]
theorem number_f (l : List Int) (v : Int) (hl : l.length ≤ 1000000000) : frame_number.f l v = some (l ++ W4 v) := by
  unfold frame_number.f
  simp only [Option.bind_some]
  rw [if_pos (by simp; omega)]
  rfl
theorem orj (i : Nat) (x y : Int) (hx0 : 0 ≤ x) (hx : x % 2 ^ i = 0) (hx1 : x < 2 ^ 32) (hy0 : 0 ≤ y) (hy : y < 2 ^ i) (hy1 : y < 2 ^ 32) : Go.bits .or .u32 x y = x + y :=
  bits_join .u32 32 (by decide) wr32 i x y hx0 hx hx1 hy0 hy hy1
theorem or_comm (x y : Int) : Go.bits .or .u32 x y = Go.bits .or .u32 y x := by
  unfold Go.bits
  simp only [BitVec.or_comm]
def join (a b c d : Int) : Int := Go.bits .or .u32 (Go.bits .or .u32 (Go.bits .or .u32 (a % 4294967296) (((b % 4294967296) * 256) % 4294967296)) (((c % 4294967296) * 65536) % 4294967296)) (((d % 4294967296) * 16777216) % 4294967296)
theorem join_is (a b c d : Int) (ha : 0 ≤ a ∧ a < 256) (hb : 0 ≤ b ∧ b < 256) (hc : 0 ≤ c ∧ c < 256) (hd : 0 ≤ d ∧ d < 256) : join a b c d = a + b * 256 + c * 65536 + d * 16777216 := by
  unfold join
  rw [show a % 4294967296 = a by omega, show b % 4294967296 * 256 % 4294967296 = b * 256 by omega, show c % 4294967296 * 65536 % 4294967296 = c * 65536 by omega, show d % 4294967296 * 16777216 % 4294967296 = d * 16777216 by omega,
    or_comm a, orj 8 (b * 256) a (by omega) (by omega) (by omega) (by omega) (by omega) (by omega), or_comm (b * 256 + a), orj 16 (c * 65536) (b * 256 + a) (by omega) (by omega) (by omega) (by omega) (by omega) (by omega),
    or_comm (c * 65536 + _), orj 24 (d * 16777216) (c * 65536 + (b * 256 + a)) (by omega) (by omega) (by omega) (by omega) (by omega) (by omega)]
  omega
theorem join_W4 (v : Int) (h0 : 0 ≤ v) (h1 : v < 4294967296) : join (v % 256) (v / 256 % 256) (v / 65536 % 256) (v / 16777216 % 256) = v := by
  rw [join_is _ _ _ _ (by omega) (by omega) (by omega) (by omega)]
  omega
theorem at_f (b : List Int) (i : Nat) (a0 a1 a2 a3 : Int) (hl : b.length ≤ 1000000000) (h : b.drop i = a0 :: a1 :: a2 :: a3 :: b.drop (i + 4)) (hi : i + 4 ≤ b.length) : frame_at.f b (i : Int) = some (join a0 a1 a2 a3) := by
  have g : ∀ j, j < 4 → rd b ((i + j : Nat) : Int) = (b.drop i).getD j 0 := by
    intro j hj
    unfold rd
    rw [Int.toNat_natCast, List.getD_eq_getElem?_getD, List.getD_eq_getElem?_getD, List.getElem?_drop]
  have g0 := g 0 (by omega)
  have g1 := g 1 (by omega)
  have g2 := g 2 (by omega)
  have g3 := g 3 (by omega)
  rw [h] at g0 g1 g2 g3
  unfold frame_at.f
  rw [w64 ((i : Int) + 1) (by omega) (by omega), w64 ((i : Int) + 2) (by omega) (by omega), w64 ((i : Int) + 3) (by omega) (by omega),
    if_pos (by omega), if_pos (by omega), if_pos (by omega), if_pos (by omega), if_pos (by omega), if_pos (by omega), if_pos (by omega), if_pos (by omega)]
  rw [show (i : Int) + 1 = ((i + 1 : Nat) : Int) by omega, show (i : Int) + 2 = ((i + 2 : Nat) : Int) by omega, show (i : Int) + 3 = ((i + 3 : Nat) : Int) by omega, show (i : Int) = ((i + 0 : Nat) : Int) by omega, g0, g1, g2, g3]
  rfl

/-! A record's frame. -/
def hd (n : Int) : List Int := W4 n ++ W4 (cm n)
def fr (r : List Int) : List Int := hd r.length ++ W4 (cra (cra 0 (hd r.length)) r) ++ r
theorem fr_len (r : List Int) : (fr r).length = 12 + r.length := by simp [fr, hd, W4]; omega
theorem put_f (k : Nat) (b r : List Int) (hb : b.length ≤ 100000000) (hr : r.length ≤ 8000) (hk : 90000 ≤ k) : frame_Put.f k b r = some (b ++ fr r, 0) := by
  have e : ((r.length : Int)) % 4294967296 = r.length := by omega
  unfold frame_Put.f
  rw [if_neg (by omega), e, number_f _ _ (by simp)]
  simp only [Option.bind_some]
  rw [number_f _ _ (by simp [W4])]
  simp only [Option.bind_some]
  have hh : ([] ++ W4 (r.length : Int) ++ W4 (Go.bits .xor .u32 4294967295 (r.length : Int))) = hd r.length := rfl
  rw [hh, if_pos (by simp; omega), if_pos (by simp [hd, W4]; omega), of_f _ _ (by simp [hd, W4]) (by simp [hd, W4]; omega)]
  simp only [Option.bind_some]
  rw [add_f _ _ _ (by omega) (by omega)]
  simp only [Option.bind_some]
  rw [number_f _ _ (by simp [hd, W4]; omega)]
  simp only [Option.bind_some]
  rw [if_pos (by simp [hd, W4]; omega)]
  congr 2
  simp [fr]
theorem put_no (k : Nat) (b r : List Int) (hr : 8000 < r.length) : frame_Put.f k b r = some ([], 2) := by
  unfold frame_Put.f
  rw [if_pos (by omega)]
/-- The bytes begin with a record's head: the record that is found, if it is all there. -/
theorem first_at (k : Nat) (hk : 90000 ≤ k) (n : Nat) (hn : n ≤ 8000) (c : Int) (hc0 : 0 ≤ c) (hc1 : c < 4294967296) (t : List Int) (ht : t.length ≤ 100000000) :
    frame_first.f k (hd n ++ W4 c ++ t) = some (if n ≤ t.length ∧ cra (cra 0 (hd n)) (t.take n) = c then (t.take n, true) else ([], false)) := by
  obtain ⟨k, rfl⟩ : ∃ j, k = j + 1 := ⟨k - 1, by omega⟩
  have hx : 0 ≤ cm (n : Int) ∧ cm (n : Int) < 4294967296 := bits_range .xor 4294967295 (n : Int)
  have len : (hd (n : Int) ++ W4 c ++ t).length = 12 + t.length := by simp [hd, W4]; omega
  have A0 : frame_at.f (hd (n : Int) ++ W4 c ++ t) ((0 : Nat) : Int) = some (n : Int) := by
    rw [at_f _ 0 ((n : Int) % 256) ((n : Int) / 256 % 256) ((n : Int) / 65536 % 256) ((n : Int) / 16777216 % 256) (by omega) (by simp [hd, W4]) (by omega), join_W4 _ (by omega) (by omega)]
  have A4 : frame_at.f (hd (n : Int) ++ W4 c ++ t) ((4 : Nat) : Int) = some (cm n) := by
    rw [at_f _ 4 ((cm (n : Int)) % 256) ((cm (n : Int)) / 256 % 256) ((cm (n : Int)) / 65536 % 256) ((cm (n : Int)) / 16777216 % 256) (by omega) (by simp [hd, W4]) (by omega), join_W4 _ (by omega) (by omega)]
  have A8 : frame_at.f (hd (n : Int) ++ W4 c ++ t) ((8 : Nat) : Int) = some c := by
    rw [at_f _ 8 (c % 256) (c / 256 % 256) (c / 65536 % 256) (c / 16777216 % 256) (by omega) (by simp [hd, W4]) (by omega), join_W4 _ (by omega) (by omega)]
  unfold frame_first.f
  rw [if_neg (by omega), show (0 : Int) = ((0 : Nat) : Int) from rfl, A0, show (4 : Int) = ((4 : Nat) : Int) from rfl, A4]
  simp only [Option.bind_some]
  rw [if_pos trivial, if_neg (by omega), w64 (n : Int) (by omega) (by omega), w64 (((hd (n : Int) ++ W4 c ++ t).length : Int) - 12) (by omega) (by omega)]
  by_cases h : n ≤ t.length
  · rw [decide_eq_false (by omega)]
    simp only [frame_first.j0]
    rw [if_neg (by decide), w64 (n : Int) (by omega) (by omega), w64 (12 + (n : Int)) (by omega) (by omega), if_pos (by omega), if_pos (by omega), if_pos (by omega)]
    have e8 : (hd (n : Int) ++ W4 c ++ t).take 8 = hd n := by simp [hd, W4]
    have er : ((hd (n : Int) ++ W4 c ++ t).take (12 + (n : Int)).toNat).drop 12 = t.take n := by
      rw [show (12 + (n : Int)).toNat = 12 + n by omega]
      simp [hd, W4, List.take_succ_cons, show 12 + n = n + 12 by omega]
    rw [e8, er, of_f _ _ (by simp [hd, W4]) (by simp [hd, W4]; omega)]
    simp only [Option.bind_some]
    rw [add_f _ _ _ (by simp; omega) (by simp; omega)]
    simp only [Option.bind_some]
    rw [show (8 : Int) = ((8 : Nat) : Int) from rfl, A8]
    simp only [Option.bind_some]
    by_cases e : cra (cra 0 (hd (n : Int))) (t.take n) = c
    · rw [if_pos e, if_pos ⟨h, e⟩]
      unfold bytes_Clone.f
      rw [if_pos (by simp; omega)]
      rfl
    · rw [if_neg e, if_neg (fun z => e z.2)]
  · rw [decide_eq_true (by omega), if_neg (fun z => h z.1)]
    rfl
theorem first_fr (k : Nat) (hk : 90000 ≤ k) (r t : List Int) (hr : r.length ≤ 8000) (ht : t.length ≤ 90000000) : frame_first.f k (fr r ++ t) = some (r, true) := by
  have c := cra_range (cra 0 (hd r.length)) r
  have := first_at k hk r.length hr (cra (cra 0 (hd r.length)) r) c.1 c.2 (r ++ t) (by simp; omega)
  unfold fr
  rw [List.append_assoc, this, List.take_left, if_pos ⟨by simp, rfl⟩]
theorem first_cut (k : Nat) (hk : 90000 ≤ k) (r : List Int) (hr : r.length ≤ 8000) (m : Nat) (h0 : 12 ≤ m) (hm : m < 12 + r.length) : frame_first.f k ((fr r).take m) = some ([], false) := by
  have c := cra_range (cra 0 (hd r.length)) r
  have := first_at k hk r.length hr (cra (cra 0 (hd r.length)) r) c.1 c.2 (r.take (m - 12)) (by simp; omega)
  rw [if_neg (fun z => by have := z.1; simp at this; omega)] at this
  rw [← this]
  congr 1
  unfold fr
  rw [List.take_append, List.take_of_length_le (by simp [hd, W4]; omega)]
  congr 2
def frs (l : List (List Int)) : List Int := (l.map fr).flatten
theorem frs_cons (r : List Int) (l : List (List Int)) : frs (r :: l) = fr r ++ frs l := rfl
theorem frs_app (l m : List (List Int)) : frs (l ++ m) = frs l ++ frs m := by simp [frs]
theorem scan_l0 : ∀ (l : List (List Int)) (k : Nat) (pre : List Int) (acc : List (List Int)), 90001 + l.length ≤ k → (∀ r ∈ l, r.length ≤ 8000) → pre.length + (frs l).length ≤ 90000000 → acc.length + l.length ≤ 1000000 →
    frame_Scan.l0 k (pre ++ frs l) acc (pre.length : Int) = some (acc ++ l, ((pre ++ frs l).length : Int), true)
  | [], k, pre, acc, hk, hr, hp, ha => by
    obtain ⟨k, rfl⟩ : ∃ j, k = j + 1 := ⟨k - 1, by omega⟩
    simp only [frame_Scan.l0]
    rw [if_neg (by simp [frs])]
    simp [frs]
  | r :: l, k, pre, acc, hk, hr, hp, ha => by
    obtain ⟨k, rfl⟩ : ∃ j, k = j + 1 := ⟨k - 1, by omega⟩
    rw [List.length_cons] at hk ha
    have hr1 := hr r (by simp)
    rw [frs_cons] at hp ⊢
    rw [List.length_append, fr_len] at hp
    have ih := scan_l0 l k (pre ++ fr r) (acc ++ [r]) (by omega) (fun x hx => hr x (by simp [hx])) (by rw [List.length_append, fr_len]; omega) (by simp; omega)
    simp only [frame_Scan.l0]
    rw [if_pos (by rw [List.length_append, List.length_append, fr_len]; omega), if_pos (by omega), if_pos (by rw [List.length_append]; omega), Int.toNat_natCast, List.drop_left, first_fr k (by omega) r (frs l) hr1 (by omega)]
    simp only [Option.bind_some]
    rw [if_pos trivial, if_pos (by omega), w64 (12 + (r.length : Int)) (by omega) (by omega), w64 _ (by omega) (by omega)]
    rw [show (pre.length : Int) + (12 + (r.length : Int)) = ((pre ++ fr r).length : Int) by rw [List.length_append, fr_len]; omega, ← List.append_assoc pre]
    rw [ih]
    simp
theorem scan_f (l : List (List Int)) (k : Nat) (hk : 90001 + l.length ≤ k) (hr : ∀ r ∈ l, r.length ≤ 8000) (hp : (frs l).length ≤ 90000000) (ha : l.length ≤ 1000000) :
    frame_Scan.f k (frs l) = some (l, ((frs l).length : Int), true) := by
  have := scan_l0 l k [] [] hk hr (by simpa using hp) (by simpa using ha)
  simpa [frame_Scan.f] using this
theorem awake_200 : hourglasslaw3_awake.f 200 = some true := by kernel_rfl
theorem awake_k (k : Nat) (hk : 200 ≤ k) : hourglasslaw3_awake.f k = some true := at_rounds hourglasslaw3_awake.mono hk awake_200
theorem known : hourglasslaw3_FrameKnown.Pure := by
  refine ⟨90010, ?_⟩
  obtain ⟨z, hz⟩ : ∃ z, List.replicate 8000 (0 : Int) = z := ⟨_, rfl⟩
  obtain ⟨y, hy⟩ : ∃ y, List.replicate 8001 (0 : Int) = y := ⟨_, rfl⟩
  have lz : z.length = 8000 := by rw [← hz, List.length_replicate]
  have ly : y.length = 8001 := by rw [← hy, List.length_replicate]
  have P := put_f 90010 [] z (by simp) (by omega) (by omega)
  have L : (fr z).length = 8012 := by rw [fr_len, lz]
  have S' : ∀ k, 90000 ≤ k → frame_Scan.f (k + 1) ((fr z).take 8011) = some ([], 0, false) := by
    intro k hk
    unfold frame_Scan.f
    simp only [frame_Scan.l0]
    have F := first_cut k hk z (by omega) 8011 (by omega) (by omega)
    rw [if_pos (by rw [List.length_take, L]; decide), if_pos (by decide), if_pos (by rw [List.length_take, L]; decide), show ((0 : Int)).toNat = 0 from rfl, List.drop_zero, F]
    rfl
  have S := S' 90009 (by omega)
  have S0 : frame_Scan.f 90010 [] = some ([], 0, true) := rfl
  unfold hourglasslaw3_FrameKnown.f
  rw [hz, hy, awake_k _ (by omega)]
  simp only [Option.bind_some]
  rw [if_pos trivial, if_pos (by decide), put_no _ _ _ (by omega)]
  simp only [Option.bind_some]
  rw [if_pos (by decide), P]
  simp only [Option.bind_some, List.nil_append]
  rw [if_pos (by rw [L]; decide), S, S0]
  rfl
end Go.Proofs.Ytacbaiflblngfaa.Pl
