/- A count's text, in plain bytes, and its order. Conditions: each theorem's own. -/
import Derived.Test.YthelnkmjhchmnaaDoorTw
import Derived.Test.YthelnkmjhchmnaaDoorQLeapx16
namespace Go.Proofs.YthelnkmjhchmnaaDoor.Tl
open Go.RowKit Go.Proofs.YthelnkmjhchmnaaDoor.QLeap Go.Proofs.YthelnkmjhchmnaaDoor.Cal Go.Proofs.YthelnkmjhchmnaaDoor.Pa Go.Proofs.YthelnkmjhchmnaaDoor.Nm Go.Proofs.YthelnkmjhchmnaaDoorW.PrintWords
set_option linter.unusedVariables false
set_option linter.unusedSimpArgs false
def mi (s : Int) : Int := if s / 60 < 1439 then s / 60 else 1439
def clk (y m d s : Int) : List UInt8 := txl y m d ++ [84] ++ tw (mi s / 60) ++ [58] ++ tw (mi s % 60) ++ [58] ++ tw (s - mi s * 60) ++ [90]
theorem mi_in {s : Int} (h0 : 0 ≤ s) (h1 : s ≤ 86400) : 0 ≤ mi s ∧ mi s ≤ 1439 ∧ 0 ≤ s - mi s * 60 ∧ s - mi s * 60 ≤ 60 := by
  unfold mi
  split <;> omega
theorem leap_two_is (n : Int) (h0 : 0 ≤ n) (h1 : n < 100) : leap_two.f n = some ⟨(tw n).toArray⟩ := by
  have l1 := dec1 (n / 10).toNat (by omega)
  have l2 := dec1 (n % 10).toNat (by omega)
  unfold leap_two.f strconv_Itoa.f tw
  rw [Int.tdiv_eq_ediv_of_nonneg h0, Int.tmod_eq_emod_of_nonneg h0, show wrap64 (n / 10) = n / 10 by unfold wrap64; omega, if_pos (by omega), if_pos (by omega), if_pos (by omega), if_pos (by omega)]
  simp only [Option.bind_some]
  rw [if_pos (by simp [ByteArray.size, l1, l2]), ByteArray.mk_append_mk]
theorem sz (l : List UInt8) : (⟨l.toArray⟩ : ByteArray).size = l.length := by
  show l.toArray.size = _
  rw [List.size_toArray]
theorem txl_len (y m d : Int) (g : good y m d) : (txl y m d).length = if y < 0 then 11 else 10 := by
  rw [txl_10 y m d g _ rfl]
  split <;> simp
theorem clock_yes (k : Nat) (hk : 20300 ≤ k) {l : List S52} (T : Tab l) (s : ByteArray) (t d sec y m dd : Int) (hu : utcv l t = (d, sec, 0)) (h0 : 0 ≤ sec) (h1 : sec ≤ 86400) (ho : civil_Of.f k d = some (y, m, dd, 0)) (g : good y m dd) :
    leap_Table_Clock.f k s l t = some (⟨(clk y m dd sec).toArray⟩, s) := by
  obtain ⟨a0, a1, a2, a3⟩ := mi_in h0 h1
  have hl := txl_len y m dd g
  have l2 := tw_len (mi sec / 60) (by omega) (by omega)
  have l3 := tw_len (mi sec % 60) (by omega) (by omega)
  have l4 := tw_len (sec - mi sec * 60) (by omega) (by omega)
  have hb : (txl y m dd).length ≤ 11 := by rw [hl]; split <;> omega
  have hmn : mn (wrap64 (Int.tdiv sec 60)) 1439 = mi sec := by
    rw [Int.tdiv_eq_ediv_of_nonneg h0, w64 _ (by omega) (by omega)]
    unfold mn mi
    split <;> split <;> omega
  have a84 : ∀ x : List UInt8, (⟨x.toArray⟩ : ByteArray) ++ ⟨#[84]⟩ = ⟨(x ++ [84]).toArray⟩ := fun x => ByteArray.mk_append_mk x [84]
  have a58 : ∀ x : List UInt8, (⟨x.toArray⟩ : ByteArray) ++ ⟨#[58]⟩ = ⟨(x ++ [58]).toArray⟩ := fun x => ByteArray.mk_append_mk x [58]
  have a90 : ∀ x : List UInt8, (⟨x.toArray⟩ : ByteArray) ++ ⟨#[90]⟩ = ⟨(x ++ [90]).toArray⟩ := fun x => ByteArray.mk_append_mk x [90]
  unfold leap_Table_Clock.f
  rw [utc_f k hk T, hu]
  simp only [Option.bind_some, if_true]
  rw [ho]
  simp only [Option.bind_some]
  rw [text_f k (by omega), if_pos g]
  simp only [Option.bind_some, hmn]
  rw [Int.tdiv_eq_ediv_of_nonneg a0, Int.tmod_eq_emod_of_nonneg a0, w64 (mi sec / 60) (by omega) (by omega), w64 (mi sec * 60) (by omega) (by omega), w64 (sec - mi sec * 60) (by omega) (by omega)]
  rw [leap_two_is _ (by omega) (by omega), leap_two_is (mi sec % 60) (by omega) (by omega), leap_two_is (sec - mi sec * 60) (by omega) (by omega)]
  simp only [Option.bind_some, a84, a58, a90, ByteArray.mk_append_mk, sz, List.length_append, List.length_cons, List.length_nil, l2, l3, l4]
  rw [if_pos (by omega), if_pos (by omega), if_pos (by omega), if_pos (by omega), if_pos (by omega), if_pos (by omega), if_pos (by omega)]
  rfl
theorem clock_no (k : Nat) (hk : 20300 ≤ k) {l : List S52} (T : Tab l) (s : ByteArray) (t : Int) (hu : utcv l t = (0, 0, 4)) : leap_Table_Clock.f k s l t = some (⟨#[]⟩, s) := by
  unfold leap_Table_Clock.f
  rw [utc_f k hk T, hu]
  rfl
/-! The order. -/
theorem less_app : ∀ (a b x y : List UInt8), a.length = b.length → Op.bytesLess a b = true → Op.bytesLess (a ++ x) (b ++ y) = true
  | [], [], _, _, _, h => by simp [Op.bytesLess] at h
  | [], _ :: _, _, _, hl, _ => by simp at hl
  | _ :: _, [], _, _, hl, _ => by simp at hl
  | a :: u, b :: v, x, y, hl, h => by
    rw [Op.bytesLess] at h
    rw [List.cons_append, List.cons_append, Op.bytesLess]
    rw [Bool.or_eq_true, Bool.and_eq_true] at h ⊢
    rcases h with h | ⟨h1, h2⟩
    · exact Or.inl h
    · exact Or.inr ⟨h1, less_app u v x y (by simpa using hl) h2⟩
theorem less_pre : ∀ (p x y : List UInt8), Op.bytesLess (p ++ x) (p ++ y) = Op.bytesLess x y
  | [], _, _ => rfl
  | c :: p, x, y => by
    rw [List.cons_append, List.cons_append, less_same]
    exact less_pre p x y
theorem clk_form (y m d s : Int) : clk y m d s = txl y m d ++ (84 :: (tw (mi s / 60) ++ (58 :: (tw (mi s % 60) ++ (58 :: (tw (s - mi s * 60) ++ [90])))))) := by
  unfold clk; simp
theorem less_sec (y m d s : Int) (h0 : 0 ≤ s) (h1 : s + 1 ≤ 86400) : Op.bytesLess (clk y m d s) (clk y m d (s + 1)) = true := by
  obtain ⟨a0, a1, a2, a3⟩ := mi_in h0 (show s ≤ 86400 by omega)
  obtain ⟨b0, b1, b2, b3⟩ := mi_in (show 0 ≤ s + 1 by omega) h1
  have hd : mi (s + 1) = mi s ∨ mi (s + 1) = mi s + 1 := by unfold mi; split <;> split <;> omega
  rw [clk_form, clk_form, less_pre, less_same, less_tw _ _ (by omega) (by omega) (by omega) (by omega), less_same, less_tw _ _ (by omega) (by omega) (by omega) (by omega), less_same, less_tw _ _ (by omega) (by omega) (by omega) (by omega)]
  simp only [Bool.or_eq_true, Bool.and_eq_true, decide_eq_true_iff]
  rcases hd with h | h
  · rw [h]
    exact Or.inr ⟨rfl, Or.inr ⟨rfl, Or.inl (by omega)⟩⟩
  · rw [h]
    by_cases h2 : mi s / 60 < (mi s + 1) / 60
    · exact Or.inl h2
    · exact Or.inr ⟨by omega, Or.inl (by omega)⟩
theorem less_day (y m d s y' m' d' s' : Int) (g : good y m d) (g' : good y' m' d') (h : 0 ≤ y) (h' : 0 ≤ y') (hd : days y m d < days y' m' d') : Op.bytesLess (clk y m d s) (clk y' m' d' s') = true := by
  rw [clk_form, clk_form]
  refine less_app _ _ _ _ ?_ (by rw [less_txl _ _ _ _ _ _ g g' h h']; exact decide_eq_true hd)
  rw [txl_len _ _ _ g, txl_len _ _ _ g', if_neg (by omega), if_neg (by omega)]
theorem clk_len (y m d s : Int) (g : good y m d) (h0 : 0 ≤ s) (h1 : s ≤ 86400) : (clk y m d s).length = (txl y m d).length + 10 := by
  obtain ⟨a0, a1, a2, a3⟩ := mi_in h0 h1
  unfold clk
  simp only [List.length_append, List.length_cons, List.length_nil, tw_len (mi s / 60) (by omega) (by omega), tw_len (mi s % 60) (by omega) (by omega), tw_len (s - mi s * 60) (by omega) (by omega)]
/-- The text of the next count: none, or a later text as long. -/
theorem year_mono {y m d y' m' d' : Int} (g : good y m d) (g' : good y' m' d') (h : days y m d ≤ days y' m' d') (hy : 0 ≤ y) : 0 ≤ y' := by
  have s1 := days_span g
  have s2 := days_span g'
  by_cases hn : 0 ≤ y'
  · exact hn
  · have := st_mono (y' + 1) y (by omega)
    omega
end Go.Proofs.YthelnkmjhchmnaaDoor.Tl
