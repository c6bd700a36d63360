/- A table in plain numbers; its functions, called. Conditions: each theorem's own. -/
import Derived.Test.YthelnkmjhchmnaaDoorCal
import Derived.Test.YthelnkmjhchmnaaDoorQLeapx13
import Derived.Test.YthelnkmjhchmnaaDoorQLeapx14
import Derived.Test.YthelnkmjhchmnaaDoorQLeapx15
import Derived.Test.YthelnkmjhchmnaaDoorPa
namespace Go.Proofs.YthelnkmjhchmnaaDoor.Tl
open Go.RowKit Go.Proofs.YthelnkmjhchmnaaDoor.QLeap Go.Proofs.YthelnkmjhchmnaaDoor.Cal
set_option linter.unusedVariables false
set_option linter.unusedSimpArgs false
def step (d : Int) (n : Int) (x : S52) : Int := if x.f0 ≤ d then x.f1 else n
def atv (l : List S52) (d : Int) : Int := l.foldl (step d) (rd_T52 l 0).f1
/-- A table: rising days, offsets that go by one. -/
def Ch (a b : S52) : Prop := a.f0 < b.f0 ∧ (b.f1 = a.f1 + 1 ∨ b.f1 = a.f1 - 1)
def Links : List S52 → Prop
  | [] => True
  | [_] => True
  | a :: b :: r => Ch a b ∧ Links (b :: r)
def Ok (x : S52) : Prop := (-4371587 ≤ x.f0 ∧ x.f0 < 2932897) ∧ (-9999 ≤ x.f1 ∧ x.f1 ≤ 9999)
structure Tab (l : List S52) : Prop where
  pos : 0 < l.length
  len : l.length ≤ 60
  ok : ∀ x ∈ l, Ok x
  links : Links l
theorem at_l (l : List S52) (s : ByteArray) (d : Int) (hl : l.length ≤ 60) : ∀ (j k : Nat) (i : Nat) (n : Int), j + 1 ≤ k → i ≤ l.length → l.length - i = j → leap_Table_at.l0 k d n l (l.length : Int) (i : Int) s l = some ((l.drop i).foldl (step d) n, s)
  | 0, k, i, n, hk, hi, hj => by
    obtain ⟨k, rfl⟩ : ∃ m, k = m + 1 := ⟨k - 1, by omega⟩
    simp only [leap_Table_at.l0]
    rw [if_neg (by omega), List.drop_of_length_le (by omega)]
    rfl
  | j + 1, k, i, n, hk, hi, hj => by
    obtain ⟨k, rfl⟩ : ∃ m, k = m + 1 := ⟨k - 1, by omega⟩
    simp only [leap_Table_at.l0]
    have hlt : i < l.length := by omega
    rw [if_pos (by omega), if_pos (by omega), if_pos (by omega), w64 ((i : Int) + 1) (by omega) (by omega), List.drop_eq_getElem_cons hlt, List.foldl_cons]
    have he : rd_T52 l (i : Int) = l[i] := by
      unfold rd_T52
      rw [Int.toNat_natCast, List.getD_eq_getElem?_getD, List.getElem?_eq_getElem hlt]
      rfl
    have ih := fun m => at_l l s d hl j k (i + 1) m (by omega) (by omega) (by omega)
    rw [he]
    unfold step
    by_cases h : l[i].f0 ≤ d
    · rw [if_pos h, if_pos h]; exact ih _
    · rw [if_neg h, if_neg h]; exact ih _
theorem at_f (k : Nat) (hk : 100 ≤ k) (l : List S52) (hl0 : 0 < l.length) (hl : l.length ≤ 60) (s : ByteArray) (d : Int) : leap_Table_at.f k s l d = some (atv l d, s) := by
  unfold leap_Table_at.f atv
  rw [if_pos (by omega)]
  have := at_l l s d hl (l.length - 0) k 0 (rd_T52 l 0).f1 (by omega) (by omega) rfl
  simpa using this
theorem fold_in (d : Int) : ∀ (l : List S52) (n : Int), (-9999 ≤ n ∧ n ≤ 9999) → (∀ x ∈ l, Ok x) → -9999 ≤ l.foldl (step d) n ∧ l.foldl (step d) n ≤ 9999
  | [], n, h, _ => h
  | x :: l, n, h, hx => by
    rw [List.foldl_cons]
    refine fold_in d l _ ?_ (fun y hy => hx y (List.mem_cons_of_mem _ hy))
    unfold step
    split
    · exact (hx x List.mem_cons_self).2
    · exact h
theorem fold_late (d : Int) : ∀ (l : List S52) (n : Int), (∀ x ∈ l, d < x.f0) → l.foldl (step d) n = n
  | [], n, _ => rfl
  | x :: l, n, h => by
    rw [List.foldl_cons]
    have : step d n x = n := by unfold step; rw [if_neg (by have := h x List.mem_cons_self; omega)]
    rw [this]
    exact fold_late d l n (fun y hy => h y (List.mem_cons_of_mem _ hy))
theorem links_late : ∀ (a : S52) (l : List S52), Links (a :: l) → ∀ x ∈ l, a.f0 < x.f0
  | a, [], _ => fun x hx => by simp at hx
  | a, b :: r, h => fun x hx => by
    rcases List.mem_cons.mp hx with rfl | hx
    · exact h.1.1
    · have := links_late b r h.2 x hx
      have := h.1.1
      omega
theorem fold_one (d : Int) : ∀ (l : List S52) (p : S52), Links (p :: l) → l.foldl (step (d + 1)) p.f1 - l.foldl (step d) p.f1 ≤ 1 ∧ -1 ≤ l.foldl (step (d + 1)) p.f1 - l.foldl (step d) p.f1
  | [], p, _ => by simp
  | x :: l, p, h => by
    have hx : p.f0 < x.f0 ∧ (x.f1 = p.f1 + 1 ∨ x.f1 = p.f1 - 1) := h.1
    have hlate := links_late x l h.2
    rw [List.foldl_cons, List.foldl_cons]
    by_cases h1 : x.f0 ≤ d
    · have e1 : step (d + 1) p.f1 x = x.f1 := by unfold step; rw [if_pos (by omega)]
      have e2 : step d p.f1 x = x.f1 := by unfold step; rw [if_pos h1]
      rw [e1, e2]
      exact fold_one d l x h.2
    · have e2 : step d p.f1 x = p.f1 := by unfold step; rw [if_neg h1]
      rw [e2, fold_late d l _ (fun y hy => by have := hlate y hy; omega)]
      by_cases h2 : x.f0 ≤ d + 1
      · have e1 : step (d + 1) p.f1 x = x.f1 := by unfold step; rw [if_pos h2]
        rw [e1, fold_late (d + 1) l _ (fun y hy => by have := hlate y hy; omega)]
        omega
      · have e1 : step (d + 1) p.f1 x = p.f1 := by unfold step; rw [if_neg h2]
        rw [e1, fold_late (d + 1) l _ (fun y hy => by have := hlate y hy; omega)]
        omega
theorem at_head (x : S52) (l : List S52) (d : Int) : atv (x :: l) d = l.foldl (step d) x.f1 := by
  unfold atv
  rw [List.foldl_cons]
  have : (rd_T52 (x :: l) 0).f1 = x.f1 := rfl
  rw [this]
  congr 1
  unfold step
  split <;> rfl
theorem at_in {l : List S52} (T : Tab l) (d : Int) : -9999 ≤ atv l d ∧ atv l d ≤ 9999 := by
  cases l with
  | nil => exact absurd T.pos (by simp)
  | cons x l =>
    rw [at_head]
    exact fold_in d l x.f1 (T.ok x List.mem_cons_self).2 (fun y hy => T.ok y (List.mem_cons_of_mem _ hy))
theorem at_one {l : List S52} (T : Tab l) (d : Int) : atv l (d + 1) - atv l d ≤ 1 ∧ -1 ≤ atv l (d + 1) - atv l d := by
  cases l with
  | nil => exact absurd T.pos (by simp)
  | cons x l =>
    rw [at_head, at_head]
    exact fold_one d l x T.links
/-! Which days a table knows, how long they are. -/
def kn (l : List S52) (d : Int) : Bool := decide ((-4371587 ≤ d ∧ d < 2932897) ∧ (rd_T52 l 0).f0 ≤ d)
theorem kn_iff {l : List S52} {d : Int} : kn l d = true ↔ (-4371587 ≤ d ∧ d < 2932897) ∧ (rd_T52 l 0).f0 ≤ d := by unfold kn; exact decide_eq_true_iff
theorem knows_f (k : Nat) (hk : 20100 ≤ k) {l : List S52} (T : Tab l) (s : ByteArray) (d : Int) : leap_Table_knows.f k s l d = some (kn l d, s) := by
  have hp := T.pos
  unfold leap_Table_knows.f kn
  by_cases h : -4371587 ≤ d ∧ d < 2932897
  · obtain ⟨y, m, dd, he, _⟩ := of_yes k hk d h.1 h.2
    rw [he]
    simp only [Option.bind_some, if_true]
    rw [if_pos (by omega)]
    simp [h]
  · rw [of_no k (by omega) d (by omega)]
    simp [h]
def lenv (l : List S52) (d : Int) : Int := if kn l (d + 1) = true then 86400 + atv l (d + 1) - atv l d else 86400
theorem len_in {l : List S52} (T : Tab l) (d : Int) : 86399 ≤ lenv l d ∧ lenv l d ≤ 86401 := by
  have := at_one T d
  unfold lenv
  split <;> omega
theorem len_f (k : Nat) (hk : 20100 ≤ k) {l : List S52} (T : Tab l) (s : ByteArray) (d : Int) : leap_Table_Length.f k s l d = some (if kn l d = true then (lenv l d, 0, s) else (0, 4, s)) := by
  unfold leap_Table_Length.f
  rw [knows_f k hk T]
  simp only [Option.bind_some]
  by_cases h : kn l d = true
  · have hb := (kn_iff.mp h).1
    rw [if_pos h, if_pos h, w64 (d + 1) (by omega) (by omega), knows_f k hk T]
    simp only [Option.bind_some]
    unfold lenv
    by_cases h2 : kn l (d + 1) = true
    · have a1 := at_in T (d + 1)
      have a2 := at_in T d
      rw [if_pos h2, if_pos h2, at_f k (by omega) l T.pos T.len]
      simp only [Option.bind_some]
      rw [at_f k (by omega) l T.pos T.len]
      simp only [Option.bind_some]
      rw [w64 (86400 + _) (by omega) (by omega), w64 _ (by omega) (by omega)]
    · rw [if_neg h2, if_neg h2]
  · rw [if_neg h, if_neg h]
def beg (l : List S52) (d : Int) : Int := d * 86400 + atv l d
def taiv (l : List S52) (d sec : Int) : Int × Int := if kn l d = true then (if sec < 0 ∨ lenv l d ≤ sec then (0, 1) else (beg l d + sec, 0)) else (0, 4)
theorem tai_f (k : Nat) (hk : 20200 ≤ k) {l : List S52} (T : Tab l) (s : ByteArray) (d sec : Int) : leap_Table_TAI.f k s l d sec = some ((taiv l d sec).1, (taiv l d sec).2, s) := by
  obtain ⟨k, rfl⟩ : ∃ m, k = m + 1 := ⟨k - 1, by omega⟩
  unfold leap_Table_TAI.f
  rw [len_f (k + 1) (by omega) T]
  simp only [Option.bind_some]
  unfold taiv
  by_cases h : kn l d = true
  · have hb := (kn_iff.mp h).1
    have a2 := at_in T d
    have hl := len_in T d
    rw [if_pos h, if_pos h, if_pos rfl]
    simp only [leap_Table_TAI.j0]
    by_cases h1 : sec < 0
    · rw [if_pos h1, if_pos trivial, if_pos (Or.inl h1)]
    · rw [if_neg h1]
      by_cases h2 : lenv l d ≤ sec
      · rw [decide_eq_true (show sec ≥ lenv l d from h2), if_pos rfl, if_pos (Or.inr h2)]
      · rw [decide_eq_false (show ¬ sec ≥ lenv l d from h2), if_neg (by decide), if_neg (by omega), at_f k (by omega) l T.pos T.len]
        simp only [Option.bind_some]
        rw [w64 (d * 86400) (by omega) (by omega), w64 (d * 86400 + sec) (by omega) (by omega), w64 _ (by omega) (by omega)]
        unfold beg
        congr 2
        omega
  · rw [if_neg h, if_neg h]
    rfl
theorem begin_f (k : Nat) (hk : 100 ≤ k) {l : List S52} (T : Tab l) (s : ByteArray) (d : Int) (h0 : -10000000000000 ≤ d) (h1 : d ≤ 10000000000000) : leap_Table_begin.f k s l d = some (beg l d, s) := by
  have a2 := at_in T d
  unfold leap_Table_begin.f
  rw [at_f k hk l T.pos T.len]
  simp only [Option.bind_some]
  rw [w64 (d * 86400) (by omega) (by omega), w64 _ (by omega) (by omega)]
  rfl
theorem beg_step {l : List S52} {d : Int} (h : kn l (d + 1) = true) : beg l d + lenv l d = beg l (d + 1) := by
  unfold beg lenv
  rw [if_pos h]
  omega
theorem kn_between {l : List S52} {a b d : Int} (ha : kn l a = true) (hb : kn l b = true) (h1 : a ≤ d) (h2 : d ≤ b) : kn l d = true := by
  rw [kn_iff] at *
  omega
theorem beg_mono {l : List S52} (T : Tab l) : ∀ (j : Nat) (a b : Int), b - a = j + 1 → kn l a = true → kn l b = true → beg l a + lenv l a ≤ beg l b
  | 0, a, b, h, ha, hb => by
    obtain rfl : b = a + 1 := by omega
    rw [beg_step hb]
    omega
  | j + 1, a, b, h, ha, hb => by
    have hm : kn l (b - 1) = true := kn_between ha hb (by omega) (by omega)
    have ih := beg_mono T j a (b - 1) (by omega) ha hm
    have hs := beg_step (l := l) (d := b - 1) (by rw [Int.sub_add_cancel]; exact hb)
    rw [Int.sub_add_cancel] at hs
    have := len_in T (b - 1)
    omega
theorem beg_lt {l : List S52} (T : Tab l) {a b : Int} (h : a < b) (ha : kn l a = true) (hb : kn l b = true) : beg l a + lenv l a ≤ beg l b := beg_mono T (b - a - 1).toNat a b (by omega) ha hb
/-! The day and the second of a number. -/
def hit (l : List S52) (t d : Int) : Bool := kn l d && decide (0 ≤ t - beg l d ∧ t - beg l d < lenv l d)
theorem hit_iff {l : List S52} {t d : Int} : hit l t d = true ↔ kn l d = true ∧ 0 ≤ t - beg l d ∧ t - beg l d < lenv l d := by unfold hit; rw [Bool.and_eq_true, decide_eq_true_iff]
theorem hit_one {l : List S52} (T : Tab l) {t a b : Int} (ha : hit l t a = true) (hb : hit l t b = true) : a = b := by
  rw [hit_iff] at ha hb
  rcases Int.lt_trichotomy a b with h | h | h
  · have := beg_lt T h ha.1 hb.1; omega
  · exact h
  · have := beg_lt T h hb.1 ha.1; omega
def win (l : List S52) (t : Int) : Nat → Int → Int × Int × Int
  | 0, _ => (0, 0, 4)
  | j + 1, d => if hit l t d = true then (d, t - beg l d, 0) else win l t j (d + 1)
theorem utc_l {l : List S52} (T : Tab l) (s : ByteArray) (t f : Int) (hf : -10000000000 ≤ f ∧ f ≤ 10000000000) (ht : -1000000000000000 ≤ t ∧ t ≤ 1000000000000000) : ∀ (j k : Nat) (d : Int), 20200 + 3 * j ≤ k → d = f + 3 - j → j ≤ 4 →
    leap_Table_UTC.l0 k t f d s l = some ((win l t j d).1, (win l t j d).2.1, (win l t j d).2.2, s)
  | 0, k, d, hk, hd, hj => by
    obtain ⟨k, rfl⟩ : ∃ m, k = m + 1 := ⟨k - 1, by omega⟩
    simp only [leap_Table_UTC.l0]
    rw [w64 (f + 2) (by omega) (by omega), if_neg (by omega)]
    rfl
  | j + 1, k, d, hk, hd, hj => by
    obtain ⟨k, rfl⟩ : ∃ m, k = m + 2 := ⟨k - 2, by omega⟩
    have hb := begin_f (k + 1) (by omega) T s d (by omega) (by omega)
    have ha := at_in T d
    have hw : wrap64 (t - beg l d) = t - beg l d := w64 _ (by unfold beg; omega) (by unfold beg; omega)
    have ih := utc_l T s t f hf ht j k (d + 1) (by omega) (by omega) (by omega)
    simp only [leap_Table_UTC.l0, leap_Table_UTC.j2]
    rw [w64 (f + 2) (by omega) (by omega), if_pos (by omega), len_f (k + 1) (by omega) T]
    simp only [Option.bind_some]
    unfold win
    by_cases h : kn l d = true
    · rw [if_pos h]
      simp only []
      rw [hb]
      simp only [Option.bind_some]
      rw [if_pos trivial, hw]
      by_cases h1 : t - beg l d ≥ 0
      · rw [if_pos h1]
        by_cases h2 : t - beg l d < lenv l d
        · rw [decide_eq_true h2, if_pos rfl, if_pos (hit_iff.mpr ⟨h, by omega, h2⟩)]
        · rw [decide_eq_false h2, if_neg (by decide), if_neg (fun hh => h2 (hit_iff.mp hh).2.2), w64 (d + 1) (by omega) (by omega)]
          exact ih
      · rw [if_neg h1, if_neg (by decide), if_neg (fun hh => h1 (hit_iff.mp hh).2.1), w64 (d + 1) (by omega) (by omega)]
        exact ih
    · rw [if_neg h]
      simp only []
      rw [hb]
      simp only [Option.bind_some]
      rw [if_neg (by decide), if_neg (by decide), if_neg (fun hh => h (hit_iff.mp hh).1), w64 (d + 1) (by omega) (by omega)]
      exact ih
def utcv (l : List S52) (t : Int) : Int × Int × Int := if t < -371085174374400 ∨ 371085174374400 < t then (0, 0, 4) else win l t 4 (Int.tdiv (t + 371085174374400 - 10000) 86400 - 4294967296 - 1)
theorem utc_f (k : Nat) (hk : 20300 ≤ k) {l : List S52} (T : Tab l) (s : ByteArray) (t : Int) : leap_Table_UTC.f k s l t = some ((utcv l t).1, (utcv l t).2.1, (utcv l t).2.2, s) := by
  obtain ⟨k, rfl⟩ : ∃ m, k = m + 1 := ⟨k - 1, by omega⟩
  unfold leap_Table_UTC.f utcv
  simp only [leap_Table_UTC.j0]
  by_cases h1 : t < -371085174374400
  · rw [if_pos h1, if_pos trivial, if_pos (Or.inl h1)]
  · rw [if_neg h1]
    by_cases h2 : t > 371085174374400
    · rw [decide_eq_true h2, if_pos rfl, if_pos (Or.inr h2)]
    · rw [decide_eq_false h2, if_neg (by decide), if_neg (by omega)]
      have hd := td (t + 371085174374400 - 10000) 86400
      have hq : -1 ≤ Int.tdiv (t + 371085174374400 - 10000) 86400 ∧ Int.tdiv (t + 371085174374400 - 10000) 86400 ≤ 8589934592 := by
        by_cases h : 0 ≤ t + 371085174374400 - 10000
        · rw [hd.1 h]; omega
        · rw [hd.2 (by omega)]; omega
      rw [w64 (t + 371085174374400) (by omega) (by omega), w64 (t + 371085174374400 - 10000) (by omega) (by omega), w64 (Int.tdiv _ _) (by omega) (by omega), w64 (Int.tdiv _ _ - _) (by omega) (by omega), w64 (Int.tdiv _ _ - _ - _) (by omega) (by omega)]
      exact utc_l T s t _ (by omega) (by omega) 4 k _ (by omega) (by omega) (by omega)
theorem win_yes {l : List S52} (T : Tab l) {t d : Int} (h : hit l t d = true) : ∀ (j : Nat) (e : Int), e ≤ d → d < e + j → win l t j e = (d, t - beg l d, 0)
  | 0, e, h1, h2 => by omega
  | j + 1, e, h1, h2 => by
    unfold win
    by_cases hh : hit l t e = true
    · rw [if_pos hh, hit_one T hh h]
    · rw [if_neg hh]
      exact win_yes T h j (e + 1) (by
        rcases Int.lt_or_eq_of_le h1 with h3 | h3
        · omega
        · subst h3; exact absurd h hh) (by omega)
theorem win_some {l : List S52} {t : Int} : ∀ (j : Nat) (e : Int), (win l t j e).2.2 = 0 → hit l t (win l t j e).1 = true ∧ (win l t j e).2.1 = t - beg l (win l t j e).1
  | 0, e, h => by simp [win] at h
  | j + 1, e, h => by
    unfold win at h ⊢
    by_cases hh : hit l t e = true
    · rw [if_pos hh]; exact ⟨hh, rfl⟩
    · rw [if_neg hh] at h ⊢
      exact win_some j (e + 1) h
theorem utc_yes {l : List S52} (T : Tab l) {t d : Int} (h : hit l t d = true) : utcv l t = (d, t - beg l d, 0) := by
  obtain ⟨hk, h0, h1⟩ := hit_iff.mp h
  have hb := (kn_iff.mp hk).1
  have ha := at_in T d
  have hl := len_in T d
  unfold utcv
  unfold beg at h0 h1
  rw [if_neg (by omega)]
  have hd := (td (t + 371085174374400 - 10000) 86400).1 (by omega)
  rw [hd]
  exact win_yes T h 4 _ (by omega) (by omega)
theorem utc_some {l : List S52} {t : Int} (h : (utcv l t).2.2 = 0) : hit l t (utcv l t).1 = true ∧ (utcv l t).2.1 = t - beg l (utcv l t).1 := by
  unfold utcv at h ⊢
  split at h
  · simp at h
  · rename_i hn
    rw [if_neg hn]
    exact win_some _ _ h
theorem win_err {l : List S52} {t : Int} : ∀ (j : Nat) (e : Int), (win l t j e).2.2 = 0 ∨ win l t j e = (0, 0, 4)
  | 0, e => Or.inr rfl
  | j + 1, e => by
    unfold win
    split
    · exact Or.inl rfl
    · exact win_err j (e + 1)
theorem utc_err (l : List S52) (t : Int) : (utcv l t).2.2 = 0 ∨ utcv l t = (0, 0, 4) := by
  unfold utcv
  split
  · exact Or.inr rfl
  · exact win_err _ _
theorem hit_tai {l : List S52} {d sec : Int} (h : (taiv l d sec).2 = 0) : hit l (taiv l d sec).1 d = true ∧ (taiv l d sec).1 = beg l d + sec ∧ kn l d = true ∧ 0 ≤ sec ∧ sec < lenv l d := by
  unfold taiv at h ⊢
  by_cases hk : kn l d = true
  · rw [if_pos hk] at h ⊢
    by_cases h2 : sec < 0 ∨ lenv l d ≤ sec
    · rw [if_pos h2] at h; simp at h
    · rw [if_neg h2]
      refine ⟨hit_iff.mpr ⟨hk, ?_, ?_⟩, rfl, hk, by omega, by omega⟩ <;> simp only [] <;> omega
  · rw [if_neg hk] at h; simp at h
theorem tai_hit {l : List S52} {t d : Int} (h : hit l t d = true) : taiv l d (t - beg l d) = (t, 0) := by
  obtain ⟨hk, h0, h1⟩ := hit_iff.mp h
  unfold taiv
  rw [if_pos hk, if_neg (by omega)]
  congr 1
  omega
/-- Between two days that are known each count is a day's. -/
theorem cover {l : List S52} (T : Tab l) : ∀ (j : Nat) (a b t : Int), b - a = j → kn l a = true → kn l b = true → beg l a ≤ t → t < beg l b + lenv l b → ∃ d, hit l t d = true
  | 0, a, b, t, h, ha, hb, h1, h2 => by
    obtain rfl : b = a := by omega
    exact ⟨b, hit_iff.mpr ⟨hb, by omega, by omega⟩⟩
  | j + 1, a, b, t, h, ha, hb, h1, h2 => by
    by_cases h3 : beg l b ≤ t
    · exact ⟨b, hit_iff.mpr ⟨hb, by omega, by omega⟩⟩
    · have hm : kn l (b - 1) = true := kn_between ha hb (by omega) (by omega)
      have hs := beg_step (l := l) (d := b - 1) (by rw [Int.sub_add_cancel]; exact hb)
      rw [Int.sub_add_cancel] at hs
      exact cover T j a (b - 1) t (by omega) ha hm h1 (by omega)
end Go.Proofs.YthelnkmjhchmnaaDoor.Tl
namespace Go.Proofs.YthelnkmjhchmnaaDoor.Tl
open Go.RowKit Go.Proofs.YthelnkmjhchmnaaDoor.QLeap Go.Proofs.YthelnkmjhchmnaaDoor.Cal Go.Proofs.YthelnkmjhchmnaaDoor.Pa Go.Proofs.YthelnkmjhchmnaaDoor.Nm
set_option linter.unusedVariables false
set_option linter.unusedSimpArgs false
theorem days_in {y m d : Int} (g : good y m d) : -4371587 ≤ days y m d ∧ days y m d < 2932897 := by
  have h := days_span g
  have h1 := st_mono (-9999) y g.1
  have h2 := st_mono (y + 1) 10000 (by have := g.2.1; omega)
  rw [st_lo] at h1
  rw [st_hi] at h2
  have := g.1
  have := g.2.1
  omega
theorem read_ok (s : ByteArray) (hs : s.size ≤ 1000000) : leap_read.f 300 s = some (rdv s) ∧ ((rdv s).2.2 = true → Ok ⟨(rdv s).1, (rdv s).2.1⟩) := by
  have hc : strings_Cut.f s ⟨#[32]⟩ = some ((cut32 s).1, (cut32 s).2.1, (cut32 s).2.2) := by
    unfold strings_Cut.f
    rw [if_pos rfl, if_pos hs]
  have h1 : (cut32 s).1.size ≤ 1000000 ∧ (cut32 s).2.1.size ≤ 1000000 := by
    unfold cut32
    rcases Lib.indexB_cases s ⟨#[32]⟩ with hix | ⟨i, hix, hroom⟩
    · obtain ⟨e1, e2, e3⟩ := Lib.cutB_miss s ⟨#[32]⟩ hix
      rw [show ([32] : List UInt8) = (⟨#[32]⟩ : ByteArray).data.toList from rfl, e1, e2]
      exact ⟨hs, by show ByteArray.empty.size ≤ 1000000; decide⟩
    · obtain ⟨e1, e2, e3⟩ := Lib.cutB_hit s ⟨#[32]⟩ i hix
      rw [show ([32] : List UInt8) = (⟨#[32]⟩ : ByteArray).data.toList from rfl, e1, e2]
      simp only [ByteArray.size_extract]
      omega
  have key : ∃ r, leap_read.f 300 s = some r ∧ (r.2.2 = true → Ok ⟨r.1, r.2.1⟩) := by
    unfold leap_read.f
    rw [hc]
    simp only [Option.bind_some]
    rcases parse_any 300 (by omega) (cut32 s).1 h1.1 with ⟨y, m, d, hp, g, _⟩ | hp
    · rw [hp]
      simp only [Option.bind_some]
      by_cases h3 : (cut32 s).2.2 = true
      · rw [if_pos h3]
        simp only [leap_read.j0]
        rw [if_neg (by decide), days_f 299 (by omega), if_pos g]
        simp only [Option.bind_some]
        unfold leap_number.f
        rw [if_pos h1.2]
        simp only [Option.bind_some]
        refine ⟨_, rfl, fun h => ⟨days_in g, ?_⟩⟩
        simp only [] at h ⊢
        unfold num at h ⊢
        by_cases hb1 : bad1 (cut32 s).2.1 = true
        · rw [if_pos hb1] at h; cases h
        · rw [if_neg hb1] at h ⊢
          by_cases hb2 : bad2 (cut32 s).2.1 = true
          · rw [if_pos hb2] at h; cases h
          · rw [if_neg hb2]
            obtain ⟨n, hn, h4, h5⟩ := atoi_of _ (by simpa using hb1)
            rw [hn]
            exact ⟨h4, h5⟩
      · rw [if_neg h3]
        exact ⟨_, rfl, fun h => by cases h⟩
    · rw [hp]
      simp only [Option.bind_some]
      have hn : leap_read.j0 300 (cut32 s).2.1 true 0 0 0 = some (0, 0, false) := rfl
      by_cases h3 : (cut32 s).2.2 = true
      · rw [if_pos h3]
        exact ⟨_, hn, fun h => by cases h⟩
      · rw [if_neg h3]
        exact ⟨_, hn, fun h => by cases h⟩
  obtain ⟨r, hr, ho⟩ := key
  have e : rdv s = r := by unfold rdv; rw [hr]; rfl
  rw [e]
  exact ⟨hr, ho⟩
theorem flw_ch {a b : S52} (ha : Ok a) (h : flw a b = true) : Ch a b := by
  unfold flw leap_follows.f at h
  obtain ⟨_, h1, h2⟩ := ha
  rw [w64 (a.f1 + 1) (by omega) (by omega), w64 (a.f1 - 1) (by omega) (by omega)] at h
  unfold Ch
  split at h
  · rename_i hd
    split at h
    · rename_i h3; exact ⟨hd, Or.inl h3⟩
    · have : b.f1 = a.f1 - 1 := by simpa using h
      exact ⟨hd, Or.inr this⟩
  · cases h
theorem links_add : ∀ (l : List S52) (x : S52), Links l → (∀ z, l[l.length - 1]? = some z → Ch z x) → Links (l ++ [x])
  | [], x, _, _ => trivial
  | [a], x, _, h => ⟨h a rfl, trivial⟩
  | a :: b :: r, x, hl, h => ⟨hl.1, links_add (b :: r) x hl.2 (fun z hz => h z (by simpa using hz))⟩
theorem pl_tab : ∀ (ls : List ByteArray) (acc l : List S52), (∀ s ∈ ls, s.size ≤ 1000000) → (∀ x ∈ acc, Ok x) → Links acc → pl acc ls = some l → (∀ x ∈ l, Ok x) ∧ Links l ∧ l.length = acc.length + ls.length
  | [], acc, l, _, h1, h2, h => by
    obtain rfl := Option.some.inj h
    exact ⟨h1, h2, rfl⟩
  | s :: ls, acc, l, hs, h1, h2, h => by
    have hr := (read_ok s (hs s List.mem_cons_self)).2
    have ih := pl_tab ls (acc ++ [⟨(rdv s).1, (rdv s).2.1⟩]) l (fun x hx => hs x (List.mem_cons_of_mem _ hx))
    have fin : (∀ z, acc[acc.length - 1]? = some z → Ch z ⟨(rdv s).1, (rdv s).2.1⟩) → (rdv s).2.2 = true → pl (acc ++ [⟨(rdv s).1, (rdv s).2.1⟩]) ls = some l → (∀ x ∈ l, Ok x) ∧ Links l ∧ l.length = acc.length + (s :: ls).length := by
      intro hc hok hp
      obtain ⟨a, b, c⟩ := ih (fun x hx => by
        rcases List.mem_append.mp hx with h | h
        · exact h1 x h
        · obtain rfl := List.mem_singleton.mp h; exact hr hok) (links_add acc _ h2 hc) hp
      refine ⟨a, b, ?_⟩
      rw [c, List.length_append, List.length_cons, List.length_cons, List.length_nil]
      omega
    unfold pl at h
    by_cases hok : (rdv s).2.2 = true
    · rw [if_pos hok] at h
      cases hz : acc[acc.length - 1]? with
      | none => rw [hz] at h; exact fin (fun z hz2 => by rw [hz] at hz2; cases hz2) hok h
      | some z =>
        rw [hz] at h
        simp only [] at h
        by_cases hf : flw z ⟨(rdv s).1, (rdv s).2.1⟩ = true
        · rw [if_pos hf] at h
          refine fin (fun z2 hz2 => ?_) hok h
          rw [hz] at hz2
          obtain rfl := Option.some.inj hz2
          exact flw_ch (h1 z (List.mem_of_getElem? hz)) hf
        · rw [if_neg hf] at h; cases h
    · rw [if_neg hok] at h; cases h
theorem piece_le (sep : ByteArray) : ∀ (n : Nat) (s : ByteArray), ∀ x ∈ Lib.splitB sep 0 n s, x.size ≤ s.size
  | 0, s, x, hx => by
    rw [Lib.splitB_zero] at hx
    rw [List.mem_singleton.mp hx]
    exact Nat.le_refl _
  | n + 1, s, x, hx => by
    unfold Lib.splitB at hx
    split at hx
    · rw [List.mem_singleton.mp hx]
      exact Nat.le_refl _
    · rcases List.mem_cons.mp hx with rfl | hx
      · rw [ByteArray.size_extract]; omega
      · have := piece_le sep n _ x hx
        rw [ByteArray.size_extract] at this
        omega
theorem lines_le (s : ByteArray) : ∀ x ∈ lines s, x.size ≤ s.size := piece_le _ _ s
theorem parse_tab (s : ByteArray) (hs : s.size ≤ 1000000) (l : List S52) (h : parse s = (0, l)) : Tab l := by
  unfold parse at h
  have hl := lines_len s
  by_cases h60 : 60 < (lines s).length - 1 + (if ((lines s).getD ((lines s).length - 1) ⟨#[]⟩).toList.isEmpty = true then 0 else 1)
  · rw [if_pos h60] at h; simp at h
  rw [if_neg h60] at h
  by_cases h0 : (lines s).length - 1 = 0 ∨ ((lines s).getD ((lines s).length - 1) ⟨#[]⟩).toList.isEmpty = false
  · rw [if_pos h0] at h; simp at h
  rw [if_neg h0] at h
  cases hp : pl [] ((lines s).take ((lines s).length - 1)) with
  | none => rw [hp] at h; simp at h
  | some l' =>
    rw [hp] at h
    obtain rfl : l' = l := by simpa using h
    obtain ⟨a, b, c⟩ := pl_tab _ [] _ (fun x hx => Nat.le_trans (lines_le s x (List.mem_of_mem_take hx)) hs) (fun x hx => by simp at hx) (show Links [] from trivial) hp
    rw [List.length_take, List.length_nil] at c
    exact ⟨by omega, by split at h60 <;> omega, a, b⟩
/-- Parse, for texts that are not too long. -/
theorem parse_calls (s : ByteArray) (w : World) (hs : s.size ≤ 1000000) : Calls Tryd.prog 10 #[.string s] w (Out s w) :=
  loop_calls s w hs (fun x hx => (read_ok x (Nat.le_trans (lines_le s x hx) hs)).1)
/-- A table that was read: its block, its lines. -/
theorem out_cases {s : ByteArray} {w : World} {e : Ending} {w' : World} (hs : s.size ≤ 1000000) (h : Out s w e w') :
    (∃ n l, parse s = (n, l) ∧ n ≠ 0 ∧ e = .returned (.tuple #[.pointer none, .int .i64 n]) ∧ Below w.heap.size w w') ∨
    ∃ l g, parse s = (0, l) ∧ e = .returned (.tuple #[.pointer (some ⟨g, 0, none⟩), .int .i64 0]) ∧ IsS50 w' w' g s l ∧ Tab l ∧ Below w.heap.size w w' := by
  rcases h with h | ⟨l, g, hh, hp, he, hI, hH⟩
  · exact Or.inl h
  · exact Or.inr ⟨l, g, hp, he, hI.isS (F := []) (by simpa using hH), parse_tab s hs l hp, hH.below⟩
section
variable {W1 : World} {g : Nat} {s : ByteArray} {l : List S52}
theorem tai_calls (hI : IsS50 W1 W1 g s l) (T : Tab l) (d sec : Int) (w : World) (hb : Below W1.heap.size W1 w) : Calls Tryd.prog 11 #[.pointer (some ⟨g, 0, none⟩), .int .i64 d, .int .i64 sec] w fun e w' => e = .returned (.tuple #[.int .i64 (taiv l d sec).1, .int .i64 (taiv l d sec).2]) ∧ Below W1.heap.size W1 w' :=
  (leap_Table_TAI.calls 20300 g s l d sec _ _ _ W1 w (hI.below hb) hb (tai_f 20300 (by omega) T s d sec)).mono fun e w' h => ⟨h.1, h.2.2.1⟩
theorem len_calls (hI : IsS50 W1 W1 g s l) (T : Tab l) (d : Int) (w : World) (hb : Below W1.heap.size W1 w) : Calls Tryd.prog 13 #[.pointer (some ⟨g, 0, none⟩), .int .i64 d] w fun e w' => e = .returned (.tuple #[.int .i64 (if kn l d = true then lenv l d else 0), .int .i64 (if kn l d = true then 0 else 4)]) ∧ Below W1.heap.size W1 w' :=
  (leap_Table_Length.calls 20300 g s l d _ _ s W1 w (hI.below hb) hb ((len_f 20300 (by omega) T s d).trans (by split <;> rfl))).mono fun e w' h => ⟨h.1, h.2.2.1⟩
theorem utc_calls (hI : IsS50 W1 W1 g s l) (T : Tab l) (t : Int) (w : World) (hb : Below W1.heap.size W1 w) : Calls Tryd.prog 12 #[.pointer (some ⟨g, 0, none⟩), .int .i64 t] w fun e w' => e = .returned (.tuple #[.int .i64 (utcv l t).1, .int .i64 (utcv l t).2.1, .int .i64 (utcv l t).2.2]) ∧ Below W1.heap.size W1 w' :=
  (leap_Table_UTC.calls 20300 g s l t _ _ _ _ W1 w (hI.below hb) hb (utc_f 20300 (by omega) T s t)).mono fun e w' h => ⟨h.1, h.2.2.1⟩
end
end Go.Proofs.YthelnkmjhchmnaaDoor.Tl
