/- What is found behind a crash; Open behind it. Conditions: each theorem's own. -/
import Derived.Test.YthgebchidkadhaaAw
import Derived.Test.YthgebchidkadhaaFp
namespace Go.Proofs.Ythgebchidkadhaa
open Go.RowKit Go.Proofs.Ythgebchidkadhaa.Sp Go.Proofs.Ythgebchidkadhaa.QWal
set_option linter.unusedVariables false
set_option linter.unusedSimpArgs false
theorem frsB_cons (r : List UInt8) (l : List (List UInt8)) : frsB (r :: l) = frB r ++ frsB l := rfl
theorem frsB_app (a b : List (List UInt8)) : frsB (a ++ b) = frsB a ++ frsB b := by simp [frsB]
theorem frsB_mono (l : List (List UInt8)) {i j : Nat} (h : i ≤ j) : (frsB (l.take i)).length ≤ (frsB (l.take j)).length := by
  have e : l.take j = l.take i ++ (l.drop i).take (j - i) := by
    rw [← List.take_add, Nat.add_sub_cancel' h]
  rw [e, frsB_app, List.length_append]
  omega
theorem cut_at : ∀ (rs : List (List UInt8)) (n : Nat), ∃ j, j ≤ rs.length ∧ (frsB (rs.take j)).length ≤ n ∧ (j = rs.length ∨ ∃ r, rs[j]? = some r ∧ n < (frsB (rs.take j)).length + (frB r).length)
  | [], n => ⟨0, Nat.le_refl _, by simp [frsB], Or.inl rfl⟩
  | r :: rs, n => by
    by_cases h : (frB r).length ≤ n
    · obtain ⟨j, h1, h2, h3⟩ := cut_at rs (n - (frB r).length)
      refine ⟨j + 1, by simpa using h1, by rw [List.take_succ_cons, frsB_cons, List.length_append]; omega, ?_⟩
      rcases h3 with h3 | ⟨x, hx, h3⟩
      · exact Or.inl (by simpa using h3)
      · exact Or.inr ⟨x, by simpa using hx, by rw [List.take_succ_cons, frsB_cons, List.length_append]; omega⟩
    · exact ⟨0, Nat.zero_le _, by simp [frsB], Or.inr ⟨r, rfl, by simp [frsB]; omega⟩⟩
theorem cut_max {rs : List (List UInt8)} {n j : Nat} (h : j = rs.length ∨ ∃ r, rs[j]? = some r ∧ n < (frsB (rs.take j)).length + (frB r).length) {i : Nat} (hi : i ≤ rs.length) (hn : (frsB (rs.take i)).length ≤ n) : i ≤ j := by
  rcases h with h | ⟨r, hr, h⟩
  · omega
  · by_cases hij : i ≤ j
    · exact hij
    · have h1 := frsB_mono rs (i := j + 1) (j := i) (by omega)
      rw [take_snoc rs j r hr, frsB_snoc, List.length_append] at h1
      omega
theorem frsB_split (rs : List (List UInt8)) (j : Nat) (r : List UInt8) (hr : rs[j]? = some r) : frsB rs = frsB (rs.take j) ++ (frB r ++ frsB (rs.drop (j + 1))) := by
  have e : rs = (rs.take j ++ [r]) ++ rs.drop (j + 1) := by rw [← take_snoc rs j r hr, List.take_append_drop]
  conv => lhs; rw [e]
  rw [frsB_app, frsB_snoc, List.append_assoc]
/-- What a crash leaves of a file's bytes: a beginning, or one with a torn byte behind it. -/
def Left (b : List UInt8) (n : Nat) (c : List UInt8) : Prop := c = b.take n ∨ (n < b.length ∧ ∃ torn : UInt8, torn ≠ 0 ∧ c = b.take n ++ [b.getD n 0 ^^^ torn])
theorem bi_take (n : Nat) (b : List UInt8) : bi (b.take n) = (bi b).take n := by simp [bi, List.map_take]
theorem bi_getD (n : Nat) (b : List UInt8) (h : n < b.length) : ((b.getD n 0).toNat : Int) = (bi b).getD n 0 := by
  simp [bi, List.getD_eq_getElem?_getD, List.getElem?_eq_getElem h]
theorem bi_range (r : List UInt8) : ∀ x ∈ bi r, 0 ≤ x ∧ x < 256 := by
  intro x hx
  obtain ⟨y, _, rfl⟩ := List.mem_map.mp hx
  have := y.toNat_lt
  omega
theorem scan_crash (rs : List (List UInt8)) (h : ∀ r ∈ rs, r.length ≤ 8000) (hn : rs.length ≤ 1000) (n : Nat) (c : List UInt8) (hc : Left (frsB rs) n c) :
    ∃ (j : Nat) (whole : Bool), j ≤ rs.length ∧ (∀ i, i ≤ rs.length → (frsB (rs.take i)).length ≤ n → i ≤ j) ∧ frame_Scan.f 100000 (bi c) = some ((rs.take j).map bi, ((frsB (rs.take j)).length : Int), whole) ∧
      c.take (frsB (rs.take j)).length = frsB (rs.take j) ∧ (whole = true → c = frsB (rs.take j)) := by
  obtain ⟨j, h1, h2, h3⟩ := cut_at rs n
  have hmax : ∀ i, i ≤ rs.length → (frsB (rs.take i)).length ≤ n → i ≤ j := fun i a b => cut_max h3 a b
  have hj8 : ∀ r ∈ rs.take j, r.length ≤ 8000 := fun r hr => h r (List.mem_of_mem_take hr)
  have hjl : (rs.take j).length ≤ 1000 := by rw [List.length_take]; omega
  have whole : c = frsB (rs.take j) → ∃ (j : Nat) (whole : Bool), j ≤ rs.length ∧ (∀ i, i ≤ rs.length → (frsB (rs.take i)).length ≤ n → i ≤ j) ∧ frame_Scan.f 100000 (bi c) = some ((rs.take j).map bi, ((frsB (rs.take j)).length : Int), whole) ∧
      c.take (frsB (rs.take j)).length = frsB (rs.take j) ∧ (whole = true → c = frsB (rs.take j)) := fun e =>
    ⟨j, true, h1, hmax, by rw [e]; exact scan_all _ hj8 hjl, by rw [e, List.take_length], fun _ => e⟩
  have full : j = rs.length → c = frsB (rs.take j) := by
    intro e
    subst e
    rw [List.take_length] at h2 ⊢
    rcases hc with hc | ⟨hc, _⟩
    · rw [hc, List.take_of_length_le h2]
    · omega
  rcases h3 with h3 | ⟨r, hr, h3⟩
  · exact whole (full h3)
  · obtain ⟨L, hL⟩ : ∃ L, L = frsB (rs.take j) := ⟨_, rfl⟩
    obtain ⟨m, hm⟩ : ∃ m, n = L.length + m := ⟨n - L.length, by rw [hL]; omega⟩
    have hm2 : m < (frB r).length := by rw [hL] at hm; omega
    have hsp := frsB_split rs j r hr
    rw [← hL] at hsp
    have ht : (frsB rs).take n = L ++ (frB r).take m := by
      rw [hsp, hm, List.take_length_add_append, List.take_append_of_le_length (by omega)]
    have hg : (frsB rs).getD n 0 = (frB r).getD m 0 := by
      rw [hsp, hm, List.getD_eq_getElem?_getD, List.getD_eq_getElem?_getD, List.getElem?_append_right (by omega), Nat.add_sub_cancel_left, List.getElem?_append_left (by omega)]
    have hr8 := h r (List.mem_of_getElem? hr)
    have hfl := frB_len r
    have torn : ∀ t : List UInt8, c = L ++ t → t ≠ [] → t.length ≤ 9000 → (∀ k, 90000 ≤ k → frame_first.f k (bi t) = some ([], false)) → ∃ (j : Nat) (whole : Bool), j ≤ rs.length ∧ (∀ i, i ≤ rs.length → (frsB (rs.take i)).length ≤ n → i ≤ j) ∧ frame_Scan.f 100000 (bi c) = some ((rs.take j).map bi, ((frsB (rs.take j)).length : Int), whole) ∧
      c.take (frsB (rs.take j)).length = frsB (rs.take j) ∧ (whole = true → c = frsB (rs.take j)) := by
      intro t e t0 tl tf
      have tl0 : 0 < t.length := List.length_pos_iff.mpr t0
      refine ⟨j, false, h1, hmax, ?_, by rw [e, ← hL, List.take_left], fun h => by cases h⟩
      have hll := frsB_len (rs.take j) 8000 hj8
      have hll2 : (frsB (rs.take j)).length ≤ 9000000 := by
        have : (rs.take j).length * (12 + 8000) ≤ 1000 * (12 + 8000) := Nat.mul_le_mul_right _ hjl
        omega
      have el : (Pl.frs ((rs.take j).map bi)).length = (frsB (rs.take j)).length := by rw [← bi_frs, bi_len]
      have Z := Pl.scan_t ((rs.take j).map bi) 100000 [] (bi t) [] (by rw [List.length_map]; omega) (by intro x hx; obtain ⟨y, hy, rfl⟩ := List.mem_map.mp hx; rw [bi_len]; exact hj8 y hy) (by rw [bi_len, el, List.length_nil]; omega) (by rw [List.length_map, List.length_nil]; omega) (by rw [bi_len]; exact tl0) tf
      rw [List.nil_append, List.nil_append, el] at Z
      rw [e, bi_app, hL, bi_frs]
      exact Z
    have hvr := bi_range r
    rcases hc with hc | ⟨hc, y, hy, hc2⟩
    · by_cases hm0 : m = 0
      · refine whole ?_
        rw [hc, ht, hm0, List.take_zero, List.append_nil, hL]
      · refine torn ((frB r).take m) (by rw [hc, ht]) (fun e => ?_) (by rw [List.length_take]; omega) (fun k hk => ?_)
        · have := congrArg List.length e
          rw [List.length_take, List.length_nil] at this
          omega
        · rw [bi_take, bi_frB]
          by_cases h12 : m < 12
          · exact Pl.first_short k _ (by rw [List.length_take]; omega)
          · exact Pl.first_cut k hk (bi r) (by rw [bi_len]; exact hr8) m (by omega) (by rw [bi_len]; omega)
    · refine torn ((frB r).take m ++ [(frB r).getD m 0 ^^^ y]) (by rw [hc2, ht, hg, List.append_assoc]) (by simp) (by rw [List.length_append, List.length_take, List.length_cons, List.length_nil]; omega) (fun k hk => ?_)
      have e1 : bi [(frB r).getD m 0 ^^^ y] = [Go.bits .xor .u8 ((Pl.fr (bi r)).getD m 0) (y.toNat : Int)] := by
        rw [← bi_frB, ← bi_getD m (frB r) hm2, xorB]
        rfl
      rw [bi_app, bi_take, bi_frB, e1]
      have hy2 : 0 < (y.toNat : Int) ∧ (y.toNat : Int) < 256 := by
        have := y.toNat_lt
        have h0 : y.toNat ≠ 0 := fun e => hy (by rw [← UInt8.toNat_inj]; simpa using e)
        omega
      exact Pl.first_torn k hk (bi r) (by rw [bi_len]; exact hr8) hvr m (by rw [bi_len]; omega) _ hy2
theorem crash_left (keep : Int) (torn : UInt8) (b : List UInt8) (s : Nat) (hs : s ≤ b.length) : ∃ n, s ≤ n ∧ n ≤ b.length ∧ crF keep torn ⟨b, s⟩ = ⟨crB keep torn ⟨b, s⟩, (crB keep torn ⟨b, s⟩).length⟩ ∧ Left b n (crB keep torn ⟨b, s⟩) := by
  obtain ⟨_, h1, h2, _⟩ := crN_eq (keep := keep) (f := ⟨b, s⟩) hs
  refine ⟨crN keep ⟨b, s⟩, h1, h2, rfl, ?_⟩
  unfold Left crB
  split
  · rename_i h
    exact Or.inr ⟨h.1, torn, h.2, rfl⟩
  · exact Or.inl rfl
/-- What Open makes of a file that a crash left: the log and the disk. -/
def OpA (gd : Nat) (room lives : Int) (rs : List (List UInt8)) (syn : Nat) (F : Hp) (w0 : World) (e : Ending) (w' : World) : Prop :=
  ∃ gl j h' hd', e = .returned (.tuple #[.pointer (some ⟨gl, 0, none⟩), .int .i64 0]) ∧ syn ≤ j ∧ j ≤ rs.length ∧ IsL gl gd (lW (rs.take j) j lives) h' ∧ IsD gd (dW room lives true ⟨frsB (rs.take j), (frsB (rs.take j)).length⟩) hd' ∧ Holds w0 (h' ++ (hd' ++ F)) w'
theorem open_crash (gd : Nat) (room lives : Int) (rs : List (List UInt8)) (syn n : Nat) (c : List UInt8) (hd F : Hp) (w0 w : World) (h8 : ∀ r ∈ rs, r.length ≤ 8000) (hn : rs.length ≤ 1000) (hc : Left (frsB rs) n c) (hs : syn ≤ rs.length) (hsn : (frsB (rs.take syn)).length ≤ n)
    (hD : IsD gd (dW room lives true ⟨c, c.length⟩) hd) (H : Holds w0 (hd ++ F) w) : Calls Try.prog 11 #[.pointer (some ⟨gd, 0, none⟩), .string nW] w fun e w' => OpA gd room lives rs syn F w0 e w' := by
  obtain ⟨j, whole, h1, h2, h3, h4, h5⟩ := scan_crash rs h8 hn n c hc
  have hl : (frsB rs).length ≤ 9000000 := by
    have h := frsB_len rs 8000 h8
    have : rs.length * (12 + 8000) ≤ 1000 * (12 + 8000) := Nat.mul_le_mul_right _ hn
    omega
  have hcl : c.length ≤ 9223372036854775807 := by
    rcases hc with hc | ⟨_, _, _, hc⟩
    · rw [hc, List.length_take]; omega
    · rw [hc, List.length_append, List.length_take, List.length_cons, List.length_nil]; omega
  have hjl : (rs.take j).length = j := by rw [List.length_take]; omega
  have hsyn := h2 syn hs hsn
  cases whole with
  | true =>
    have hce := h5 rfl
    subst hce
    refine (open_whole gd _ hd F nW w0 w (by decide) hD H 100000 (rs.take j) _ (by rw [read_one]) (by rw [read_one]; exact hcl) (by rw [read_one]; exact h3) (by rw [sync_one])).mono ?_
    rintro e w' ⟨gl, rfl, h', hL, hd', hD', hH⟩
    rw [sync_one] at hD'
    refine ⟨gl, j, h', hd', rfl, hsyn, h1, ?_, hD', hH⟩
    have : ({ logN gd (dW room lives true ⟨frsB (rs.take j), (frsB (rs.take j)).length⟩) nW with recs := rs.take j, safe := ((rs.take j).length : Int) } : LM) = lW (rs.take j) j lives := by rw [hjl]; rfl
    rw [← this]
    exact hL
  | false =>
    have hul : (frsB (rs.take j)).length ≤ c.length := by
      have := congrArg List.length h4
      rw [List.length_take] at this
      omega
    have hcut := cut_one room lives ⟨c, c.length⟩ (frsB (rs.take j)).length hul
    have hcut2 : cutM (dW room lives true ⟨c, c.length⟩) nW ((frsB (rs.take j)).length : Int) = (0, dW room lives true ⟨frsB (rs.take j), (frsB (rs.take j)).length⟩) := by
      rw [hcut, h4, Nat.min_eq_right hul]
    refine (open_torn gd _ hd F nW w0 w (by decide) hD H 100000 (rs.take j) _ (by rw [read_one]) (by rw [read_one]; exact hcl) (by rw [read_one]; exact h3) (by rw [hcut2]) (by rw [hcut2, sync_one])).mono ?_
    rintro e w' ⟨gl, rfl, h', hL, hd', hD', hH⟩
    rw [hcut2, sync_one] at hD'
    refine ⟨gl, j, h', hd', rfl, hsyn, h1, ?_, hD', hH⟩
    have : ({ logN gd (dW room lives true ⟨c, c.length⟩) nW with recs := rs.take j, safe := ((rs.take j).length : Int) } : LM) = lW (rs.take j) j lives := by rw [hjl]; rfl
    rw [← this]
    exact hL
end Go.Proofs.Ythgebchidkadhaa
