/- Rows of records that are read, joined, compared. Conditions: each theorem's own. -/
import Derived.Test.YthgebchidkadhaaCr
import Derived.Test.YthgebchidkadhaaQWalx7
namespace Go.Proofs.Ythgebchidkadhaa
open Go.ChangeShapes Go.WideShapes Go.ChangeAt Go.RowKit Go.Proofs.Ythgebchidkadhaa.Sp Go.Proofs.Ythgebchidkadhaa.QWal Go.Proofs.YthgebchidkadhaaW.PrintWords
set_option linter.unusedVariables false
set_option linter.unusedSimpArgs false
def InC (W : World) (A : Option Addr) (c : Nat) (L : List (List UInt8)) : Prop := (A = none → c = 0) ∧ L.length ≤ c ∧ c ≤ maxLen ∧ InBs W A L
theorem open_bc {H : Type} {enc : TypeId × Value → H} {W : World} {r : Reach} {b0 base : Nat} {held : Bool} {v : Value} {d : DataW H} {p : List MemPlace}
    (hv : Value.okWide Try.prog W r b0 22 v) (h : DataW.Trod enc Try.prog W base (fun _ => true) held 22 v d p) :
    ∃ x : Option Addr × Nat × List (List UInt8), v = .slice x.1 x.2.2.length x.2.1 ∧ InC W x.1 x.2.1 x.2.2 := by
  have h2 := open_bb hv h
  obtain ⟨x, rfl, _, hB⟩ := h2
  refine ⟨x, rfl, ?_, ?_, ?_, hB⟩
  all_goals
    obtain ⟨fuel, hf⟩ := h
    rcases Go.Deep.open_int_rows Try.underlying22 Try.underlying31 Try.underlying5 cells31 cells5 hf with ⟨hcs, _⟩ | ⟨ad, n, c, A, L, C, Z, hcs, _, hl, hm, _, hr⟩
    · simp [Value.cells] at hcs
      obtain ⟨q1, q2, q3⟩ := hcs
      first | (intro _; exact q3) | (rw [q2, q3]; exact Nat.le_refl _) | (rw [q3]; decide)
    · simp [Value.cells] at hcs
      obtain ⟨q1, q2, q3⟩ := hcs
      first | (intro q; rw [q] at q1; cases q1) | (rw [q2, q3]; omega) | (rw [q3]; omega)
/-- The cells of a row of records: each a slice that reads its bytes. -/
def CelB (w : World) (vs : List Value) (L : List (List UInt8)) : Prop := vs.length = L.length ∧ ∀ (j : Nat) (r : List UInt8), L[j]? = some r → ∃ Aj Cj, vs[j]? = some (Value.slice Aj r.length Cj) ∧ InB w Aj Cj r
theorem CelB.below {w w' : World} {vs : List Value} {L : List (List UInt8)} (h : CelB w vs L) (hb : Below w.heap.size w w') : CelB w' vs L := ⟨h.1, fun j r hj => by
  obtain ⟨Aj, Cj, e, h1, h2, h3, h4⟩ := h.2 j r hj
  exact ⟨Aj, Cj, e, h1, h2, h3, h4.below hb⟩⟩
theorem CelB.app {w : World} {vs us : List Value} {L M : List (List UInt8)} (h : CelB w vs L) (h2 : CelB w us M) : CelB w (vs ++ us) (L ++ M) := by
  refine ⟨by rw [List.length_append, List.length_append, h.1, h2.1], fun j r hj => ?_⟩
  by_cases hl : j < L.length
  · rw [List.getElem?_append_left hl] at hj
    rw [List.getElem?_append_left (by rw [h.1]; exact hl)]
    exact h.2 j r hj
  · rw [List.getElem?_append_right (by omega)] at hj
    rw [List.getElem?_append_right (by rw [h.1]; omega), h.1]
    exact h2.2 _ r hj
theorem CelB.take {w : World} {vs : List Value} {L : List (List UInt8)} (h : CelB w vs L) (k : Nat) : CelB w (vs.take k) (L.take k) := by
  refine ⟨by rw [List.length_take, List.length_take, h.1], fun j r hj => ?_⟩
  rw [List.getElem?_take] at hj ⊢
  split at hj
  · rename_i q
    rw [if_pos q]
    exact h.2 j r hj
  · cases hj
theorem CelB.one {w : World} {vs : List Value} {L : List (List UInt8)} (h : CelB w vs L) : ∀ u ∈ vs, u.oneCell' = true := by
  intro u hu
  obtain ⟨j, hj, rfl⟩ := List.getElem_of_mem hu
  have hjl : j < L.length := by rw [← h.1]; exact hj
  obtain ⟨Aj, Cj, e, _⟩ := h.2 j L[j] (List.getElem?_eq_getElem hjl)
  rw [List.getElem?_eq_getElem hj] at e
  injection e with e
  rw [e]
  rfl
theorem in_cel {w : World} {A : Option Addr} {c : Nat} {L : List (List UInt8)} (h : InC w A c L) : ∃ vs, CelB w vs L ∧ Reads w A L.length 1 vs := by
  obtain ⟨h1, h2, h3, h4⟩ := h
  have hn : A = none → L.length = 0 := fun e => by have := h1 e; omega
  have hx : ∀ j, ∃ u : Value, ∀ r, L[j]? = some r → ∃ ad Aj Cj, A = some ad ∧ w.cell? (ad.add j) = some u ∧ u = .slice Aj r.length Cj ∧ InB w Aj Cj r := by
    intro j
    cases hj : L[j]? with
    | none => exact ⟨undef, fun r h => by cases h⟩
    | some r0 =>
      obtain ⟨ad, Aj, Cj, e, hc, hi⟩ := h4 j r0 hj
      exact ⟨.slice Aj r0.length Cj, fun r hr => by obtain rfl := Option.some.inj hr; exact ⟨ad, Aj, Cj, e, hc, rfl, hi⟩⟩
  obtain ⟨f, hf⟩ := Classical.axiomOfChoice hx
  have hget : ∀ j r, L[j]? = some r → ((List.range L.length).map f)[j]? = some (f j) := by
    intro j r hj
    have := (List.getElem?_eq_some_iff.mp hj).1
    rw [List.getElem?_map, List.getElem?_range this]
    rfl
  refine ⟨(List.range L.length).map f, ⟨by simp, fun j r hj => ?_⟩, by simp, fun e => hn e, fun ad had j u hj => ?_⟩
  · obtain ⟨ad, Aj, Cj, e, hc, hu, hi⟩ := hf j r hj
    exact ⟨Aj, Cj, by rw [hget j r hj, hu], hi⟩
  · have hjl : j < L.length := by
      have := (List.getElem?_eq_some_iff.mp hj).1
      simpa using this
    have hr := List.getElem?_eq_getElem hjl
    obtain ⟨ad2, Aj, Cj, e, hc, hu, hi⟩ := hf j _ hr
    rw [hget j _ hr] at hj
    injection hj with hj
    rw [had] at e
    injection e with e
    subst e
    rw [← hj]
    exact hc
/-- append, of a row of records that is read. -/
theorem recs_append {w0 w : World} {h F : Hp} {v : Value} {n : Nat} {xs : List Value} (R : RowB 31 1 v n xs h) (H : Holds w0 (h ++ F) w) (ty : TypeId) (A : Option Addr) (m c : Nat) (hc : A = none → c = 0) (news : List Value) (hr : Reads w A m 1 news) (h1 : ∀ u ∈ news, u.oneCell' = true) (hn : n + m ≤ 1000000) :
    ∃ v' h' w', (Builtin.append_ #[22, 22] ty #[v, .slice A m c]).run Try.prog w = .ok v' w' ∧ RowB 31 1 v' (n + m) (xs ++ news) h' ∧ Holds w0 (h' ++ F) w' := by
  obtain ⟨i, z, hi, hz, q1, q2, q3⟩ := info31i
  have hmx : maxLen = 9223372036854775807 := rfl
  exact row_append (t := 22) R H ty i z 24 Try.underlying22 hi hz q1 q2 q3 (by decide) A m c hc news hr h1 (by omega) (by omega)
theorem cel_C {w : World} {A : Option Addr} {vs : List Value} {L : List (List UInt8)} (hr : Reads w A L.length 1 vs) (hc : CelB w vs L) (hl : L.length ≤ 9223372036854775807) (hb : ∀ r ∈ L, r.length ≤ 9223372036854775807) : Kd.C (Kd.slice 5 (Kd.int .u8)) w A (L.map bi).length (L.map bi) := by
  refine ⟨rfl, by rw [List.length_map]; exact hl, fun h0 => ?_⟩
  rw [List.length_map] at h0
  cases A with
  | none => have := hr.2.1 rfl; omega
  | some ad =>
    refine ⟨ad, rfl, fun j p hp => ?_⟩
    rw [List.getElem?_map] at hp
    cases hj : L[j]? with
    | none => rw [hj] at hp; cases hp
    | some r =>
      rw [hj] at hp
      obtain rfl : bi r = p := by simpa using hp
      obtain ⟨Aj, Cj, e, i1, i2, i3, i4⟩ := hc.2 j r hj
      refine ⟨[.slice Aj r.length Cj], rfl, ⟨Aj, Cj, by rw [bi_len], by rw [bi_len]; exact i2, reads_C i4 (hb r (List.mem_of_getElem? hj))⟩, fun i u hu => ?_⟩
      have hi : i = 0 := by
        rcases i with _ | i
        · rfl
        · simp at hu
      subst hi
      obtain rfl := Option.some.inj hu
      show w.cell? (ad.add (j * 1 + 0)) = _
      rw [Nat.mul_one, Nat.add_zero]
      exact hr.2.2 ad rfl j _ e
/-- Rows of one's own as cells that are read. -/
theorem rowsB_cel {w0 w : World} : ∀ {L : List (List UInt8)} {vs : List Value} {hs F : Hp}, RowsB L vs hs → Holds w0 (hs ++ F) w → (∀ r ∈ L, r.length ≤ 100000) → CelB w vs L
  | [], vs, hs, F, h, H, _ => by
    obtain ⟨rfl, rfl⟩ := h
    exact ⟨rfl, fun j r hj => by simp at hj⟩
  | r :: L, vs, hs, F, h, H, hb => by
    obtain ⟨v, vs', h1, h2, R, RS, rfl, rfl⟩ := h
    have hH : Holds w0 (h1 ++ (h2 ++ F)) w := by rw [← List.append_assoc]; exact H
    have ih := rowsB_cel RS hH.right (fun x hx => hb x (List.mem_cons_of_mem _ hx))
    obtain ⟨Av, cv, rfl, e1, e2, e3⟩ := R.reads hH
    have hcm : cv ≤ maxLen := by
      rcases R.2 with ⟨q, _, _⟩ | ⟨g, cap, cur, q, _, _, q2, _⟩
      · injection q with a b c
        rw [c]; decide
      · injection q with a b c
        rw [c]
        first | exact q2 | omega
    refine ⟨by simp [ih.1], fun j x hj => ?_⟩
    cases j with
    | zero =>
      obtain rfl : r = x := by simpa using hj
      exact ⟨Av, cv, rfl, e2, e1, hcm, e3⟩
    | succ j => exact ih.2 j x (by simpa using hj)
theorem same_l0 (X : List (List Int)) (hX : X.length ≤ 1000000) : ∀ (j k i : Nat), i + j = X.length → j + 1 ≤ k → hourglassref1_Same.l0 k X X (i : Int) = some true
  | 0, k, i, h, hk => by
    obtain ⟨k, rfl⟩ : ∃ n, k = n + 1 := ⟨k - 1, by omega⟩
    simp only [hourglassref1_Same.l0]
    rw [if_neg (by omega)]
  | j + 1, k, i, h, hk => by
    obtain ⟨k, rfl⟩ : ∃ n, k = n + 1 := ⟨k - 1, by omega⟩
    simp only [hourglassref1_Same.l0]
    rw [if_pos (by omega), if_pos (by omega), if_pos (by omega), if_pos True.intro, Pl.w64 _ (by omega) (by omega), show (i : Int) + 1 = ((i + 1 : Nat) : Int) by omega]
    exact same_l0 X hX j k (i + 1) (by omega) (by omega)
theorem same_f (X : List (List Int)) (hX : X.length ≤ 1000000) : hourglassref1_Same.f (X.length + 1) X X = some true := by
  unfold hourglassref1_Same.f
  rw [if_pos rfl]
  exact same_l0 X hX X.length _ 0 (by omega) (Nat.le_refl _)
end Go.Proofs.Ythgebchidkadhaa
