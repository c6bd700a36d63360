/- Chapter 8's own answer: asking and finding are one; Read: a contract for every world. Conditions: each theorem's own. -/
import Derived.Test.YtocpelkgiebkjaaRg8
import Derived.Test.YtocpelkgiebkjaaSafe
namespace Go.Proofs.Ytocpelkgiebkjaa
open Go.RowKit Go.Proofs.Ytocpelkgiebkjaa.Sp
set_option linter.unusedVariables false
set_option linter.unusedSimpArgs false
theorem fnd_find (s : ByteArray) (L : List (ByteArray × Fl)) : (fnd s L = -1 ∧ L.find? (namedM s) = none) ∨ ∃ (k : Nat) (x : ByteArray × Fl), fnd s L = k ∧ L[k]? = some x ∧ x.1 = s ∧ L.find? (namedM s) = some x := by
  unfold fnd
  cases h : L.findIdx? (namedM s) with
  | none =>
    refine .inl ⟨rfl, ?_⟩
    rw [List.find?_eq_none]
    intro x hx
    have := List.findIdx?_eq_none_iff.mp h x hx
    simp [this]
  | some k =>
    obtain ⟨hk, h1, h2⟩ := List.findIdx?_eq_some_iff_getElem.mp h
    refine .inr ⟨k, L[k], rfl, List.getElem?_eq_getElem hk, by simpa [namedM] using h1, ?_⟩
    rw [List.find?_eq_some_iff_getElem]
    exact ⟨h1, k, hk, rfl, fun j hj => by have := h2 j hj; simpa using this⟩
theorem ask_cases (m : DM) (s : ByteArray) : (∃ e, e ≠ 0 ∧ askR (!m.power) m.fl s = (-1, e) ∧ findM m s = (e, none)) ∨ (∃ (k : Nat) (x : ByteArray × Fl), m.fl[k]? = some x ∧ x.1 = s ∧ askR (!m.power) m.fl s = ((k : Int), 0) ∧ findM m s = (0, some x.2)) := by
  unfold askR findM
  cases hp : m.power
  · exact .inl ⟨7, by decide, rfl, rfl⟩
  · cases hg : goodN s
    · exact .inl ⟨1, by decide, rfl, rfl⟩
    · rcases fnd_find s m.fl with ⟨h1, h2⟩ | ⟨k, x, h1, h2, h3, h4⟩
      · rw [h1, h2]
        exact .inl ⟨4, by decide, rfl, rfl⟩
      · rw [h1, h4]
        refine .inr ⟨k, x, h2, h3, ?_, rfl⟩
        have : ¬ (k : Int) < 0 := by omega
        simp [this]
theorem FRw.row : ∀ {L : List (ByteArray × Fl)} {vs : List Value} {h F : Hp} {w0 w : World}, FRw L vs h → Holds w0 (h ++ F) w → ∀ j x, L[j]? = some x → ∃ B c, vs[j * 3 + 1]? = some (.slice B x.2.b.length c) ∧ (B = none → c = 0) ∧ Reads w B x.2.b.length 1 (bv x.2.b)
  | [], vs, h, F, w0, w, H, hH, j, x, hj => by simp at hj
  | y :: L, vs, h, F, w0, w, H, hH, 0, x, hj => by
    obtain ⟨v, hb, vs', h', R, FR, rfl, rfl⟩ := H
    obtain rfl : y = x := by simpa using hj
    obtain ⟨A, c, rfl, _, hc, hr⟩ := R.reads (hH.congr (List.append_assoc _ _ _))
    exact ⟨A, c, rfl, hc, hr⟩
  | y :: L, vs, h, F, w0, w, H, hH, j + 1, x, hj => by
    obtain ⟨v, hb, vs', h', R, FR, rfl, rfl⟩ := H
    obtain ⟨B, c, k1, k2, k3⟩ := FRw.row FR ((hH.congr (List.append_assoc _ _ _)).right) j x (by simpa using hj)
    refine ⟨B, c, ?_, k2, k3⟩
    rw [show (j + 1) * 3 + 1 = (j * 3 + 1) + 3 by omega]
    exact k1
set_option maxRecDepth 100000 in
set_option maxHeartbeats 2000000 in
theorem rread_calls (d : Nat) (m : DM) (h F : Hp) (s : ByteArray) (w0 w : World) (hcnt : m.fl.length ≤ 1000000000) (hI : IsR d m h) (H : Holds w0 (h ++ F) w) :
    Calls Try.prog 42 #[.pointer (some ⟨d, 0, none⟩), .string s] w fun e w' => (∃ B c, e = .returned (.tuple #[.slice B (readM m s).1.length c, .int .i64 (readM m s).2]) ∧ (B = none → c = 0) ∧ Reads w B (readM m s).1.length 1 (bv (readM m s).1)) ∧ w' = w := by
  obtain ⟨A, c, hd, hn, hr⟩ := hI.cells H
  have ho : w.cell? ⟨d, 2, none⟩ = some (.bool (!m.power)) := by
    obtain ⟨v, hL, vs, hf, R, FR, rfl⟩ := hI
    exact Holds.cell H 2
  have hrow : ∀ k x, m.fl[k]? = some x → ∃ gL B c', A = some ⟨gL, 0, none⟩ ∧ w.cell? ⟨gL, k * 3 + 1, none⟩ = some (.slice B x.2.b.length c') ∧ (B = none → c' = 0) ∧ Reads w B x.2.b.length 1 (bv x.2.b) := by
    intro k x hx
    cases A with
    | none => rw [hn rfl] at hx; simp at hx
    | some ad =>
      obtain ⟨gL, rfl, hcs⟩ := hr ad rfl
      obtain ⟨_, ⟨B, c', hc⟩, _⟩ := hcs k x hx
      obtain ⟨v, hL, vs, hf, R, FR, rfl⟩ := hI
      have h1 : Holds w0 (hL ++ (hf ++ F)) w := (H.tail).congr (by simp)
      obtain ⟨B2, c2, k1, k2, k3⟩ := FR.row (h1.right) k x hx
      obtain ⟨A3, c3, rfl, _, _, hrr⟩ := R.reads h1
      have hd2 : w.cell? ⟨d, 1, none⟩ = some (.slice A3 m.fl.length c3) := Holds.cell H 1
      rw [hd] at hd2
      injection hd2 with hd2
      injection hd2 with e1 _ _
      have q := hrr.2.2 _ e1.symm _ _ k1
      have e2 : (⟨gL, 0, none⟩ : Addr).add (k * 3 + 1) = ⟨gL, k * 3 + 1, none⟩ := by simp [Addr.add]
      rw [e2, hc] at q
      injection q with q
      injection q with e3 _ e4
      subst e3
      subst e4
      exact ⟨gL, B, c', rfl, hc, k2, k3⟩
  have HA := Lib.hid (rask_calls d (!m.power) m.fl A c s w hcnt hd ho (fun ad hA j x hj => by
    obtain ⟨gL, rfl, hcs⟩ := hr ad hA
    have e2 : (⟨gL, 0, none⟩ : Addr).add (j * 3) = ⟨gL, j * 3, none⟩ := by simp [Addr.add]; omega
    rw [e2]
    exact (hcs j x hj).1) hn)
  have HROW := Lib.hid hrow
  clear hn hr hI H ho hrow
  rcases ask_cases m s with ⟨er, he0, hq, hq2⟩ | ⟨k, x, hx, hxs, hq, hq2⟩
  · have hrd : readM m s = ([], er) := by unfold readM; rw [hq2]
    rw [hq] at HA
    rw [hrd]
    have her : (er == 0) = false := by simpa using he0
    clear hrd hq hq2 he0
    go_enter Try.func42, Try.ntmps42
    go_wp2_with fail
    refine HA.out.mono ?_
    rintro e w' ⟨rfl, rfl⟩
    go_wp2_with fail
    exact bodyPost_ret (v := .tuple #[.slice none 0 0, .int .i64 er]) (by simp [results, Try.results42, go_sem]) rfl ⟨⟨none, 0, rfl, fun _ => rfl, rfl, fun _ => rfl, fun _ h => by cases h⟩, rfl⟩
  · have hrd : readM m s = (x.2.b, 0) := by unfold readM; rw [hq2]
    rw [hq] at HA
    rw [hrd]
    obtain ⟨gL, B, c', rfl, hc, hB, hrr⟩ := HROW.out k x hx
    have hlt : k < m.fl.length := (List.getElem?_eq_some_iff.mp hx).1
    have HRR := Lib.hid hrr
    clear hrd hq hq2 hrr hx hxs
    go_enter Try.func42, Try.ntmps42
    go_wp2_with fail
    refine HA.out.mono ?_
    rintro e w' ⟨rfl, rfl⟩
    go_wp2_with fail
    exact bodyPost_ret (v := .tuple #[.slice B x.2.b.length c', .int .i64 0]) (by simp [results, Try.results42, go_sem]) rfl ⟨⟨B, c', rfl, hB, HRR.out⟩, rfl⟩
end Go.Proofs.Ytocpelkgiebkjaa
