/- Chapter 8's own answer: a disk as a list of files in its blocks; Size, On: contracts for every world. Conditions: each theorem's own. -/
import Derived.Test.YtocpelkgiebkjaaRf
import Derived.Test.YtocpelkgiebkjaaDn
namespace Go.Proofs.Ytocpelkgiebkjaa
open Go.RowKit Go.Proofs.Ytocpelkgiebkjaa.Sp
set_option linter.unusedVariables false
set_option linter.unusedSimpArgs false
/-- Files in a row, three cells each, their bytes each in a row of its own. -/
def FRw : List (ByteArray × Fl) → List Value → Hp → Prop
  | [], vs, h => vs = [] ∧ h = []
  | x :: l, vs, h => ∃ v hb vs' h', RowB 5 1 v x.2.b.length (bv x.2.b) hb ∧ FRw l vs' h' ∧ vs = .string x.1 :: v :: .int .i64 x.2.safe :: vs' ∧ h = hb ++ h'
def rO (m : DM) (v : Value) : Obj := .cells #[.int .i64 m.room, v, .bool (!m.power), .int .i64 m.lives] 46 (0, 0)
def IsR (d : Nat) (m : DM) (h : Hp) : Prop := ∃ v hL vs hf, RowB 51 3 v m.fl.length vs hL ∧ FRw m.fl vs hf ∧ h = (d, rO m v) :: (hL ++ hf)
theorem FRw.at_ : ∀ {L : List (ByteArray × Fl)} {vs : List Value} {h : Hp}, FRw L vs h → ∀ j x, L[j]? = some x → vs[j * 3]? = some (.string x.1) ∧ (∃ A c, vs[j * 3 + 1]? = some (.slice A x.2.b.length c)) ∧ vs[j * 3 + 2]? = some (.int .i64 x.2.safe)
  | [], vs, h, H, j, x, hj => by simp at hj
  | y :: L, vs, h, H, 0, x, hj => by
    obtain ⟨v, hb, vs', h', R, F, rfl, rfl⟩ := H
    obtain rfl : y = x := by simpa using hj
    obtain ⟨A, c, rfl, _⟩ := RowB.form R
    exact ⟨rfl, ⟨A, c, rfl⟩, rfl⟩
  | y :: L, vs, h, H, j + 1, x, hj => by
    obtain ⟨v, hb, vs', h', R, F, rfl, rfl⟩ := H
    have := FRw.at_ F j x (by simpa using hj)
    rw [show (j + 1) * 3 = j * 3 + 3 by omega]
    exact this
/-- The cells of the row. -/
theorem IsR.cells {d : Nat} {m : DM} {h F : Hp} {w0 w : World} (H : IsR d m h) (hH : Holds w0 (h ++ F) w) : ∃ A c, w.cell? ⟨d, 1, none⟩ = some (.slice A m.fl.length c) ∧ (A = none → m.fl = []) ∧ ∀ ad, A = some ad → ∃ gL, ad = ⟨gL, 0, none⟩ ∧ ∀ j x, m.fl[j]? = some x →
    w.cell? ⟨gL, j * 3, none⟩ = some (.string x.1) ∧ (∃ B c, w.cell? ⟨gL, j * 3 + 1, none⟩ = some (.slice B x.2.b.length c)) ∧ w.cell? ⟨gL, j * 3 + 2, none⟩ = some (.int .i64 x.2.safe) := by
  obtain ⟨v, hL, vs, hf, R, FR, rfl⟩ := H
  have h1 : Holds w0 (hL ++ (hf ++ F)) w := (hH.tail).congr (by simp)
  have R0 := R
  obtain ⟨A, c, rfl, _, _, hr⟩ := R.reads h1
  refine ⟨A, c, Holds.cell hH 1, fun hA => List.eq_nil_of_length_eq_zero (hr.2.1 hA), fun ad hA => ?_⟩
  obtain ⟨_, ⟨hv, _, _⟩ | ⟨g, cap, cur, hv, _⟩⟩ := R0
  · injection hv with e1
    rw [hA] at e1
    cases e1
  · injection hv with e1
    rw [hA] at e1
    injection e1 with e1
    subst e1
    refine ⟨g, rfl, fun j x hj => ?_⟩
    have e2 : ∀ i, (⟨g, 0, none⟩ : Addr).add i = ⟨g, i, none⟩ := fun i => by simp [Addr.add]; omega
    obtain ⟨k1, ⟨B, c', k2⟩, k3⟩ := FR.at_ j x hj
    have q1 := hr.2.2 _ hA _ _ k1
    have q2 := hr.2.2 _ hA _ _ k2
    have q3 := hr.2.2 _ hA _ _ k3
    rw [e2] at q1 q2 q3
    exact ⟨q1, ⟨B, c', q2⟩, q3⟩
theorem totM_take (l : List (ByteArray × Fl)) (k : Nat) (x : ByteArray × Fl) (h : l[k]? = some x) : totM (l.take (k + 1)) = totM (l.take k) + x.2.b.length := by
  rw [List.take_add_one, h]
  simp [totM]
theorem totM_le (l : List (ByteArray × Fl)) (k : Nat) : totM (l.take k) ≤ totM l := by
  have e : totM l = totM (l.take k) + totM (l.drop k) := by
    conv => lhs; rw [← List.take_append_drop k l]
    simp only [totM, List.map_append, List.sum_append]
  omega
set_option maxRecDepth 100000 in
set_option maxHeartbeats 2000000 in
theorem rsize_calls (d : Nat) (m : DM) (h F : Hp) (w0 w : World) (hcnt : m.fl.length ≤ 1000000000) (ht : totM m.fl ≤ 1000000000) (hI : IsR d m h) (H : Holds w0 (h ++ F) w) :
    Calls Try.prog 37 #[.pointer (some ⟨d, 0, none⟩)] w fun e w' => e = .returned (.int .i64 (totM m.fl)) ∧ w' = w := by
  obtain ⟨A, c, hd, hn, hr⟩ := hI.cells H
  have HN := Lib.hid hn; have HR := Lib.hid hr
  clear hn hr hI H
  go_enter Try.func37, Try.ntmps37
  go_wp2
  go_loopw [3, 4] (fun n i wr => wr = w ∧ ∃ k : Nat, k ≤ m.fl.length ∧ i = .int .i64 k ∧ n = .int .i64 (totM (m.fl.take k))) (fun _ i _ => m.fl.length - (intOf i).toNat)
  case atStart => exact ⟨rfl, 0, by omega, rfl, rfl⟩
  case round =>
    obtain ⟨rfl, k, hk, rfl, rfl⟩ := hrel
    by_cases hlt : k < m.fl.length
    · obtain ⟨x, hx⟩ : ∃ x, m.fl[k]? = some x := ⟨_, List.getElem?_eq_getElem hlt⟩
      cases A with
      | none => rw [HN.out rfl] at hlt; simp at hlt
      | some ad =>
        obtain ⟨gL, rfl, hcs⟩ := HR.out ad rfl
        obtain ⟨_, ⟨B, c', hc⟩, _⟩ := hcs k x hx
        clear hcs
        have HT := Lib.hid (totM_take m.fl k x hx)
        have hb : totM (m.fl.take k) + x.2.b.length ≤ 1000000000 := by
          have := totM_le m.fl (k + 1)
          rw [HT.out] at this
          omega
        obtain ⟨T, hT⟩ : ∃ T, T = totM (m.fl.take k) := ⟨_, rfl⟩
        rw [← hT] at hb ⊢
        have HTT := Lib.hid hT
        clear hT hx
        have hwr : IntKind.i64.wrap ((T : Int) + (x.2.b.length : Int)) = (T : Int) + (x.2.b.length : Int) := by rw [IntKind.wrap_i64]; omega
        go_wp2_with fail
        refine ⟨⟨trivial, k + 1, by omega, by simp, by rw [HT.out, ← HTT.out]; rfl⟩, by simp [intOf]; omega⟩
    · have hkk : k = m.fl.length := by omega
      have HT := Lib.hid (show totM (m.fl.take k) = totM m.fl by rw [hkk, List.take_length])
      clear hkk
      go_wp2_with fail
      go_ret
      exact ⟨by rw [← HT.out]; rfl, rfl⟩
set_option maxRecDepth 100000 in
set_option maxHeartbeats 2000000 in
theorem ron_calls (d : Nat) (m : DM) (h F : Hp) (w0 w : World) (hl : 0 ≤ m.lives ∧ m.lives < 1000000000) (hI : IsR d m h) (H : Holds w0 (h ++ F) w) :
    Calls Try.prog 26 #[.pointer (some ⟨d, 0, none⟩)] w fun e w' => e = .returned (.tuple #[]) ∧ ∃ h', IsR d (onM m) h' ∧ Holds w0 (h' ++ F) w' := by
  obtain ⟨v, hL, vs, hf, R, FR, rfl⟩ := hI
  obtain ⟨A, c, rfl, _⟩ := RowB.form R
  have c2 : w.cell? ⟨d, 2, none⟩ = some (.bool (!m.power)) := Holds.cell H 2
  have c3 : w.cell? ⟨d, 3, none⟩ = some (.int .i64 m.lives) := Holds.cell H 3
  have f2 : w.frozen? ⟨d, 2, none⟩ = false := Holds.froz H 2
  have f3 : w.frozen? ⟨d, 3, none⟩ = false := Holds.froz H 3
  have hwr : IntKind.i64.wrap (m.lives + 1) = m.lives + 1 := by rw [IntKind.wrap_i64]; omega
  have HH := Lib.hid H; have HR := Lib.hid R; have HF := Lib.hid FR
  clear H R FR
  go_enter Try.func26, Try.ntmps26
  go_wp2
  refine bodyPost_end (v := .tuple #[]) (by simp [results, Try.results26, go_sem]) rfl ⟨rfl, _, ⟨.slice A m.fl.length c, hL, vs, hf, HR.out, HF.out, rfl⟩, ?_⟩
  exact (Holds.set HH.out 2 (.bool false)).set 3 (.int .i64 (m.lives + 1))
end Go.Proofs.Ytocpelkgiebkjaa
