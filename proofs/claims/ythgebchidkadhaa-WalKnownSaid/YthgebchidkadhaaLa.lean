/- A log's At: a contract for every world. Conditions: the theorem's own. -/
import Derived.Test.YthgebchidkadhaaLg
namespace Go.Proofs.Ythgebchidkadhaa
open Go.RowKit Go.Proofs.Ythgebchidkadhaa.Sp
set_option linter.unusedVariables false
set_option linter.unusedSimpArgs false
theorem rows_get : ∀ (recs : List (List UInt8)) (vs : List Value) (hs : Hp) (j : Nat) (r : List UInt8), RowsB recs vs hs → recs[j]? = some r → ∃ v h1 rest, vs[j]? = some v ∧ RowB 5 1 v r.length (bv r) h1 ∧ hs.Perm (h1 ++ rest)
  | [], vs, hs, j, r, _, hj => by simp at hj
  | x :: recs, vs, hs, 0, r, h, hj => by
    obtain ⟨v, vs', h1, h2, hR, hS, rfl, rfl⟩ := h
    obtain rfl := Option.some.inj hj
    exact ⟨v, h1, h2, rfl, hR, List.Perm.refl _⟩
  | x :: recs, vs, hs, j + 1, r, h, hj => by
    obtain ⟨v, vs', h1, h2, hR, hS, rfl, rfl⟩ := h
    obtain ⟨v2, h3, rest, e1, e2, e3⟩ := rows_get recs vs' h2 j r hS (by simpa using hj)
    refine ⟨v2, h3, h1 ++ rest, by simpa using e1, e2, (e3.append_left h1).trans ?_⟩
    classical rw [List.perm_iff_count]; intro a; simp only [List.count_append]; omega
def atM (d : DM) (m : LM) (n : Int) : List UInt8 × Int := if offM d m = true then ([], 7) else if n < 0 ∨ (m.recs.length : Int) ≤ n then ([], 4) else (m.recs.getD n.toNat [], 0)
set_option maxRecDepth 100000 in
set_option maxHeartbeats 4000000 in
theorem lat_calls (gl gd : Nat) (d : DM) (m : LM) (n : Int) (h hd F : Hp) (w0 w : World) (hl : ∀ r ∈ m.recs, r.length ≤ 140737488355328) (hI : IsL gl gd m h) (hD : IsD gd d hd) (H : Holds w0 (h ++ (hd ++ F)) w) :
    Calls Try.prog 18 #[.pointer (some ⟨gl, 0, none⟩), .int .i64 n] w fun e w' => ∃ v, e = .returned (.tuple #[v, .int .i64 (atM d m n).2]) ∧ ∃ hv, RowB 5 1 v (atM d m n).1.length (bv (atM d m n).1) hv ∧ ∃ h', IsL gl gd { m with done := offM d m } h' ∧ Holds w0 (hv ++ (h' ++ (hd ++ F))) w' := by
  have HO := Lib.hid (off_calls gl gd d m h hd F w0 w hI hD H)
  clear hI hD H
  unfold atM
  obtain ⟨of, hof⟩ : ∃ of, of = offM d m := ⟨_, rfl⟩
  rw [← hof] at HO ⊢
  clear hof
  cases of with
  | true =>
    go_enter Try.func18, Try.ntmps18
    go_wp2_with fail
    refine HO.out.mono ?_
    rintro e w1 ⟨rfl, h', hI, hH⟩
    have HI := Lib.hid hI; have HH := Lib.hid hH
    clear hI hH
    go_wp2_with fail
    exact bodyPost_ret (v := .tuple #[.slice none 0 0, .int .i64 7]) (by simp [results, Try.results18, go_sem]) rfl ⟨_, rfl, [], RowB.nil _ _, h', HI.out, HH.out⟩
  | false =>
    simp only [Bool.false_eq_true, if_false] at HO ⊢
    have NO : (n < 0 ∨ (m.recs.length : Int) ≤ n) → (if n < 0 ∨ (m.recs.length : Int) ≤ n then (([] : List UInt8), (4 : Int)) else (m.recs.getD n.toNat [], 0)) = ([], 4) := fun h => if_pos h
    by_cases h0 : n < 0
    · rw [NO (Or.inl h0)]
      go_enter Try.func18, Try.ntmps18
      go_wp2_with fail
      refine HO.out.mono ?_
      rintro e w1 ⟨rfl, h', hI, hH⟩
      have HI := Lib.hid hI; have HH := Lib.hid hH
      clear hI hH NO
      go_wp2_with fail
      exact bodyPost_ret (v := .tuple #[.slice none 0 0, .int .i64 4]) (by simp [results, Try.results18, go_sem]) rfl ⟨_, rfl, [], RowB.nil _ _, h', HI.out, HH.out⟩
    by_cases h1 : (m.recs.length : Int) ≤ n
    · rw [NO (Or.inr h1)]
      go_enter Try.func18, Try.ntmps18
      go_wp2_with fail
      refine HO.out.mono ?_
      rintro e w1 ⟨rfl, h', hI, hH⟩
      have HI := Lib.hid hI; have HH := Lib.hid hH
      obtain ⟨A, c, vs, hr, hs, R, RS, rfl⟩ := hI
      have c2 : w1.cell? ⟨gl, 2, none⟩ = some (.slice A m.recs.length c) := hH.cell 2
      clear hH NO R RS
      go_wp2_with fail
      exact bodyPost_ret (v := .tuple #[.slice none 0 0, .int .i64 4]) (by simp [results, Try.results18, go_sem]) rfl ⟨_, rfl, [], RowB.nil _ _, _, HI.out, HH.out⟩
    · rw [if_neg (by omega)]
      clear NO
      obtain ⟨k, rfl⟩ : ∃ k : Nat, n = k := ⟨n.toNat, by omega⟩
      rw [Int.toNat_natCast]
      have hk : k < m.recs.length := by omega
      obtain ⟨r, hr⟩ : ∃ r, m.recs[k]? = some r := ⟨_, List.getElem?_eq_getElem hk⟩
      have hrl := hl r (List.mem_of_getElem? hr)
      rw [show m.recs.getD k [] = r by rw [List.getD_eq_getElem?_getD, hr]; rfl]
      have HRr := Lib.hid hr
      have HRL := Lib.hid hrl
      clear hr hrl hl
      go_enter Try.func18, Try.ntmps18
      go_wp2_with fail
      refine HO.out.mono ?_
      rintro e w1 ⟨rfl, h', hI, hH⟩
      have HI := Lib.hid hI; have HH := Lib.hid hH
      obtain ⟨A, c, vs, hr, hs, R, RS, rfl⟩ := hI
      have c2 : w1.cell? ⟨gl, 2, none⟩ = some (.slice A m.recs.length c) := hH.cell 2
      obtain ⟨v, hv1, rest, e1, e2, e3⟩ := rows_get _ _ _ k r RS HRr.out
      rcases R.2 with ⟨ee, hz, _⟩ | ⟨g, cap, cur, ee, rfl, hcap, _, hcs, htk⟩
      · have : m.recs.length = 0 := hz
        omega
      · injection ee with ee1 ee2 ee3
        subst ee1
        have ck : w1.cell? ⟨g, k, none⟩ = some v := by
          have hg := (hH.perm (k := (g, .cells cur 31 (0, 0)) :: ((gl, logO gd { m with done := false } (.slice (some ⟨g, 0, none⟩) m.recs.length c)) :: (hs ++ (hd ++ F)))) (by classical rw [List.perm_iff_count]; intro a; simp only [List.count_append, List.count_cons, List.count_nil]; omega)).cell k
          rw [hg, ← Array.getElem?_toList]
          have := e1
          rw [← htk, List.getElem?_take] at this
          split at this
          · exact this
          · cases this
        have HX : Holds w0 (hv1 ++ ((gl, logO gd { m with done := false } (.slice (some ⟨g, 0, none⟩) m.recs.length c)) :: ((g, .cells cur 31 (0, 0)) :: (rest ++ (hd ++ F))))) w1 := hH.perm (by
          have := e3
          classical
          rw [List.perm_iff_count] at this ⊢
          intro a
          have h2 := this a
          simp only [List.count_append, List.count_cons, List.count_nil] at h2 ⊢
          omega)
        obtain ⟨Av, cv, rfl, hnc, hcz, hrd⟩ := e2.reads HX
        have HHg := Lib.hid hH
        have HRD := Lib.hid hrd
        have HCZ := Lib.hid hcz
        clear hH HX hrd hcz e3 htk hcs hcap RS R
        have hk' : (k : Int) < (m.recs.length : Int) := by omega
        go_wp2_with fail
        refine (clone_calls Av cv r w0 w1 _ HCZ.out HRD.out HRL.out HHg.out).mono ?_
        rintro e w2 ⟨v2, rfl, hv2, hR2, hH2⟩
        have HR2 := Lib.hid hR2; have HH2 := Lib.hid hH2
        clear hR2 hH2
        go_wp2_with fail
        exact bodyPost_ret (v := .tuple #[v2, .int .i64 0]) (by simp [results, Try.results18, go_sem]) rfl ⟨_, rfl, hv2, HR2.out, _, HI.out, HH2.out⟩
end Go.Proofs.Ythgebchidkadhaa
