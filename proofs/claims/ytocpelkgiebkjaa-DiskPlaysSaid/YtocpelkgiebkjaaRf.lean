/- Chapter 8's own answer: May, find: contracts for every world. Conditions: each theorem's own. -/
import Derived.Test.YtocpelkgiebkjaaDm
namespace Go.Proofs.Ytocpelkgiebkjaa
open Go.RowKit Go.Proofs.Ytocpelkgiebkjaa.Sp
set_option linter.unusedVariables false
set_option linter.unusedSimpArgs false
theorem signs_no {s : ByteArray} {k : Nat} (hk : k < s.size) (h : (s[k]).toNat < 33 ∨ 126 < (s[k]).toNat) : goodN s = false := by
  unfold goodN
  rw [Bool.and_eq_false_iff]
  left
  cases hq : signs s
  · rfl
  · have := (signs_iff s).mp hq k hk
    omega
theorem rmay_calls (s : ByteArray) (w : World) : Calls Try.prog 39 #[.string s] w fun e w' => e = .returned (.bool (goodN s)) ∧ w' = w := by
  by_cases h1 : s.size < 1
  · have hg : goodN s = false := by unfold goodN; rw [Bool.and_eq_false_iff]; right; simp; omega
    rw [hg]
    have h1' : (s.size : Int) < 1 := by omega
    clear hg
    go_enter Try.func39, Try.ntmps39
    go_wp2
    go_ret
    exact ⟨rfl, rfl⟩
  by_cases h2 : 20 < s.size
  · have hg : goodN s = false := by unfold goodN; rw [Bool.and_eq_false_iff]; right; simp; omega
    rw [hg]
    have h1' : ¬ (s.size : Int) < 1 := by omega
    have h2' : (20 : Int) < (s.size : Int) := by omega
    clear hg
    go_enter Try.func39, Try.ntmps39
    go_wp2
    go_ret
    exact ⟨rfl, rfl⟩
  have h1' : ¬ (s.size : Int) < 1 := by omega
  have h2' : ¬ (20 : Int) < (s.size : Int) := by omega
  go_enter Try.func39, Try.ntmps39
  go_wp2
  go_loopw [3] (fun i wr => wr = w ∧ ∃ k : Nat, k ≤ s.size ∧ i = .int .i64 k ∧ ∀ j (hj : j < k) (hj2 : j < s.size), 33 ≤ (s[j]).toNat ∧ (s[j]).toNat ≤ 126) (fun i _ => s.size - (intOf i).toNat)
  case atStart => exact ⟨rfl, 0, by omega, rfl, fun j hj => by omega⟩
  case round =>
    obtain ⟨rfl, k, hk, rfl, hj⟩ := hrel
    have HJ := Lib.hid hj
    clear hj
    by_cases hlt : k < s.size
    · by_cases g1 : 33 ≤ (s[k]).toNat
      · by_cases g2 : (s[k]).toNat ≤ 126
        · have g1' : ¬ ((s[k]).toNat : Int) < 33 := by omega
          have g2' : ¬ (126 : Int) < ((s[k]).toNat : Int) := by omega
          go_wp2
          refine ⟨⟨trivial, k + 1, by omega, by simp, fun j hj hj2 => ?_⟩, by simp [intOf]; omega⟩
          rcases Nat.lt_or_ge j k with h | h
          · exact HJ.out j h hj2
          · obtain rfl : j = k := by omega
            exact ⟨g1, g2⟩
        · have hg := signs_no hlt (.inr (by omega))
          have HG := Lib.hid hg
          clear hg
          have g1' : ¬ ((s[k]).toNat : Int) < 33 := by omega
          have g2' : (126 : Int) < ((s[k]).toNat : Int) := by omega
          go_wp2
          go_ret
          exact ⟨by rw [HG.out]; rfl, rfl⟩
      · have hg := signs_no hlt (.inl (by omega))
        have HG := Lib.hid hg
        clear hg
        have g1' : ((s[k]).toNat : Int) < 33 := by omega
        go_wp2
        go_ret
        exact ⟨by rw [HG.out]; rfl, rfl⟩
    · have hg : goodN s = true := by
        unfold goodN
        rw [Bool.and_eq_true]
        exact ⟨(signs_iff s).mpr (fun j hj => HJ.out j (by omega) hj), decide_eq_true ⟨by omega, by omega⟩⟩
      have HG := Lib.hid hg
      clear hg
      go_wp2
      go_ret
      exact ⟨by rw [HG.out]; rfl, rfl⟩
theorem str_ne {a b : ByteArray} (h : ¬ a = b) : (a.toList == b.toList) = false := by
  rw [beq_eq_false_iff_ne]
  intro e
  rw [ByteArray.toList_eq, ByteArray.toList_eq] at e
  exact h (by cases a; cases b; simp_all)
/-- The place of a name in a list. -/
def fnd (s : ByteArray) (L : List (ByteArray × Fl)) : Int := match L.findIdx? (namedM s) with | some i => i | none => -1
set_option maxRecDepth 100000 in
set_option maxHeartbeats 2000000 in
theorem rfind_calls (d : Nat) (L : List (ByteArray × Fl)) (A : Option Addr) (cap : Nat) (s : ByteArray) (w : World) (hL : L.length ≤ 1000000000) (hd : w.cell? ⟨d, 1, none⟩ = some (.slice A L.length cap))
    (hr : ∀ ad, A = some ad → ∀ j x, L[j]? = some x → w.cell? (ad.add (j * 3)) = some (.string x.1)) (hn : A = none → L = []) :
    Calls Try.prog 40 #[.pointer (some ⟨d, 0, none⟩), .string s] w fun e w' => e = .returned (.int .i64 (fnd s L)) ∧ w' = w := by
  have HR := Lib.hid hr
  have HN := Lib.hid hn
  clear hr hn
  go_enter Try.func40, Try.ntmps40
  go_wp2
  go_loopw [5] (fun i wr => wr = w ∧ ∃ k : Nat, k ≤ L.length ∧ i = .int .i64 k ∧ ∀ j x, j < k → L[j]? = some x → x.1 ≠ s) (fun i _ => L.length - (intOf i).toNat)
  case atStart => exact ⟨rfl, 0, by omega, rfl, fun j x hj => by omega⟩
  case round =>
    obtain ⟨rfl, k, hk, rfl, hj⟩ := hrel
    have HJ := Lib.hid hj
    clear hj
    by_cases hlt : k < L.length
    · obtain ⟨x, hx⟩ : ∃ x, L[k]? = some x := ⟨_, List.getElem?_eq_getElem hlt⟩
      cases A with
      | none => rw [HN.out rfl] at hlt; simp at hlt
      | some ad =>
        have hc := HR.out ad rfl k x hx
        have HX := Lib.hid hx
        clear hx
        by_cases hxs : x.1 = s
        · have hq : fnd s L = k := by
            unfold fnd
            rw [(List.findIdx?_eq_some_iff_getElem (xs := L) (p := namedM s) (i := k)).mpr ⟨hlt, by
              have := List.getElem?_eq_some_iff.mp HX.out
              obtain ⟨_, e⟩ := this
              rw [e]
              simp [namedM, hxs], fun j hj => by
              have := HJ.out j (L[j]'(by omega)) hj (List.getElem?_eq_getElem (by omega))
              simp [namedM, this]⟩]
          rw [hxs] at hc
          have HQ := Lib.hid hq
          clear hxs hq
          go_wp2_with fail
          go_ret
          exact ⟨by rw [HQ.out]; rfl, rfl⟩
        · have hs := str_ne hxs
          have HXS := Lib.hid (show x.1 ≠ s from hxs)
          clear hxs
          go_wp2_with fail
          refine ⟨⟨trivial, k + 1, by omega, by simp, fun j y hj hy => ?_⟩, by simp [intOf]; omega⟩
          rcases Nat.lt_or_ge j k with h | h
          · exact HJ.out j y h hy
          · obtain rfl : j = k := by omega
            rw [HX.out] at hy
            injection hy with hy
            rw [← hy]
            exact HXS.out
    · have hq : fnd s L = -1 := by
        unfold fnd
        rw [List.findIdx?_eq_none_iff.mpr (fun x hx => by
          obtain ⟨j, hj⟩ := List.getElem?_of_mem hx
          have hlt2 := (List.getElem?_eq_some_iff.mp hj).1
          have := HJ.out j x (by omega) hj
          simp [namedM, this])]
      have HQ := Lib.hid hq
      clear hq
      go_wp2_with fail
      go_ret
      exact ⟨by rw [HQ.out]; rfl, rfl⟩
theorem fnd_or (s : ByteArray) (L : List (ByteArray × Fl)) : fnd s L = -1 ∨ ∃ k : Nat, fnd s L = k ∧ k < L.length := by
  unfold fnd
  cases h : L.findIdx? (namedM s) with
  | none => exact .inl rfl
  | some i => exact .inr ⟨i, rfl, (List.findIdx?_eq_some_iff_getElem.mp h).1⟩
/-- What asking for a file answers. -/
def askR (off : Bool) (L : List (ByteArray × Fl)) (s : ByteArray) : Int × Int :=
  if off then (-1, 7) else if goodN s then (if fnd s L < 0 then (-1, 4) else (fnd s L, 0)) else (-1, 1)
set_option maxRecDepth 100000 in
set_option maxHeartbeats 2000000 in
theorem rask_calls (d : Nat) (off : Bool) (L : List (ByteArray × Fl)) (A : Option Addr) (cap : Nat) (s : ByteArray) (w : World) (hL : L.length ≤ 1000000000) (hd : w.cell? ⟨d, 1, none⟩ = some (.slice A L.length cap)) (ho : w.cell? ⟨d, 2, none⟩ = some (.bool off))
    (hr : ∀ ad, A = some ad → ∀ j x, L[j]? = some x → w.cell? (ad.add (j * 3)) = some (.string x.1)) (hn : A = none → L = []) :
    Calls Try.prog 36 #[.pointer (some ⟨d, 0, none⟩), .string s] w fun e w' => e = .returned (.tuple #[.int .i64 (askR off L s).1, .int .i64 (askR off L s).2]) ∧ w' = w := by
  have HF := Lib.hid (rfind_calls d L A cap s w hL hd hr hn)
  clear hr hn hd
  unfold askR
  cases off
  · cases hg : goodN s
    · have HG := Lib.hid (rmay_calls s w)
      rw [hg] at HG
      go_enter Try.func36, Try.ntmps36
      go_wp2_with fail
      refine HG.out.mono ?_
      rintro e w' ⟨rfl, rfl⟩
      go_wp2_with fail
      exact bodyPost_ret (v := .tuple #[.int .i64 (-1), .int .i64 1]) (by simp [results, Try.results36, go_sem]) rfl ⟨rfl, rfl⟩
    · have HG := Lib.hid (rmay_calls s w)
      rw [hg] at HG
      rcases fnd_or s L with hq | ⟨k, hq, hk⟩
      · rw [hq] at HF ⊢
        go_enter Try.func36, Try.ntmps36
        go_wp2_with fail
        refine HG.out.mono ?_
        rintro e w' ⟨rfl, rfl⟩
        go_wp2_with fail
        refine HF.out.mono ?_
        rintro e w' ⟨rfl, rfl⟩
        clear hq
        go_wp2_with fail
        exact bodyPost_ret (v := .tuple #[.int .i64 (-1), .int .i64 4]) (by simp [results, Try.results36, go_sem]) rfl ⟨rfl, rfl⟩
      · rw [hq] at HF ⊢
        have hneg : ¬ (k : Int) < 0 := by omega
        go_enter Try.func36, Try.ntmps36
        go_wp2_with fail
        refine HG.out.mono ?_
        rintro e w' ⟨rfl, rfl⟩
        go_wp2_with fail
        refine HF.out.mono ?_
        rintro e w' ⟨rfl, rfl⟩
        clear hq
        go_wp2_with fail
        exact bodyPost_ret (v := .tuple #[.int .i64 k, .int .i64 0]) (by simp [results, Try.results36, go_sem]) rfl ⟨by simp [hneg], rfl⟩
  · go_enter Try.func36, Try.ntmps36
    go_wp2_with fail
    exact bodyPost_ret (v := .tuple #[.int .i64 (-1), .int .i64 7]) (by simp [results, Try.results36, go_sem]) rfl ⟨rfl, rfl⟩
end Go.Proofs.Ytocpelkgiebkjaa
