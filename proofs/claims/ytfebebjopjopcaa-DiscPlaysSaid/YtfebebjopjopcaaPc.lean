/- Both clocks' methods over blocks. Conditions: each theorem's own. -/
import Derived.Test.YtfebebjopjopcaaRc
import Derived.Test.YtfebebjopjopcaaGsa
import Derived.Test.YtfebebjopjopcaaGse
namespace Go.Proofs.YtfebebjopjopcaaG
open Go.RowKit Go.Proofs.Ytfebebjopjopcaa.Sp
set_option linter.unusedVariables false
set_option linter.unusedSimpArgs false
def ckO (n h o : Int) : Obj := .cells #[.int .u8 n, .int .i64 h, .int .i64 o] 49 (0, 0)
def goodI (t : Int) : Bool := decide (0 ≤ t ∧ t ≤ 36028797018963967)
def seeB (t h : Int) : Bool := goodI t && decide (h < t)
def seeH (t h : Int) : Int := if seeB t h = true then t else h
theorem good24 (t m : Int) (w : World) : Calls Try.prog 24 #[.agg #[.int .i64 t, .int .u8 m]] w fun e w' => e = .returned (.bool (goodI t)) ∧ Below w.heap.size w w' := by
  by_cases h0 : t < 0
  · have hg : goodI t = false := by unfold goodI; rw [decide_eq_false]; omega
    rw [hg]
    clear hg
    have h1 : ¬ 0 ≤ t := by omega
    go_enter Try.func24, Try.ntmps24
    go_wp2
    all_goals go_ret
    exact ⟨rfl, (Below.refl _ w).alloc (Nat.le_refl _) _⟩
  · by_cases h1 : t ≤ 36028797018963967
    · have hg : goodI t = true := by unfold goodI; rw [decide_eq_true]; omega
      rw [hg]
      clear hg
      have h2 : 0 ≤ t := by omega
      go_enter Try.func24, Try.ntmps24
      go_wp2
      all_goals go_ret
      exact ⟨rfl, (Below.refl _ w).alloc (Nat.le_refl _) _⟩
    · have hg : goodI t = false := by unfold goodI; rw [decide_eq_false]; omega
      rw [hg]
      clear hg
      have h2 : 0 ≤ t := by omega
      go_enter Try.func24, Try.ntmps24
      go_wp2
      all_goals go_ret
      exact ⟨rfl, (Below.refl _ w).alloc (Nat.le_refl _) _⟩
theorem good15 (t m : Int) (w : World) : Calls Try.prog 15 #[.agg #[.int .i64 t, .int .u8 m]] w fun e w' => e = .returned (.bool (goodI t)) ∧ Below w.heap.size w w' := by
  by_cases h0 : t < 0
  · have hg : goodI t = false := by unfold goodI; rw [decide_eq_false]; omega
    rw [hg]
    clear hg
    have h1 : ¬ 0 ≤ t := by omega
    go_enter Try.func15, Try.ntmps15
    go_wp2
    all_goals go_ret
    exact ⟨rfl, (Below.refl _ w).alloc (Nat.le_refl _) _⟩
  · by_cases h1 : t ≤ 36028797018963967
    · have hg : goodI t = true := by unfold goodI; rw [decide_eq_true]; omega
      rw [hg]
      clear hg
      have h2 : 0 ≤ t := by omega
      go_enter Try.func15, Try.ntmps15
      go_wp2
      all_goals go_ret
      exact ⟨rfl, (Below.refl _ w).alloc (Nat.le_refl _) _⟩
    · have hg : goodI t = false := by unfold goodI; rw [decide_eq_false]; omega
      rw [hg]
      clear hg
      have h2 : 0 ≤ t := by omega
      go_enter Try.func15, Try.ntmps15
      go_wp2
      all_goals go_ret
      exact ⟨rfl, (Below.refl _ w).alloc (Nat.le_refl _) _⟩
theorem csee_calls (g : Nat) (n h o t m : Int) (w0 w : World) (F : Hp) (H : Holds w0 ((g, ckO n h o) :: F) w) : Calls Try.prog 14 #[.pointer (some ⟨g, 0, none⟩), .agg #[.int .i64 t, .int .u8 m]] w fun e w' => e = .returned (.bool (seeB t h)) ∧ Holds w0 ((g, ckO n (seeH t h) o) :: F) w' := by
  have hB : IsB w g #[.int .u8 n, .int .i64 h, .int .i64 o] 49 := H.get
  cases hg : goodI t with
  | false =>
    have e1 : seeB t h = false := by unfold seeB; rw [hg]; rfl
    have e2 : seeH t h = h := by unfold seeH; rw [e1]; rfl
    rw [e1, e2]
    refine (see_bad g n h o t m w hB (Lib.hid (fun w => by have := good24 t m w; rwa [hg] at this))).mono ?_
    rintro e w' ⟨rfl, hb⟩
    exact ⟨rfl, H.grow hb⟩
  | true =>
    by_cases hc : t ≤ h
    · have e1 : seeB t h = false := by unfold seeB; rw [hg, decide_eq_false (by omega)]; rfl
      have e2 : seeH t h = h := by unfold seeH; rw [e1]; rfl
      rw [e1, e2]
      refine (see_low g n h o t m w hB hc (Lib.hid (fun w => by have := good24 t m w; rwa [hg] at this))).mono ?_
      rintro e w' ⟨rfl, hb⟩
      exact ⟨rfl, H.grow hb⟩
    · have e1 : seeB t h = true := by unfold seeB; rw [hg, decide_eq_true (by omega)]; rfl
      have e2 : seeH t h = t := by unfold seeH; rw [e1]; rfl
      rw [e1, e2]
      refine (see_yes g n h o t m w hB hc (Lib.hid (fun w => by have := good24 t m w; rwa [hg] at this))).mono ?_
      rintro e w' ⟨rfl, hgr, hc2⟩
      exact ⟨rfl, H.turn hgr hc2⟩
theorem rsee_calls (g : Nat) (n h o t m : Int) (w0 w : World) (F : Hp) (H : Holds w0 ((g, rkO n h o) :: F) w) : Calls Try.prog 20 #[.pointer (some ⟨g, 0, none⟩), .agg #[.int .i64 t, .int .u8 m]] w fun e w' => e = .returned (.bool (seeB t h)) ∧ Holds w0 ((g, rkO n (seeH t h) o) :: F) w' := by
  have hB : IsB w g #[.int .u8 n, .int .i64 h, .int .i64 o] 46 := H.get
  cases hg : goodI t with
  | false =>
    have e1 : seeB t h = false := by unfold seeB; rw [hg]; rfl
    have e2 : seeH t h = h := by unfold seeH; rw [e1]; rfl
    rw [e1, e2]
    refine (rsee_bad g n h o t m w hB (Lib.hid (fun w => by have := good15 t m w; rwa [hg] at this))).mono ?_
    rintro e w' ⟨rfl, hb⟩
    exact ⟨rfl, H.grow hb⟩
  | true =>
    by_cases hc : t ≤ h
    · have e1 : seeB t h = false := by unfold seeB; rw [hg, decide_eq_false (by omega)]; rfl
      have e2 : seeH t h = h := by unfold seeH; rw [e1]; rfl
      rw [e1, e2]
      refine (rsee_low g n h o t m w hB hc (Lib.hid (fun w => by have := good15 t m w; rwa [hg] at this))).mono ?_
      rintro e w' ⟨rfl, hb⟩
      exact ⟨rfl, H.grow hb⟩
    · have e1 : seeB t h = true := by unfold seeB; rw [hg, decide_eq_true (by omega)]; rfl
      have e2 : seeH t h = t := by unfold seeH; rw [e1]; rfl
      rw [e1, e2]
      refine (rsee_yes g n h o t m w hB hc (Lib.hid (fun w => by have := good15 t m w; rwa [hg] at this))).mono ?_
      rintro e w' ⟨rfl, hgr, hc2⟩
      exact ⟨rfl, H.turn hgr hc2⟩
def isE (h : Int) : Int := if h = 36028797018963967 then 12 else 0
def isT (h o raw : Int) : Int := if h = 36028797018963967 then 0 else mx (rdT h o raw) (h + 1)
def isN (n h : Int) : Int := if h = 36028797018963967 then 0 else n
def isH (h o raw : Int) : Int := if h = 36028797018963967 then h else mx (rdT h o raw) (h + 1)
structure Inv (h o : Int) : Prop where
  h0 : -1 ≤ h
  h1 : h ≤ 36028797018963967
  o0 : -1099511627776 ≤ o
  o1 : o ≤ 1099511627776
theorem rd_max (h o raw : Int) (i : Inv h o) : rdT h o raw ≤ 36028797018963967 := by
  obtain ⟨a, b, c, d⟩ := i
  unfold rdT
  have b1 := mn_le (mx (mn (mx raw (-1099511627776)) 36029896530591743 + o) 0) 36028797018963967
  have b2 := mx_le (mn (mx (mn (mx raw (-1099511627776)) 36029896530591743 + o) 0) 36028797018963967) h
  omega
theorem isH_inv (h o raw : Int) (i : Inv h o) : Inv (isH h o raw) o := by
  have hr := rd_max h o raw i
  obtain ⟨a, b, c, d⟩ := i
  unfold isH
  split
  · exact ⟨a, b, c, d⟩
  · have b2 := mx_le (rdT h o raw) (h + 1)
    exact ⟨by omega, by omega, c, d⟩
theorem seeH_inv (h o t : Int) (i : Inv h o) : Inv (seeH t h) o := by
  obtain ⟨a, b, c, d⟩ := i
  unfold seeH
  split
  · rename_i hs
    unfold seeB goodI at hs
    simp only [Bool.and_eq_true, decide_eq_true_eq] at hs
    exact ⟨by omega, by omega, c, d⟩
  · exact ⟨a, b, c, d⟩
theorem cissue_calls (g : Nat) (n h o raw : Int) (w0 w : World) (F : Hp) (i : Inv h o) (H : Holds w0 ((g, ckO n h o) :: F) w) : Calls Try.prog 11 #[.pointer (some ⟨g, 0, none⟩), .int .i64 raw] w fun e w' => e = .returned (.tuple #[.agg #[.int .i64 (isT h o raw), .int .u8 (isN n h)], .int .i64 (isE h)]) ∧ Holds w0 ((g, ckO n (isH h o raw) o) :: F) w' := by
  have hB : IsClk w g n h o := H.get
  unfold isT isN isE isH
  by_cases hm : h = 36028797018963967
  · subst hm
    rw [if_pos rfl, if_pos rfl, if_pos rfl, if_pos rfl]
    refine (issue_spent g n o raw w hB).mono ?_
    rintro e w' ⟨rfl, hg⟩
    exact ⟨rfl, H.grow (below_of_none hg)⟩
  · rw [if_neg hm, if_neg hm, if_neg hm, if_neg hm]
    have h1 := i.h1
    refine (issue_ok g n h o raw w hB ⟨i.o0, i.o1⟩ i.h0 (by omega)).mono ?_
    rintro e w' ⟨rfl, hg, hc⟩
    exact ⟨rfl, H.turn hg hc⟩
theorem rissue_calls (g : Nat) (n h o raw : Int) (w0 w : World) (F : Hp) (i : Inv h o) (H : Holds w0 ((g, rkO n h o) :: F) w) : Calls Try.prog 18 #[.pointer (some ⟨g, 0, none⟩), .int .i64 raw] w fun e w' => e = .returned (.tuple #[.agg #[.int .i64 (isT h o raw), .int .u8 (isN n h)], .int .i64 (isE h)]) ∧ Holds w0 ((g, rkO n (isH h o raw) o) :: F) w' := by
  unfold isT isN isE isH
  by_cases hm : h = 36028797018963967
  · subst hm
    rw [if_pos rfl, if_pos rfl, if_pos rfl, if_pos rfl]
    exact rissue_spent g n o raw w0 w F H
  · rw [if_neg hm, if_neg hm, if_neg hm, if_neg hm]
    have h1 := i.h1
    exact rissue_ok g n h o raw w0 w F H ⟨i.o0, i.o1⟩ i.h0 (by omega)
def smI (l : List Int) (o : Int) : Int := if l.length = 0 ∨ 64 < l.length then o else mid l
theorem smI_inv (l : List Int) (h o : Int) (i : Inv h o) : Inv h (smI l o) := by
  unfold smI
  split
  · exact i
  · rename_i hn
    have := mid_in l (by omega)
    exact ⟨i.h0, i.h1, this.1, this.2⟩
theorem csample_calls (g : Nat) (n h o : Int) (A : Option Addr) (c : Nat) (zs : List Int) (w0 w : World) (F : Hp) (hr : Reads w A zs.length 1 (iv zs)) (H : Holds w0 ((g, ckO n h o) :: F) w) : Calls Try.prog 13 #[.pointer (some ⟨g, 0, none⟩), .slice A zs.length c] w fun e w' => e = .returned (.int .i64 (smI zs o)) ∧ Holds w0 ((g, ckO n h (smI zs o)) :: F) w' := by
  have hB : IsB w g #[.int .u8 n, .int .i64 h, .int .i64 o] 49 := H.get
  unfold smI
  by_cases hl : zs.length = 0 ∨ 64 < zs.length
  · rw [if_pos hl]
    refine (sample_no g n h o A zs.length c w hB hl).mono ?_
    rintro e w' ⟨rfl, hw⟩
    rw [hw]
    exact ⟨rfl, H⟩
  · rw [if_neg hl]
    cases A with
    | none => have := hr.2.1 rfl; omega
    | some ad =>
      refine (sample_ok g n h o c ad zs zs.length rfl w hB (by omega) (by omega) (fun j hj => ?_) (mid zs) (mid_is zs (by omega))).mono ?_
      · rw [List.getElem?_eq_getElem hj]
        exact hr.2.2 ad rfl j (.int .i64 zs[j]) (by unfold iv; rw [List.getElem?_map, List.getElem?_eq_getElem hj]; rfl)
      · rintro e w' ⟨rfl, hg, hc⟩
        exact ⟨rfl, H.turn hg hc⟩
theorem rsample_calls (g : Nat) (n h o : Int) (A : Option Addr) (c : Nat) (zs : List Int) (w0 w : World) (F : Hp) (hr : ∀ w', Holds w0 F w' → Reads w' A zs.length 1 (iv zs)) (H : Holds w0 ((g, rkO n h o) :: F) w) : Calls Try.prog 19 #[.pointer (some ⟨g, 0, none⟩), .slice A zs.length c] w fun e w' => e = .returned (.int .i64 (smI zs o)) ∧ Holds w0 ((g, rkO n h (smI zs o)) :: F) w' := by
  unfold smI
  by_cases hl : zs.length = 0 ∨ 64 < zs.length
  · rw [if_pos hl]
    refine (rsample_no g n h o A zs.length c w0 w F hl H).mono ?_
    rintro e w' ⟨rfl, hw⟩
    rw [hw]
    exact ⟨rfl, H⟩
  · rw [if_neg hl]
    exact rsample_ok g n h o A c zs w0 w F (by omega) (by omega) hr H
theorem offset_calls (g : Nat) (n h o : Int) (w : World) (H : IsB w g #[.int .u8 n, .int .i64 h, .int .i64 o] 49) : Calls Try.prog 17 #[.pointer (some ⟨g, 0, none⟩)] w fun e w' => e = .returned (.int .i64 o) ∧ w = w' := by
  have a2 := H.at 2
  simp at a2
  clear H
  go_enter Try.func17, Try.ntmps17
  go_wp2
  go_ret
  exact ⟨rfl, rfl⟩
end Go.Proofs.YtfebebjopjopcaaG
