/- Each stamp that a clock issues is above all that were issued or seen ahead of it: the plain law of DiscRises. Conditions: each theorem's own. -/
import Derived.Test.YtfebebjopjopcaaQRsx5
namespace Go.Proofs.Ytfebebjopjopcaa.QRs
open Go.RowKit Go.Proofs.YtfebebjopjopcaaW.PrintWords Go.Proofs.YtfebebjopjopcaaW.PrintLast
theorem w64 (x : Int) (h : -9223372036854775808 ≤ x ∧ x ≤ 9223372036854775807) : wrap64 x = x := by unfold wrap64; omega
def Inv (h o : Int) : Prop := -1 ≤ h ∧ h ≤ 36028797018963967 ∧ -1099511627776 ≤ o ∧ o ≤ 1099511627776
theorem rd_le (h o raw : Int) (hi : Inv h o) : YtfebebjopjopcaaG.rdT h o raw ≤ 36028797018963967 := by
  unfold YtfebebjopjopcaaG.rdT
  have h1 := YtfebebjopjopcaaG.mx_le (YtfebebjopjopcaaG.mn (YtfebebjopjopcaaG.mx (YtfebebjopjopcaaG.mn (YtfebebjopjopcaaG.mx raw (-1099511627776)) 36029896530591743 + o) 0) 36028797018963967) h
  have h2 := YtfebebjopjopcaaG.mn_le (YtfebebjopjopcaaG.mx (YtfebebjopjopcaaG.mn (YtfebebjopjopcaaG.mx raw (-1099511627776)) 36029896530591743 + o) 0) 36028797018963967
  have := hi.2.1
  omega
theorem mid_in (l : List Int) : -1099511627776 ≤ disc_Clock_Sample.mid l ∧ disc_Clock_Sample.mid l ≤ 1099511627776 := by
  unfold disc_Clock_Sample.mid
  omega
theorem read_ge (n h o raw : Int) : ∃ v, disc_Clock_Read.f n h o raw = some (v, n, h, o) ∧ h ≤ v := by
  refine ⟨_, rfl, ?_⟩
  generalize mn (mx (wrap64 ((mn (mx raw (-1099511627776)) 36029896530591743) + o)) 0) 36028797018963967 = z
  unfold mx
  split <;> omega
theorem sample_in (k : Nat) (h o : Int) (l : List Int) (hi : Inv h o) : ∃ o', disc_Clock_Sample.f k 1 h o l = some (o', 1, h, o') ∧ Inv h o' := by
  unfold disc_Clock_Sample.f
  split
  · exact ⟨o, rfl, hi⟩
  · exact ⟨_, rfl, hi.1, hi.2.1, mid_in l⟩
theorem rises_step (k : Nat) (l : List S40) (h o : Int) (i : Int) (hi : Inv h o) (h0 : 0 ≤ i) (hl : i < (l.length : Int)) :
    hourglasslaw7_DiscRises.l0 (k + 1) l h i 1 h o = some true ∨ ∃ h' o', Inv h' o' ∧ hourglasslaw7_DiscRises.l0 (k + 1) l h i 1 h o = hourglasslaw7_DiscRises.l0 k l h' (wrap64 (i + 1)) 1 h' o' := by
  rw [hourglasslaw7_DiscRises.l0.eq_def]
  simp only []
  rw [if_pos hl, if_pos h0]
  generalize rd_T40 l i = x
  generalize wrap64 (i + 1) = i'
  by_cases hop : x.f0 = 0
  · rw [if_pos hop]
    unfold disc_Clock_Issue.f
    rw [if_pos ⟨hi.2.2.1, hi.2.2.2, hi.1, hi.2.1⟩]
    by_cases hm : h = 36028797018963967
    · rw [if_pos hm, Option.bind_some]
      simp only []
      rw [if_pos trivial, if_pos hm]
      exact .inr ⟨h, o, hi, rfl⟩
    · rw [if_neg hm, Option.bind_some]
      have hr := rd_le h o x.f1 hi
      generalize YtfebebjopjopcaaG.rdT h o x.f1 = z at hr
      obtain ⟨t, ht⟩ : ∃ t, t = YtfebebjopjopcaaG.mx z (h + 1) := ⟨_, rfl⟩
      have hx := YtfebebjopjopcaaG.mx_le z (h + 1)
      rw [← ht] at hx ⊢
      obtain ⟨a1, a2, a3, a4⟩ := hi
      have ht1 : t ≤ 36028797018963967 := by omega
      obtain ⟨v, hv, hvt⟩ := read_ge 1 t o x.f1
      simp only []
      rw [if_neg (by omega), if_neg (by omega), if_pos trivial, if_neg (by omega), hv, Option.bind_some]
      simp only []
      rw [if_neg (by omega)]
      unfold disc_Clock_High.f
      rw [Option.bind_some]
      simp only []
      rw [if_pos trivial]
      exact .inr ⟨t, o, ⟨by omega, ht1, a3, a4⟩, rfl⟩
  · rw [if_neg hop]
    by_cases hop1 : x.f0 = 1
    · rw [if_pos hop1]
      by_cases hlen : (x.f2.length : Int) > 80
      · rw [if_pos hlen]
        exact .inl rfl
      · rw [if_neg hlen]
        obtain ⟨o', hs, hi'⟩ := sample_in k h o x.f2 hi
        obtain ⟨v, hv, hvt⟩ := read_ge 1 h o' x.f1
        rw [hs, Option.bind_some]
        simp only []
        rw [hv, Option.bind_some]
        simp only []
        rw [if_neg (by omega)]
        unfold disc_Clock_High.f
        rw [Option.bind_some]
        simp only []
        rw [if_pos trivial]
        exact .inr ⟨h, o', hi', rfl⟩
    · rw [if_neg hop1]
      obtain ⟨a1, a2, a3, a4⟩ := hi
      unfold disc_Clock_See.f hourglassref6_Good.f
      by_cases hg : 0 ≤ x.f3.f0 ∧ x.f3.f0 ≤ 36028797018963967 ∧ h < x.f3.f0
      · rw [if_pos hg, Option.bind_some, if_pos hg.1, Option.bind_some, decide_eq_true hg.2.1, if_pos rfl, if_pos hg.2.2]
        obtain ⟨v, hv, hvt⟩ := read_ge 1 x.f3.f0 o x.f1
        simp only []
        rw [hv, Option.bind_some]
        simp only []
        rw [if_neg (by omega)]
        unfold disc_Clock_High.f
        rw [Option.bind_some]
        simp only []
        rw [if_pos trivial]
        exact .inr ⟨_, o, ⟨by omega, hg.2.1, a3, a4⟩, rfl⟩
      · rw [if_neg hg, Option.bind_some]
        obtain ⟨v, hv, hvt⟩ := read_ge 1 h o x.f1
        obtain ⟨b, hb, hbt⟩ : ∃ b, (if x.f3.f0 ≥ 0 then some (decide (x.f3.f0 ≤ 36028797018963967)) else some false) = some b ∧ (b = true → ¬ x.f3.f0 > h) := by
          split
          · exact ⟨_, rfl, fun hb => by have := of_decide_eq_true hb; omega⟩
          · exact ⟨_, rfl, fun hb => by cases hb⟩
        rw [hb, Option.bind_some]
        simp only []
        rw [hv]
        unfold disc_Clock_High.f
        simp only [Option.bind_some]
        cases b with
        | true =>
          rw [if_pos rfl, if_neg (hbt rfl), if_neg (by omega)]
          exact .inr ⟨h, o, ⟨a1, a2, a3, a4⟩, if_pos trivial⟩
        | false =>
          rw [if_neg (by decide), if_neg (by omega)]
          exact .inr ⟨h, o, ⟨a1, a2, a3, a4⟩, if_pos trivial⟩
theorem rises_loop (l : List S40) (hl : l.length ≤ 60) : ∀ (j : Nat) (i : Nat) (h o : Int), i + j = l.length → Inv h o → hourglasslaw7_DiscRises.l0 (j + 1) l h i 1 h o = some true
  | 0, i, h, o, hij, hi => by
    rw [hourglasslaw7_DiscRises.l0.eq_def]
    simp only []
    rw [if_neg (by omega)]
  | j + 1, i, h, o, hij, hi => by
    rcases rises_step (j + 1) l h o i hi (by omega) (by omega) with hd | ⟨h', o', hi', he⟩
    · exact hd
    · rw [he, w64 _ (by omega)]
      exact rises_loop l hl j (i + 1) h' o' (by omega) hi'
theorem awake_yes : ∀ k, hourglasslaw7_awake.f k = some true := by
  intro k
  rfl
theorem rises (a0 : Int) (l : List S40) : hourglasslaw7_DiscRises.f 61 a0 l = some true := by
  unfold hourglasslaw7_DiscRises.f
  rw [awake_yes, Option.bind_some, if_pos rfl]
  split
  · rfl
  · split
    · rfl
    · split
      · rfl
      · rename_i h1 h2 h3
        unfold disc_New.f
        rw [if_neg h1, if_neg h2, Option.bind_some]
        have hle : l.length ≤ 60 := by omega
        have := rises_loop l hle l.length 0 a0 0 (by omega) ⟨by omega, by omega, by omega, by omega⟩
        exact at_rounds (g := fun k => hourglasslaw7_DiscRises.l0 k l a0 0 1 a0 0) (fun k => hourglasslaw7_DiscRises.mono_l k _ _ _ _ _ _) (k := l.length + 1) (by omega) this
end Go.Proofs.Ytfebebjopjopcaa.QRs
