/- LeapSteps's walk. No condition. -/
import Derived.Test.YthelnkmjhchmnaaDoorAw
namespace Go.Proofs.YthelnkmjhchmnaaDoor.Tl
open Go.RowKit Go.Proofs.YthelnkmjhchmnaaDoor.QLeap Go.Proofs.YthelnkmjhchmnaaDoor.Cal Go.Proofs.YthelnkmjhchmnaaDoor.Pa Go.Proofs.YthelnkmjhchmnaaDoor.Nm
set_option linter.unusedVariables false
set_option linter.unusedSimpArgs false
theorem tai_cases (l : List S52) (d sec : Int) : taiv l d sec = (0, 1) ∨ taiv l d sec = (0, 4) ∨ (taiv l d sec).2 = 0 := by
  unfold taiv
  split
  · split
    · exact Or.inl rfl
    · exact Or.inr (Or.inr rfl)
  · exact Or.inr (Or.inl rfl)
set_option maxRecDepth 100000 in
set_option maxHeartbeats 8000000 in
theorem steps_walk (s : ByteArray) (d : Int) (w : World) : Calls Tryd.prog 5 #[.string s, .int .i64 d] w fun e w' => e = .returned (.bool true) ∧ Below w.heap.size w w' := by
  have HAW := Lib.hid awake_calls
  by_cases c1 : (2000 : Int) < (s.size : Int)
  · go_enter Tryd.func5, Tryd.ntmps5
    go_wp2_with fail
    refine (HAW.out _).mono ?_
    rintro e w1 ⟨rfl, hb⟩
    have H1 := Lib.hid hb
    clear hb
    go_wp2_with fail
    go_ret
    exact ⟨rfl, H1.out⟩
  have HPA := Lib.hid (fun w => parse_calls s w (by omega))
  have HOC := Lib.hid (fun (w : World) (e : Ending) (w' : World) (h : Out s w e w') => out_cases (by omega) h)
  go_enter Tryd.func5, Tryd.ntmps5
  go_wp2_with fail
  refine (HAW.out _).mono ?_
  rintro e w1 ⟨rfl, hb⟩
  have H1 := Lib.hid hb
  clear hb
  go_wp2_with fail
  refine (HPA.out w1).mono ?_
  intro e w2 hO
  rcases HOC.out w1 e w2 hO with ⟨n, l, hp, hn, rfl, hb⟩ | ⟨l, g, hp, rfl, hI, T, hb⟩
  · have H2 := Lib.hid (H1.out.trans (hb.mono H1.out.size))
    have hn' : (n == 0) = false := by rw [beq_eq_false_iff_ne]; exact hn
    clear hb hO hp
    go_wp2_with fail
    go_ret
    exact ⟨rfl, H2.out⟩
  have H2 := Lib.hid (H1.out.trans (hb.mono H1.out.size))
  have HI := Lib.hid hI
  have HT := Lib.hid T
  have H20 := Lib.hid (Below.refl w2.heap.size w2)
  have HTA := Lib.hid (fun d sec w hb => tai_calls hI T d sec w hb)
  have HLE := Lib.hid (fun d w hb => len_calls hI T d w hb)
  have HUT := Lib.hid (fun t w hb => utc_calls hI T t w hb)
  clear hO hp hI T hb
  go_wp2_with fail
  refine (HLE.out d _ H20.out).mono ?_
  rintro e w3 ⟨rfl, hb⟩
  have H3 := Lib.hid hb
  clear hb
  by_cases hk : kn l d = true
  · rw [if_pos hk, if_pos hk]
    have hr := (kn_iff.mp hk).1
    have hl := len_in HT.out d
    have e1 : taiv l d 0 = (beg l d, 0) := by unfold taiv; rw [if_pos hk, if_neg (by omega)]; simp
    have e2 : taiv l d (lenv l d - 1) = (beg l d + (lenv l d - 1), 0) := by unfold taiv; rw [if_pos hk, if_neg (by omega)]
    have e3 : taiv l d (lenv l d) = (0, 1) := by unfold taiv; rw [if_pos hk, if_pos (Or.inr (Int.le_refl _))]
    have hbd : -1000000000000 ≤ beg l d ∧ beg l d ≤ 1000000000000 := by have := at_in HT.out d; unfold beg; omega
    have hst : kn l (d + 1) = true → beg l (d + 1) = beg l d + lenv l d := fun h => (beg_step h).symm
    have HK1 := Lib.hid hk
    have HE1 := Lib.hid e1; have HE2 := Lib.hid e2; have HE3 := Lib.hid e3; have HST := Lib.hid hst
    obtain ⟨n, hn⟩ : ∃ n, n = lenv l d := ⟨_, rfl⟩
    rw [← hn] at HE2 HE3 HST hl
    rw [← hn]
    obtain ⟨p, hp⟩ : ∃ p, p = beg l d := ⟨_, rfl⟩
    rw [← hp] at HE1 HE2 HST hbd
    clear hk e1 e2 e3 hst hn hp
    have w1_ : wrap64 (n - 1) = n - 1 := w64 _ (by omega) (by omega)
    have w2_ : wrap64 (d + 1) = d + 1 := w64 _ (by omega) (by omega)
    go_wp2_with fail
    refine (HTA.out d 0 _ H3.out).mono ?_
    rintro e w4 ⟨rfl, hb⟩
    have H4 := Lib.hid hb
    clear hb
    rw [HE1.out]
    go_wp2_with fail
    refine (HTA.out d (n - 1) _ H4.out).mono ?_
    rintro e w5 ⟨rfl, hb⟩
    have H5 := Lib.hid hb
    clear hb
    rw [HE2.out]
    go_wp2_with fail
    refine (HTA.out (d + 1) 0 _ H5.out).mono ?_
    rintro e w6 ⟨rfl, hb⟩
    have H6 := Lib.hid hb
    clear hb
    go_wp2_with fail
    refine (HTA.out d n _ H6.out).mono ?_
    rintro e w7 ⟨rfl, hb⟩
    have H7 := Lib.hid hb
    clear hb
    rw [HE3.out]
    have w3_ : wrap64 (p + (n - 1) - p) = n - 1 := by rw [show p + (n - 1) - p = n - 1 by omega]; exact w64 _ (by omega) (by omega)
    rcases tai_cases l (d + 1) 0 with h | h | h
    · rw [h]
      clear h
      go_wp2_with fail
      go_ret
      exact ⟨rfl, H2.out.trans (H7.out.mono H2.out.size)⟩
    · rw [h]
      clear h
      go_wp2_with fail
      go_ret
      exact ⟨rfl, H2.out.trans (H7.out.mono H2.out.size)⟩
    · obtain ⟨_, hq, kb, _, _⟩ := hit_tai h
      rw [h, hq, HST.out kb, Int.add_zero]
      have w4_ : wrap64 (p + n - p) = n := by rw [show p + n - p = n by omega]; exact w64 _ (by omega) (by omega)
      clear h hq kb
      go_wp2_with fail
      go_ret
      exact ⟨congrArg (fun b => Ending.returned (.bool b)) (show (p + n - p == n) = true by rw [beq_iff_eq]; omega), H2.out.trans (H7.out.mono H2.out.size)⟩
  · rw [if_neg hk, if_neg hk]
    clear hk
    go_wp2_with fail
    go_ret
    exact ⟨rfl, H2.out.trans (H3.out.mono H2.out.size)⟩
end Go.Proofs.YthelnkmjhchmnaaDoor.Tl
