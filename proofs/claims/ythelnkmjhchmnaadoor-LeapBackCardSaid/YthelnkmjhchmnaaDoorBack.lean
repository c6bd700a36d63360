/- LeapBack's walk. No condition. -/
import Derived.Test.YthelnkmjhchmnaaDoorAw
namespace Go.Proofs.YthelnkmjhchmnaaDoor.Tl
open Go.RowKit Go.Proofs.YthelnkmjhchmnaaDoor.QLeap Go.Proofs.YthelnkmjhchmnaaDoor.Cal Go.Proofs.YthelnkmjhchmnaaDoor.Pa Go.Proofs.YthelnkmjhchmnaaDoor.Nm
set_option linter.unusedVariables false
set_option linter.unusedSimpArgs false
theorem tai_cases (l : List S52) (d sec : Int) : taiv l d sec = (0, 1) ∨ taiv l d sec = (0, 4) ∨ (taiv l d sec).2 = 0 := by
  unfold taiv
  split
  · split
    · exact Or.inl rfl
    · exact Or.inr (Or.inr rfl)
  · exact Or.inr (Or.inl rfl)
set_option maxRecDepth 100000 in
set_option maxHeartbeats 8000000 in
theorem back_walk (s : ByteArray) (day sec on : Int) (w : World) : Calls Tryd.prog 3 #[.string s, .int .i64 day, .int .i64 sec, .int .i64 on] w fun e w' => e = .returned (.bool true) ∧ Below w.heap.size w w' := by
  have HAW := Lib.hid awake_calls
  by_cases c1 : (2000 : Int) < (s.size : Int)
  · go_enter Tryd.func3, Tryd.ntmps3
    go_wp2_with fail
    refine (HAW.out _).mono ?_
    rintro e w1 ⟨rfl, hb⟩
    have H1 := Lib.hid hb
    clear hb
    go_wp2_with fail
    go_ret
    exact ⟨rfl, H1.out⟩
  by_cases c2 : on < 0
  · go_enter Tryd.func3, Tryd.ntmps3
    go_wp2_with fail
    refine (HAW.out _).mono ?_
    rintro e w1 ⟨rfl, hb⟩
    have H1 := Lib.hid hb
    clear hb
    go_wp2_with fail
    go_ret
    exact ⟨rfl, H1.out⟩
  by_cases c3 : (1099511627776 : Int) < on
  · go_enter Tryd.func3, Tryd.ntmps3
    go_wp2_with fail
    refine (HAW.out _).mono ?_
    rintro e w1 ⟨rfl, hb⟩
    have H1 := Lib.hid hb
    clear hb
    go_wp2_with fail
    go_ret
    exact ⟨rfl, H1.out⟩
  have HPA := Lib.hid (fun w => parse_calls s w (by omega))
  have HOC := Lib.hid (fun (w : World) (e : Ending) (w' : World) (h : Out s w e w') => out_cases (by omega) h)
  go_enter Tryd.func3, Tryd.ntmps3
  go_wp2_with fail
  refine (HAW.out _).mono ?_
  rintro e w1 ⟨rfl, hb⟩
  have H1 := Lib.hid hb
  clear hb
  go_wp2_with fail
  refine (HPA.out w1).mono ?_
  intro e w2 hO
  rcases HOC.out w1 e w2 hO with ⟨n, l, hp, hn, rfl, hb⟩ | ⟨l, g, hp, rfl, hI, T, hb⟩
  · have H2 := Lib.hid (H1.out.trans (hb.mono H1.out.size))
    have hn' : (n == 0) = false := by rw [beq_eq_false_iff_ne]; exact hn
    clear hb hO hp
    go_wp2_with fail
    go_ret
    exact ⟨rfl, H2.out⟩
  have H2 := Lib.hid (H1.out.trans (hb.mono H1.out.size))
  have HI := Lib.hid hI
  have HT := Lib.hid T
  have H20 := Lib.hid (Below.refl w2.heap.size w2)
  have HTA := Lib.hid (fun d sec w hb => tai_calls hI T d sec w hb)
  have HLE := Lib.hid (fun d w hb => len_calls hI T d w hb)
  have HUT := Lib.hid (fun t w hb => utc_calls hI T t w hb)
  clear hO hp hI T hb
  go_wp2_with fail
  refine (HTA.out day sec _ H20.out).mono ?_
  rintro e w3 ⟨rfl, hb⟩
  have H3 := Lib.hid hb
  clear hb
  rcases tai_cases l day sec with h | h | h
  · rw [h]
    clear h
    go_wp2_with fail
    go_ret
    exact ⟨rfl, H2.out.trans (H3.out.mono H2.out.size)⟩
  · rw [h]
    clear h
    go_wp2_with fail
    go_ret
    exact ⟨rfl, H2.out.trans (H3.out.mono H2.out.size)⟩
  rw [h]
  obtain ⟨hh, ht, hk, h0, h1⟩ := hit_tai h
  obtain ⟨t, htt⟩ : ∃ t, t = (taiv l day sec).1 := ⟨_, rfl⟩
  rw [← htt] at hh ht
  rw [← htt]
  have hbd : -1000000000000 ≤ t ∧ t ≤ 1000000000000 := by have := at_in HT.out day; have hr := (kn_iff.mp hk).1; have := len_in HT.out day; unfold beg at ht; omega
  have e1 : utcv l t = (day, sec, 0) := by rw [utc_yes HT.out hh, ht]; congr 2; omega
  have HE1 := Lib.hid e1
  have HER := Lib.hid (utc_err l (t + on))
  have HON := Lib.hid (show utcv l (t + on) = (0, 0, 4) → 0 < on ∧ 253401696000 < t + on from by
    intro hu
    refine ⟨?_, ?_⟩
    · by_cases h2 : on = 0
      · rw [h2, Int.add_zero, e1] at hu
        injection hu with _ hu
        injection hu with _ hu
        cases hu
      · omega
    · by_cases h2 : 253401696000 < t + on
      · exact h2
      · exfalso
        have hr := kn_iff.mp hk
        have hke : kn l 2932896 = true := kn_iff.mpr ⟨by omega, by omega⟩
        have a2 := at_in HT.out 2932896
        have l2 := len_in HT.out 2932896
        obtain ⟨d, hd⟩ := cover HT.out (2932896 - day).toNat day 2932896 (t + on) (by omega) hk hke (by omega) (by unfold beg; omega)
        rw [utc_yes HT.out hd] at hu
        injection hu with _ hu
        injection hu with _ hu
        cases hu)
  have HSO := Lib.hid (fun (h : (utcv l (t + on)).2.2 = 0) => utc_some h)
  clear h hh ht hk h0 h1 htt e1
  have w1_ : wrap64 (t + on) = t + on := w64 _ (by omega) (by omega)
  go_wp2_with fail
  refine (HUT.out t _ H3.out).mono ?_
  rintro e w4 ⟨rfl, hb⟩
  have H4 := Lib.hid hb
  clear hb
  rw [HE1.out]
  go_wp2_with fail
  refine (HUT.out (t + on) _ H4.out).mono ?_
  rintro e w5 ⟨rfl, hb⟩
  have H5 := Lib.hid hb
  clear hb
  rcases HER.out with hu | hu
  · obtain ⟨hd, hs⟩ := HSO.out hu
    obtain ⟨d, hdd⟩ : ∃ d, d = (utcv l (t + on)).1 := ⟨_, rfl⟩
    obtain ⟨q, hq⟩ : ∃ q, q = (utcv l (t + on)).2.1 := ⟨_, rfl⟩
    rw [← hdd] at hd hs
    rw [← hq] at hs
    rw [hu, ← hdd, ← hq]
    have HQ := Lib.hid (show taiv l d q = (t + on, 0) by rw [hs]; exact tai_hit hd)
    clear hu hd hs hdd hq
    go_wp2_with fail
    refine (HTA.out d q _ H5.out).mono ?_
    rintro e w6 ⟨rfl, hb⟩
    have H6 := Lib.hid hb
    clear hb
    rw [HQ.out]
    go_wp2_with fail
    go_ret
    exact ⟨rfl, H2.out.trans (H6.out.mono H2.out.size)⟩
  · obtain ⟨o1, o2⟩ := HON.out hu
    rw [hu]
    clear hu
    go_wp2_with fail
    go_ret
    exact ⟨rfl, H2.out.trans (H5.out.mono H2.out.size)⟩
end Go.Proofs.YthelnkmjhchmnaaDoor.Tl
