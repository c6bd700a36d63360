/- LeapRises's walk. No condition. -/
import Derived.Test.YthelnkmjhchmnaaDoorAw
namespace Go.Proofs.YthelnkmjhchmnaaDoor.Tl
open Go.RowKit Go.Proofs.YthelnkmjhchmnaaDoor.QLeap Go.Proofs.YthelnkmjhchmnaaDoor.Cal Go.Proofs.YthelnkmjhchmnaaDoor.Pa Go.Proofs.YthelnkmjhchmnaaDoor.Nm
set_option linter.unusedVariables false
set_option linter.unusedSimpArgs false
theorem tai_cases (l : List S52) (d sec : Int) : taiv l d sec = (0, 1) ∨ taiv l d sec = (0, 4) ∨ (taiv l d sec).2 = 0 := by
  unfold taiv
  split
  · split
    · exact Or.inl rfl
    · exact Or.inr (Or.inr rfl)
  · exact Or.inr (Or.inl rfl)
set_option maxRecDepth 100000 in
set_option maxHeartbeats 8000000 in
theorem rises_walk (s : ByteArray) (a x b y : Int) (w : World) : Calls Tryd.prog 4 #[.string s, .int .i64 a, .int .i64 x, .int .i64 b, .int .i64 y] w fun e w' => e = .returned (.bool true) ∧ Below w.heap.size w w' := by
  have HAW := Lib.hid awake_calls
  by_cases c1 : (2000 : Int) < (s.size : Int)
  · go_enter Tryd.func4, Tryd.ntmps4
    go_wp2_with fail
    refine (HAW.out _).mono ?_
    rintro e w1 ⟨rfl, hb⟩
    have H1 := Lib.hid hb
    clear hb
    go_wp2_with fail
    go_ret
    exact ⟨rfl, H1.out⟩
  have HPA := Lib.hid (fun w => parse_calls s w (by omega))
  have HOC := Lib.hid (fun (w : World) (e : Ending) (w' : World) (h : Out s w e w') => out_cases (by omega) h)
  go_enter Tryd.func4, Tryd.ntmps4
  go_wp2_with fail
  refine (HAW.out _).mono ?_
  rintro e w1 ⟨rfl, hb⟩
  have H1 := Lib.hid hb
  clear hb
  go_wp2_with fail
  refine (HPA.out w1).mono ?_
  intro e w2 hO
  rcases HOC.out w1 e w2 hO with ⟨n, l, hp, hn, rfl, hb⟩ | ⟨l, g, hp, rfl, hI, T, hb⟩
  · have H2 := Lib.hid (H1.out.trans (hb.mono H1.out.size))
    have hn' : (n == 0) = false := by rw [beq_eq_false_iff_ne]; exact hn
    clear hb hO hp
    go_wp2_with fail
    go_ret
    exact ⟨rfl, H2.out⟩
  have H2 := Lib.hid (H1.out.trans (hb.mono H1.out.size))
  have HI := Lib.hid hI
  have HT := Lib.hid T
  have H20 := Lib.hid (Below.refl w2.heap.size w2)
  have HTA := Lib.hid (fun d sec w hb => tai_calls hI T d sec w hb)
  have HLE := Lib.hid (fun d w hb => len_calls hI T d w hb)
  have HUT := Lib.hid (fun t w hb => utc_calls hI T t w hb)
  clear hO hp hI T hb
  go_wp2_with fail
  refine (HTA.out a x _ H20.out).mono ?_
  rintro e w3 ⟨rfl, hb⟩
  have H3 := Lib.hid hb
  clear hb
  go_wp2_with fail
  refine (HTA.out b y _ H3.out).mono ?_
  rintro e w4 ⟨rfl, hb⟩
  have H4 := Lib.hid hb
  clear hb
  rcases tai_cases l a x with h | h | h
  · rw [h]
    clear h
    go_wp2_with fail
    go_ret
    exact ⟨rfl, H2.out.trans (H4.out.mono H2.out.size)⟩
  · rw [h]
    clear h
    go_wp2_with fail
    go_ret
    exact ⟨rfl, H2.out.trans (H4.out.mono H2.out.size)⟩
  rcases tai_cases l b y with h2 | h2 | h2
  · rw [h2, h]
    clear h h2
    go_wp2_with fail
    go_ret
    exact ⟨rfl, H2.out.trans (H4.out.mono H2.out.size)⟩
  · rw [h2, h]
    clear h h2
    go_wp2_with fail
    go_ret
    exact ⟨rfl, H2.out.trans (H4.out.mono H2.out.size)⟩
  rw [h, h2]
  obtain ⟨_, hp, ka, hx0, hx1⟩ := hit_tai h
  obtain ⟨_, hq, kb, hy0, hy1⟩ := hit_tai h2
  obtain ⟨p, hpp⟩ : ∃ p, p = (taiv l a x).1 := ⟨_, rfl⟩
  obtain ⟨q, hqq⟩ : ∃ q, q = (taiv l b y).1 := ⟨_, rfl⟩
  rw [← hpp, ← hqq]
  rw [← hpp] at hp
  rw [← hqq] at hq
  clear hpp hqq h h2
  have HR := Lib.hid (show (a < b → p < q) ∧ (b < a → q < p) ∧ (a = b → (p < q ↔ x < y)) from by
    refine ⟨fun h => ?_, fun h => ?_, fun h => ?_⟩
    · have := beg_lt HT.out h ka kb; omega
    · have := beg_lt HT.out h kb ka; omega
    · subst h; omega)
  clear hp hq ka kb hx0 hx1 hy0 hy1
  rcases Int.lt_trichotomy a b with hab | hab | hab
  · have hpq := HR.out.1 hab
    go_wp2_with fail
    go_ret
    exact ⟨rfl, H2.out.trans (H4.out.mono H2.out.size)⟩
  · subst hab
    by_cases hxy : x < y
    · have hpq := (HR.out.2.2 rfl).mpr hxy
      go_wp2_with fail
      go_ret
      exact ⟨(by first | rfl | exact congrArg (fun b => Ending.returned (.bool b)) (show (decide (p < q) == decide (x < y)) = true by rw [beq_iff_eq, decide_eq_decide]; omega) | exact congrArg (fun b => Ending.returned (.bool b)) (show (decide (p < q) == decide (a < b)) = true by rw [beq_iff_eq, decide_eq_decide]; omega)), H2.out.trans (H4.out.mono H2.out.size)⟩
    · have hpq : ¬ p < q := fun h => hxy ((HR.out.2.2 rfl).mp h)
      go_wp2_with fail
      go_ret
      exact ⟨(by first | rfl | exact congrArg (fun b => Ending.returned (.bool b)) (show (decide (p < q) == decide (x < y)) = true by rw [beq_iff_eq, decide_eq_decide]; omega) | exact congrArg (fun b => Ending.returned (.bool b)) (show (decide (p < q) == decide (a < b)) = true by rw [beq_iff_eq, decide_eq_decide]; omega)), H2.out.trans (H4.out.mono H2.out.size)⟩
  · have hpq : ¬ p < q := by have := HR.out.2.1 hab; omega
    have hab1 : ¬ a < b := by omega
    have hab2 : (a == b) = false := by rw [beq_eq_false_iff_ne]; omega
    go_wp2_with fail
    go_ret
    exact ⟨(by first | rfl | exact congrArg (fun b => Ending.returned (.bool b)) (show (decide (p < q) == decide (x < y)) = true by rw [beq_iff_eq, decide_eq_decide]; omega) | exact congrArg (fun b => Ending.returned (.bool b)) (show (decide (p < q) == decide (a < b)) = true by rw [beq_iff_eq, decide_eq_decide]; omega)), H2.out.trans (H4.out.mono H2.out.size)⟩
end Go.Proofs.YthelnkmjhchmnaaDoor.Tl
