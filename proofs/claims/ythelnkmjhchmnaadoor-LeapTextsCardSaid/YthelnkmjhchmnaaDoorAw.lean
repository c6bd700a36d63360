/- LeapXs' awake: it answers true. No condition. -/
import Derived.Test.YthelnkmjhchmnaaDoorTw
import Derived.Test.YthelnkmjhchmnaaDoorQLeapx16
namespace Go.Proofs.YthelnkmjhchmnaaDoor.Tl
open Go.RowKit Go.Proofs.YthelnkmjhchmnaaDoor.QLeap Go.Proofs.YthelnkmjhchmnaaDoor.Cal Go.Proofs.YthelnkmjhchmnaaDoor.Pa Go.Proofs.YthelnkmjhchmnaaDoor.Nm
set_option linter.unusedVariables false
set_option linter.unusedSimpArgs false
def someB : ByteArray := ⟨#[50, 48, 49, 54, 45, 48, 55, 45, 48, 49, 32, 51, 54, 10, 50, 48, 49, 55, 45, 48, 49, 45, 48, 49, 32, 51, 55, 10]⟩
def someL : List S52 := [⟨16983, 36⟩, ⟨17167, 37⟩]
theorem parse_some : parse someB = (0, someL) := by kernel_rfl
theorem clock_some : leap_Table_Clock.f 120 someB someL 1483228836 = some (⟨#[50, 48, 49, 54, 45, 49, 50, 45, 51, 49, 84, 50, 51, 58, 53, 57, 58, 54, 48, 90]⟩, someB) := by kernel_rfl
theorem tai_some : taiv someL 17166 86400 = (1483228836, 0) ∧ taiv someL 17167 0 = (1483228837, 0) ∧ kn someL 17166 = true ∧ lenv someL 17166 = 86401 := by decide
theorem text_calls {W1 : World} {g : Nat} {s : ByteArray} {l : List S52} (hI : IsS50 W1 W1 g s l) (w : World) (hb : Below W1.heap.size W1 w) : Calls Tryd.prog 19 #[.pointer (some ⟨g, 0, none⟩)] w fun e w' => e = .returned (.string s) ∧ Below W1.heap.size W1 w' :=
  (leap_Table_Text.calls g s l s s W1 w (hI.below hb) hb rfl).mono fun e w' h => ⟨h.1, h.2.2.1⟩
theorem some_calls (w : World) : Calls Tryd.prog 18 #[] w fun e w' => e = .returned (.string someB) ∧ Below w.heap.size w w' := by
  go_enter Tryd.func18, Tryd.ntmps18
  go_wp2_with fail
  go_ret
  exact ⟨rfl, Below.refl _ _⟩
set_option maxRecDepth 100000 in
set_option maxHeartbeats 4000000 in
theorem awake_calls (w : World) : Calls Tryd.prog 9 #[] w fun e w' => e = .returned (.bool true) ∧ Below w.heap.size w w' := by
  have HS := Lib.hid some_calls
  obtain ⟨B, hB⟩ : ∃ B, B = someB := ⟨_, rfl⟩
  have HPA := Lib.hid (fun w => parse_calls someB w (by decide))
  have HOC := Lib.hid (fun (w : World) (e : Ending) (w' : World) (h : Out someB w e w') => out_cases (by decide) h)
  have HPS := Lib.hid parse_some
  have HCL := Lib.hid clock_some
  obtain ⟨t0, t1, t2, t3⟩ := tai_some
  rw [← hB] at HS HPA HOC HPS HCL
  clear hB
  go_enter Tryd.func9, Tryd.ntmps9
  go_wp2_with fail
  refine (HS.out _).mono ?_
  rintro e w1 ⟨rfl, hb⟩
  have H1 := Lib.hid hb
  clear hb
  go_wp2_with fail
  refine (HPA.out w1).mono ?_
  intro e w2 hO
  rcases HOC.out w1 e w2 hO with ⟨n, l, hp, hn, _⟩ | ⟨l, g, hp, rfl, hI, T, hb⟩
  · rw [HPS.out] at hp
    injection hp with h1 h2
    exact absurd h1.symm hn
  obtain rfl : l = someL := by rw [HPS.out] at hp; injection hp with h1 h2; exact h2.symm
  have H2 := Lib.hid (H1.out.trans (hb.mono H1.out.size))
  have HI := Lib.hid hI
  have HT := Lib.hid T
  have H20 := Lib.hid (Below.refl w2.heap.size w2)
  have HL := Lib.hid (fun w hb => len_calls hI T 17166 w hb)
  rw [if_pos t2, if_pos t2, t3] at HL
  have HT1 := Lib.hid (fun w hb => tai_calls hI T 17166 86400 w hb)
  have HT2 := Lib.hid (fun w hb => tai_calls hI T 17167 0 w hb)
  rw [t0] at HT1
  rw [t1] at HT2
  have HC := Lib.hid (fun w hb => (leap_Table_Clock.calls 120 g B someL 1483228836 _ _ w2 w (hI.below hb) hb HCL.out).mono fun e w' h => (⟨h.1, h.2.2.1⟩ : e = _ ∧ Below w2.heap.size w2 w'))
  have HX := Lib.hid (fun w hb => text_calls hI w hb)
  clear hO hp hI T hb t0 t1 t2 t3
  go_wp2_with fail
  refine (HL.out _ H20.out).mono ?_
  rintro e w3 ⟨rfl, hb⟩
  have H3 := Lib.hid hb
  clear hb
  go_wp2_with fail
  refine (HT1.out _ H3.out).mono ?_
  rintro e w4 ⟨rfl, hb⟩
  have H4 := Lib.hid hb
  clear hb
  go_wp2_with fail
  refine (HT2.out _ H4.out).mono ?_
  rintro e w5 ⟨rfl, hb⟩
  have H5 := Lib.hid hb
  clear hb
  go_wp2_with fail
  refine (HC.out _ H5.out).mono ?_
  rintro e w6 ⟨rfl, hb⟩
  have H6 := Lib.hid hb
  clear hb
  go_wp2_with fail
  refine (HX.out _ H6.out).mono ?_
  rintro e w7 ⟨rfl, hb⟩
  have H7 := Lib.hid (H2.out.trans (hb.mono H2.out.size))
  clear hb
  go_wp2_with fail
  refine (HS.out _).mono ?_
  rintro e w8 ⟨rfl, hb⟩
  have H8 := Lib.hid (H7.out.trans (hb.mono H7.out.size))
  clear hb
  go_wp2_with fail
  go_ret
  exact ⟨rfl, H8.out⟩
end Go.Proofs.YthelnkmjhchmnaaDoor.Tl
