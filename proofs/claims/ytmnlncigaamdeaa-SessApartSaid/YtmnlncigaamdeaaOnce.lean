/- Whatever is asked again, each request is new once, and is answered what it was answered first: the walk of SessOnce. Conditions: each theorem's own. -/
import Derived.Test.YtmnlncigaamdeaaAw
import Derived.Test.YtmnlncigaamdeaaActs
import Derived.LoopTactic
namespace Go.Proofs.Ytmnlncigaamdeaa
open Go.RowKit Go.Proofs.Ytmnlncigaamdeaa.Sp Go.Proofs.Ytmnlncigaamdeaa.K Go.Proofs.YtmnlncigaamdeaaW.PrintWords
set_option linter.unusedVariables false
set_option linter.unusedSimpArgs false
def xC (x : S31) : Array Value := #[.int .i64 x.f0, .int .i64 x.f1, .int .i64 x.f2, .string x.f3]
def xO (x : S31) : Obj := .cells (xC x) 31 (0, 0)
def what4 : ByteArray := ⟨#[119, 104, 97, 116]⟩
abbrev one (c : Cli) : SM := ⟨2, 1, [(1, c)]⟩
theorem ask_once (c : Cli) (num : Int) : (∃ e, e ≠ 0 ∧ ask (one c) 1 num what4 = ((0, es, e), one c)) ∨ (ask (one c) 1 num what4 = ((1, es, 0), one c)) ∨ (num = c.num ∧ ask (one c) 1 num what4 = ((2, c.reply, 0), one c)) ∨
    (c.num < num ∧ ask (one c) 1 num what4 = ((0, es, 0), one ⟨num, what4, es, true⟩)) := by
  have hf : (one c).find 1 = some (1, c) := rfl
  unfold ask
  rw [hf]
  simp only
  split
  · exact .inl ⟨1, by decide, rfl⟩
  · split
    · exact .inl ⟨10, by decide, rfl⟩
    · split
      · rename_i h
        unfold again
        split
        · split
          · exact .inr (.inl rfl)
          · exact .inr (.inr (.inl ⟨h, rfl⟩))
        · exact .inl ⟨1, by decide, rfl⟩
      · split
        · exact .inl ⟨8, by decide, rfl⟩
        · exact .inr (.inr (.inr ⟨by omega, rfl⟩))
theorem answer_once (c : Cli) (num : Int) (r : ByteArray) : (answer (one c) 1 num r = (10, one c)) ∨ (num = c.num ∧ answer (one c) 1 num r = (0, one ⟨c.num, c.what, r, false⟩)) := by
  have hf : (one c).find 1 = some (1, c) := rfl
  unfold answer
  rw [hf]
  simp only
  split
  · rename_i h
    exact .inr ⟨h.1, rfl⟩
  · exact .inl rfl
def RelO (w : World) (g n : Nat) (last reply i : Value) (wr : World) : Prop :=
  ∃ (k : Nat) (c : Cli) (h : Hp), k ≤ n ∧ i = .int .i64 k ∧ last = .int .i64 c.num ∧ reply = .string c.reply ∧ IsS g (one c) h ∧ Holds w h wr
set_option maxHeartbeats 2000000 in
set_option maxRecDepth 100000 in
theorem once_walk (A : Option Addr) (cap : Nat) (l : List S31) (w : World) (hcap : l.length ≤ cap) (hl : Kd.C k31 w A l.length l) (hP : ∀ x ∈ l, P31 x) :
    Calls Try.prog 3 #[.slice A l.length cap] w fun e w' => e = .returned (.bool true) ∧ Below w.heap.size w w' := by
  by_cases hn : (80 : Int) < (l.length : Int)
  · go_enter Try.func3, Try.ntmps3
    go_wp2_with (go_at_call 7; refine (awake_calls _).mono ?_; rintro e w' ⟨rfl, hb⟩)
    go_ret
    exact ⟨rfl, by assumption⟩
  go_enter Try.func3, Try.ntmps3
  go_wp2_with fail
  refine (awake_calls _).mono ?_
  rintro e wa ⟨rfl, hb⟩
  have HA : Hid (Holds w [] wa) := Lib.hid (Holds.of_below hb)
  clear hb
  go_wp2_with fail
  refine (new_calls 2 (by omega) w wa [] HA.out).mono ?_
  rintro e w1 ⟨g, rfl, h, hI, hH⟩
  have HI := Lib.hid hI; have HH := Lib.hid hH
  clear hI hH
  go_wp2_with fail
  refine (open_calls g _ h [] w w1 (by decide) (by decide) HI.out HH.out).mono ?_
  rintro e w2 ⟨he, h2, hI, hH⟩
  have q : opened ⟨2, 0, []⟩ = ((1, 0), one z0) := rfl
  rw [q] at he hI
  subst he
  have HI2 := Lib.hid hI; have HH2 := Lib.hid hH
  clear q hI hH HI HH
  go_wp2_with fail
  go_loopw [7, 8, 9] (fun last reply i wr => RelO w g l.length last reply i wr) (fun _ _ i _ => l.length - (intOf i).toNat)
  case atStart => exact ⟨0, z0, h2, by omega, rfl, rfl, rfl, HI2.out, by simpa using HH2.out⟩
  case round =>
    obtain ⟨k, c, h3, hk, rfl, rfl, rfl, hI3, hH3⟩ := hrel
    have HI3 := Lib.hid hI3; have HH3 := Lib.hid hH3
    clear hI3 hH3
    by_cases hlt : k < l.length
    · obtain ⟨ad, rfl, q0, q1, q2, q3⟩ := at_T31 (Kd.C_below hl HH3.out.below) (k : Int) (by omega) (by omega)
      have hx : rd_T31 l (k : Int) ∈ l := by
        unfold rd_T31
        simp [hlt]
      have hPx := hP _ hx
      generalize rd_T31 l (k : Int) = x at q0 q1 q2 q3 hx hPx
      rw [Int.toNat_natCast] at q0 q1 q2 q3
      obtain ⟨xo, xi, xn, xs⟩ := x
      simp only at q0 q1 q2 q3
      have HX := Lib.hid (((HH3.out.alloc (xO ⟨xo, xi, xn, xs⟩)).perm (k := h3 ++ [(wr.heap.size, xO ⟨xo, xi, xn, xs⟩)]) (by simpa using (List.perm_append_comm (l₁ := [(wr.heap.size, xO ⟨xo, xi, xn, xs⟩)]) (l₂ := h3)))))
      by_cases hs : 100 < (xs.size : Int)
      · go_wp2_with fail
        go_ret
        exact ⟨rfl, HX.out.below⟩
      by_cases hop : xo = 0
      · subst hop
        rcases ask_once c xn with ⟨er, her, hq⟩ | hq | ⟨hnum, hq⟩ | ⟨hnum, hq⟩
        · have her' : (er == 0) = false := by simpa using her
          go_wp2_with fail
          refine (ask_calls g _ h3 [(wr.heap.size, xO ⟨0, xi, xn, xs⟩)] 1 xn what4 w _ wf1 HI3.out HX.out).mono ?_
          rintro e w4 ⟨he, h4, hI, hH⟩
          rw [hq] at he hI
          simp only [ans] at he
          subst he
          have d2 : w4.cell? ⟨wr.heap.size, 2, none⟩ = some (.int .i64 xn) := hH.right.cell 2
          have HI4 := Lib.hid hI; have HH4 := Lib.hid hH
          clear hq hI hH
          go_wp2_with fail
          go_roundw
          case rel => exact ⟨k + 1, c, h4, by omega, by go_num, rfl, rfl, HI4.out, by simpa using HH4.out.left⟩
          case measure => simp [intOf]; omega
        · go_wp2_with fail
          refine (ask_calls g _ h3 [(wr.heap.size, xO ⟨0, xi, xn, xs⟩)] 1 xn what4 w _ wf1 HI3.out HX.out).mono ?_
          rintro e w4 ⟨he, h4, hI, hH⟩
          rw [hq] at he hI
          simp only [ans] at he
          subst he
          have d2 : w4.cell? ⟨wr.heap.size, 2, none⟩ = some (.int .i64 xn) := hH.right.cell 2
          have HI4 := Lib.hid hI; have HH4 := Lib.hid hH
          clear hq hI hH
          go_wp2_with fail
          go_roundw
          case rel => exact ⟨k + 1, c, h4, by omega, by go_num, rfl, rfl, HI4.out, by simpa using HH4.out.left⟩
          case measure => simp [intOf]; omega
        · subst hnum
          go_wp2_with fail
          refine (ask_calls g _ h3 [(wr.heap.size, xO ⟨0, xi, c.num, xs⟩)] 1 c.num what4 w _ wf1 HI3.out HX.out).mono ?_
          rintro e w4 ⟨he, h4, hI, hH⟩
          rw [hq] at he hI
          simp only [ans] at he
          subst he
          have d2 : w4.cell? ⟨wr.heap.size, 2, none⟩ = some (.int .i64 c.num) := hH.right.cell 2
          have HI4 := Lib.hid hI; have HH4 := Lib.hid hH
          clear hq hI hH
          go_wp2_with fail
          go_roundw
          case rel => exact ⟨k + 1, c, h4, by omega, by go_num, rfl, rfl, HI4.out, by simpa using HH4.out.left⟩
          case measure => simp [intOf]; omega
        · go_wp2_with fail
          refine (ask_calls g _ h3 [(wr.heap.size, xO ⟨0, xi, xn, xs⟩)] 1 xn what4 w _ wf1 HI3.out HX.out).mono ?_
          rintro e w4 ⟨he, h4, hI, hH⟩
          rw [hq] at he hI
          simp only [ans] at he
          subst he
          have d2 : w4.cell? ⟨wr.heap.size, 2, none⟩ = some (.int .i64 xn) := hH.right.cell 2
          have HI4 := Lib.hid hI; have HH4 := Lib.hid hH
          clear hq hI hH
          go_wp2_with fail
          go_roundw
          case rel => exact ⟨k + 1, ⟨xn, what4, es, true⟩, h4, by omega, by go_num, rfl, rfl, HI4.out, by simpa using HH4.out.left⟩
          case measure => simp [intOf]; omega
      · rcases answer_once c xn xs with hq | ⟨hnum, hq⟩
        · go_wp2_with fail
          refine (answer_calls g _ h3 [(wr.heap.size, xO ⟨xo, xi, xn, xs⟩)] 1 xn xs w _ wf1 HI3.out HX.out).mono ?_
          rintro e w4 ⟨he, h4, hI, hH⟩
          rw [hq] at he hI
          subst he
          have HI4 := Lib.hid hI; have HH4 := Lib.hid hH
          clear hq hI hH
          go_wp2_with fail
          go_roundw
          case rel => exact ⟨k + 1, c, h4, by omega, by go_num, rfl, rfl, HI4.out, by simpa using HH4.out.left⟩
          case measure => simp [intOf]; omega
        · subst hnum
          go_wp2_with fail
          refine (answer_calls g _ h3 [(wr.heap.size, xO ⟨xo, xi, c.num, xs⟩)] 1 c.num xs w _ wf1 HI3.out HX.out).mono ?_
          rintro e w4 ⟨he, h4, hI, hH⟩
          rw [hq] at he hI
          subst he
          have d2 : w4.cell? ⟨wr.heap.size, 2, none⟩ = some (.int .i64 c.num) := hH.right.cell 2
          have d3 : w4.cell? ⟨wr.heap.size, 3, none⟩ = some (.string xs) := hH.right.cell 3
          have HI4 := Lib.hid hI; have HH4 := Lib.hid hH
          clear hq hI hH
          go_wp2_with fail
          go_roundw
          case rel => exact ⟨k + 1, ⟨c.num, c.what, xs, false⟩, h4, by omega, by go_num, rfl, rfl, HI4.out, by simpa using HH4.out.left⟩
          case measure => simp [intOf]; omega
    · go_wp2
      go_ret
      exact ⟨rfl, HH3.out.below⟩
end Go.Proofs.Ytmnlncigaamdeaa
