/- What the document's own Good, Pack, Unpack, Cmp, Max of stamps do, for every stamp. No condition beyond the words' own bounds. -/
import Derived.Test.YtdmicehmmmpjcaaDoorAwake
namespace Go.Proofs.YtdmicehmmmpjcaaDoor
open Go.RowKit
set_option linter.unusedVariables false
set_option linter.unusedSimpArgs false
theorem rgood_calls (t n : Int) (w : World) :
    Calls Tryd.prog 18 #[.agg #[.int .i64 t, .int .u8 n]] w fun e w' => e = .returned (.bool (gd t)) ∧ Below w.heap.size w w' := by
  go_enter Tryd.func18, Tryd.ntmps18
  go_wp2
  all_goals go_ret
  all_goals exact ⟨by simp [gd]; omega, (Below.refl _ _).alloc (Nat.le_refl _) _⟩
theorem rpack_yes (t n : Int) (h : gd t = true) (hn : 0 ≤ n) (hn' : n ≤ 255) (w : World) :
    Calls Tryd.prog 16 #[.agg #[.int .i64 t, .int .u8 n]] w fun e w' => e = .returned (.tuple #[.int .u64 (t * 256 + n), .bool true]) ∧ Below w.heap.size w w' := by
  have hg := rgood_calls t n
  rw [h] at hg
  have HG := Lib.hid hg
  have ht : 0 ≤ t ∧ t ≤ 36028797018963967 := by simpa [gd] using h
  have hw : IntKind.u64.wrap n = n := wraps63 n hn (by omega)
  have I0 := Lib.hid (isSt_new w t n)
  clear hg h
  go_enter Tryd.func16, Tryd.ntmps16
  go_wp2_with fail
  refine (HG.out _).mono ?_
  rintro e w1 ⟨rfl, hb1⟩
  have c0 := (I0.out.to hb1 (by simp)).c0
  have c1 := (I0.out.to hb1 (by simp)).c1
  have HB := Lib.hid (((Below.refl w.heap.size w).alloc (Nat.le_refl _) _).trans (hb1.mono (by simp)))
  clear hb1
  go_wp2_with fail
  go_ret2
  exact ⟨rfl, HB.out⟩
theorem rpack_no (t n : Int) (h : gd t = false) (w : World) :
    Calls Tryd.prog 16 #[.agg #[.int .i64 t, .int .u8 n]] w fun e w' => e = .returned (.tuple #[.int .u64 0, .bool false]) ∧ Below w.heap.size w w' := by
  have hg := rgood_calls t n
  rw [h] at hg
  have HG := Lib.hid hg
  clear hg h
  go_enter Tryd.func16, Tryd.ntmps16
  go_wp2_with fail
  refine (HG.out _).mono ?_
  rintro e w1 ⟨rfl, hb1⟩
  have HB := Lib.hid hb1
  clear hb1
  go_wp2_with fail
  go_ret2
  exact ⟨rfl, ((Below.refl _ _).alloc (Nat.le_refl _) _).trans (HB.out.mono (by simp))⟩
theorem res17 (tmps : Array Value) (W : World) (t n : Int) (b : Bool) (g : Nat) (h2 : tmps.getD 2 undef = .pointer (some ⟨g, 0, none⟩)) (h3 : tmps.getD 3 undef = .bool b) (H : IsSt W g t n) :
    (results Tryd.f17 tmps).run Tryd.prog W = .ok (.tuple #[.agg (st2 t n), .bool b]) W := by
  rw [results_cell_tmp Tryd.results17, h2, h3]
  simp [asAddr, H.load, Result.andThen]
theorem res20 (tmps : Array Value) (W : World) (t n : Int) (g : Nat) (h4 : tmps.getD 4 undef = .pointer (some ⟨g, 0, none⟩)) (H : IsSt W g t n) : (results Tryd.f20 tmps).run Tryd.prog W = .ok (.agg (st2 t n)) W := by
  obtain ⟨d, h1, h2⟩ := und23
  exact results_cell_row Tryd.results20 tmps W g 23 (st2 t n) (0, 0) d h4 H h1 (by cases d <;> simp_all) info23
theorem runpack_yes (v : Int) (h0 : 0 ≤ v) (h1 : v < 9223372036854775808) (w : World) :
    Calls Tryd.prog 17 #[.int .u64 v] w fun e w' => e = .returned (.tuple #[.agg (st2 (v / 256) (v % 256)), .bool true]) ∧ Below w.heap.size w w' := by
  have I0 := Lib.hid (isSt_new w 0 0)
  have e1 : IntKind.u8.wrap (v % 256) = v % 256 := by rw [IntKind.wrap_u8]; omega
  go_enter Tryd.func17, Tryd.ntmps17
  go_wp2_with ((with_reducible refine stL (.tmp 2) (.tmp 13) _ (v / 256) (v % 256) 0 0 ?_ ?_ I0.out ?_); rfl; rfl)
  exact bodyPost_ret (v := .tuple #[.agg (st2 (v / 256) (v % 256)), .bool true]) (res17 _ _ _ _ _ _ rfl rfl (I0.out.put _ _)) rfl ⟨rfl, below_setRow ((Below.refl _ _).alloc (Nat.le_refl _) _) (Nat.le_refl _) _⟩
theorem runpack_no (v : Int) (h0 : 9223372036854775808 ≤ v) (h1 : v < 18446744073709551616) (w : World) :
    Calls Tryd.prog 17 #[.int .u64 v] w fun e w' => e = .returned (.tuple #[.agg (st2 0 0), .bool false]) ∧ Below w.heap.size w w' := by
  have I0 := Lib.hid (isSt_new w 0 0)
  go_enter Tryd.func17, Tryd.ntmps17
  go_wp2_with ((with_reducible refine stL (.tmp 2) (.tmp 6) _ 0 0 0 0 ?_ ?_ I0.out ?_); rfl; rfl)
  exact bodyPost_ret (v := .tuple #[.agg (st2 0 0), .bool false]) (res17 _ _ _ _ _ _ rfl rfl (I0.out.put _ _)) rfl ⟨rfl, below_setRow ((Below.refl _ _).alloc (Nat.le_refl _) _) (Nat.le_refl _) _⟩
theorem rcmp_calls (t n u k : Int) (w : World) :
    Calls Tryd.prog 19 #[.agg #[.int .i64 t, .int .u8 n], .agg #[.int .i64 u, .int .u8 k]] w fun e w' => e = .returned (.int .i64 (cs t n u k)) ∧ Below w.heap.size w w' := by
  have BA := Lib.hid (((Below.refl w.heap.size w).alloc (Nat.le_refl _) (.cells #[.int .i64 t, .int .u8 n] 23)).alloc (by simp) (.cells #[.int .i64 u, .int .u8 k] 23))
  by_cases h1 : t < u
  · rw [show cs t n u k = -1 by unfold cs c2; simp [if_pos h1]]
    go_enter Tryd.func19, Tryd.ntmps19
    go_wp2_with fail
    go_ret
    exact ⟨rfl, BA.out⟩
  · by_cases h2 : u < t
    · rw [show cs t n u k = 1 by unfold cs c2; simp [if_neg h1, if_pos h2]]
      have h3 : ¬ t = u := by omega
      go_enter Tryd.func19, Tryd.ntmps19
      go_wp2_with fail
      go_ret
      exact ⟨rfl, BA.out⟩
    · obtain rfl : t = u := by omega
      by_cases h3 : n < k
      · rw [show cs t n t k = -1 by unfold cs c2; simp [if_pos h3]]
        go_enter Tryd.func19, Tryd.ntmps19
        go_wp2_with fail
        go_ret
        exact ⟨rfl, BA.out⟩
      · by_cases h4 : k < n
        · rw [show cs t n t k = 1 by unfold cs c2; simp [if_neg h3, if_pos h4]]
          have h5 : ¬ n = k := by omega
          go_enter Tryd.func19, Tryd.ntmps19
          go_wp2_with fail
          go_ret
          exact ⟨rfl, BA.out⟩
        · obtain rfl : n = k := by omega
          rw [show cs t n t n = 0 by unfold cs c2; simp]
          go_enter Tryd.func19, Tryd.ntmps19
          go_wp2_with fail
          go_ret
          exact ⟨rfl, BA.out⟩
theorem rmax_calls (a m b n : Int) (w : World) :
    Calls Tryd.prog 20 #[.agg #[.int .i64 a, .int .u8 m], .agg #[.int .i64 b, .int .u8 n]] w fun e w' => e = .returned (if cs a m b n < 0 then .agg (st2 b n) else .agg (st2 a m)) ∧ Below w.heap.size w w' := by
  have HC := Lib.hid (fun w => rcmp_calls a m b n w)
  obtain ⟨z, hz⟩ : ∃ z, cs a m b n = z := ⟨_, rfl⟩
  rw [hz] at HC ⊢
  clear hz
  have I0 := Lib.hid (((isSt_new w a m).alloc (.cells #[.int .i64 b, .int .u8 n] 23)).alloc (.cells #[.int .i64 0, .int .u8 0] 23))
  have I1 := Lib.hid ((isSt_new (w.alloc (.cells #[.int .i64 a, .int .u8 m] 23)) b n).alloc (.cells #[.int .i64 0, .int .u8 0] 23))
  have I2 := Lib.hid (isSt_new ((w.alloc (.cells #[.int .i64 a, .int .u8 m] 23)).alloc (.cells #[.int .i64 b, .int .u8 n] 23)) 0 0)
  have BB := Lib.hid ((((Below.refl w.heap.size w).alloc (Nat.le_refl _) (.cells #[.int .i64 a, .int .u8 m] 23)).alloc (by simp) (.cells #[.int .i64 b, .int .u8 n] 23)).alloc (by simp; omega) (.cells #[.int .i64 0, .int .u8 0] 23))
  by_cases h : z < 0
  · rw [if_pos h]
    go_enter Tryd.func20, Tryd.ntmps20
    go_wp2_with fail
    refine (HC.out _).mono ?_
    rintro e w1 ⟨rfl, hb⟩
    have c0 := (I1.out.to hb (by simp)).c0
    have c1 := (I1.out.to hb (by simp)).c1
    have J2 := (I2.out.to hb (by simp))
    simp only [World.size_alloc] at c0 c1 J2
    have HJ := Lib.hid J2
    have HB := Lib.hid (BB.out.trans (hb.mono (by simp; omega)))
    clear hb J2
    go_wp2_with ((with_reducible refine stL (.tmp 4) (.tmp 10) _ b n 0 0 ?_ ?_ HJ.out ?_); rfl; rfl)
    exact bodyPost_ret (v := .agg (st2 b n)) (res20 _ _ _ _ _ rfl (HJ.out.put b n)) rfl ⟨rfl, below_setRow HB.out (by omega) _⟩
  · rw [if_neg h]
    go_enter Tryd.func20, Tryd.ntmps20
    go_wp2_with fail
    refine (HC.out _).mono ?_
    rintro e w1 ⟨rfl, hb⟩
    have c0 := (I0.out.to hb (by simp; omega)).c0
    have c1 := (I0.out.to hb (by simp; omega)).c1
    have J2 := (I2.out.to hb (by simp))
    simp only [World.size_alloc] at c0 c1 J2
    have HJ := Lib.hid J2
    have HB := Lib.hid (BB.out.trans (hb.mono (by simp; omega)))
    clear hb J2
    go_wp2_with ((with_reducible refine stL (.tmp 4) (.tmp 9) _ a m 0 0 ?_ ?_ HJ.out ?_); rfl; rfl)
    exact bodyPost_ret (v := .agg (st2 a m)) (res20 _ _ _ _ _ rfl (HJ.out.put a m)) rfl ⟨rfl, below_setRow HB.out (by omega) _⟩

end Go.Proofs.YtdmicehmmmpjcaaDoor
