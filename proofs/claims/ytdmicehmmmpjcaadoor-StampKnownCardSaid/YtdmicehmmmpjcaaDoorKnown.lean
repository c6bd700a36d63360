/- StampKnown's own code answers true. Condition: the library's table of powers is as its own text lays it. -/
import Derived.Test.YtdmicehmmmpjcaaDoorText
namespace Go.Proofs.YtdmicehmmmpjcaaDoor
open Go.RowKit
set_option linter.unusedVariables false
set_option linter.unusedSimpArgs false
theorem txt_min : txt (-9223372036854775808) 0 = ⟨#[45, 57, 50, 50, 51, 51, 55, 50, 48, 51, 54, 56, 53, 52, 55, 55, 53, 56, 48, 56, 46, 48]⟩ := by
  have h : Lib.itoa (-9223372036854775808) = [45, 57, 50, 50, 51, 51, 55, 50, 48, 51, 54, 56, 53, 52, 55, 55, 53, 56, 48, 56] := by
    unfold Lib.itoa
    rw [if_pos (by decide)]
    simp [Lib.decDigits]
  have h2 : Lib.itoa 0 = [48] := by
    unfold Lib.itoa
    rw [if_neg (by decide)]
    simp [Lib.decDigits]
  unfold txt
  rw [h, h2]
  rfl
set_option maxHeartbeats 1000000 in
theorem stampKnown_calls (w : World) (hT : Tab w) : Calls Tryd.prog 6 #[] w fun x w' => x = .returned (.bool true) ∧ Below w.heap.size w w' := by
  have P1 := Lib.hid (pack_no (-1) 0 rfl)
  have P2 := Lib.hid (pack_no 36028797018963968 0 rfl)
  have P3 := Lib.hid (pack_yes 36028797018963967 255 rfl (by decide) (by decide))
  have U1 := Lib.hid (unpack_no 9223372036854775808 (by decide) (by decide))
  have N1 := Lib.hid (next_spent 255)
  have N2 := Lib.hid (next_no (-1) 0 rfl)
  have N3 := Lib.hid (next_yes 4 9 rfl (by decide))
  have HX := Lib.hid fun w hw => text_calls (-9223372036854775808) 0 (by decide) (by decide) (by decide) w hw
  rw [txt_min] at HX
  have HT := Lib.hid hT
  clear hT
  go_enter Tryd.func6, Tryd.ntmps6
  go_wp2_with fail
  refine (awake_calls _).mono ?_
  rintro x w1 ⟨rfl, hb1⟩
  have B1 := Lib.hid hb1
  have y99 : w.heap.size ≤ w1.heap.size := hb1.size
  clear hb1
  have K0 := Lib.hid (isSt_new w1 0 0)
  have L0 := Lib.hid ((isSt_new w1 0 0).put (36028797018963967) (255))
  have Q0 := Lib.hid (below_setRow (B1.out.alloc B1.out.size (.cells #[.int .i64 0, .int .u8 0] 23)) B1.out.size (st2 (36028797018963967) (255)))
  have SZ0 : Hid (((w1.alloc (.cells #[.int .i64 0, .int .u8 0] 23)).setRow w1.heap.size (st2 (36028797018963967) (255))).heap.size = w1.heap.size + 1) := Lib.hid (by simp)
  obtain ⟨W0, hW⟩ : ∃ W, (w1.alloc (.cells #[.int .i64 0, .int .u8 0] 23)).setRow w1.heap.size (st2 (36028797018963967) (255)) = W := ⟨_, rfl⟩
  rw [hW] at L0 Q0 SZ0
  have HW := Lib.hid hW
  clear hW
  have y0 : w1.heap.size + 1 ≤ W0.heap.size := by have := SZ0.out; omega
  have lc0 := (L0.out).c0
  have lc1 := (L0.out).c1
  go_wp2_with (((with_reducible refine stL (.tmp 1) (.tmp 18) _ (36028797018963967) (255) 0 0 ?_ ?_ K0.out ?_); rfl; rfl; rw [HW.out]))
  clear K0 HW
  refine (P1.out _).mono ?_
  rintro x v1 ⟨rfl, hb⟩
  have lP1 := Lib.hid ((L0.out).to hb (by omega))
  have Q1 := Lib.hid (Q0.out.trans (hb.mono Q0.out.size))
  have y1 : w1.heap.size + 1 ≤ v1.heap.size := by have := hb.size; omega
  clear hb lc0 lc1
  have lc0 := (lP1.out).c0
  have lc1 := (lP1.out).c1
  go_wp2_with fail
  refine (P2.out _).mono ?_
  rintro x v2 ⟨rfl, hb⟩
  have lP2 := Lib.hid ((lP1.out).to hb (by omega))
  have Q2 := Lib.hid (Q1.out.trans (hb.mono Q1.out.size))
  have y2 : w1.heap.size + 1 ≤ v2.heap.size := by have := hb.size; omega
  clear hb lc0 lc1
  have lc0 := (lP2.out).c0
  have lc1 := (lP2.out).c1
  go_wp2_with fail
  refine (P3.out _).mono ?_
  rintro x v3 ⟨rfl, hb⟩
  have lP3 := Lib.hid ((lP2.out).to hb (by omega))
  have Q3 := Lib.hid (Q2.out.trans (hb.mono Q2.out.size))
  have y3 : w1.heap.size + 1 ≤ v3.heap.size := by have := hb.size; omega
  clear hb lc0 lc1
  have lc0 := (lP3.out).c0
  have lc1 := (lP3.out).c1
  go_wp2_with fail
  refine (U1.out _).mono ?_
  rintro x v4 ⟨rfl, hb⟩
  have lP4 := Lib.hid ((lP3.out).to hb (by omega))
  have Q4 := Lib.hid (Q3.out.trans (hb.mono Q3.out.size))
  have y4 : w1.heap.size + 1 ≤ v4.heap.size := by have := hb.size; omega
  clear hb lc0 lc1
  have lS5 := Lib.hid (((lP4.out).alloc (.cells #[.int .i64 0, .int .u8 0] 23)).putO (h := v4.heap.size) (by omega) (0) (0))
  have K5 := Lib.hid (isSt_new v4 0 0)
  have L5 := Lib.hid ((isSt_new v4 0 0).put (0) (0))
  have Q5 := Lib.hid (below_setRow (Q4.out.alloc Q4.out.size (.cells #[.int .i64 0, .int .u8 0] 23)) Q4.out.size (st2 (0) (0)))
  have SZ5 : Hid (((v4.alloc (.cells #[.int .i64 0, .int .u8 0] 23)).setRow v4.heap.size (st2 (0) (0))).heap.size = v4.heap.size + 1) := Lib.hid (by simp)
  obtain ⟨W5, hW⟩ : ∃ W, (v4.alloc (.cells #[.int .i64 0, .int .u8 0] 23)).setRow v4.heap.size (st2 (0) (0)) = W := ⟨_, rfl⟩
  rw [hW] at lS5 L5 Q5 SZ5
  have HW := Lib.hid hW
  clear hW
  have y5 : v4.heap.size + 1 ≤ W5.heap.size := by have := SZ5.out; omega
  have lc0 := (lS5.out).c0
  have lc1 := (lS5.out).c1
  have uc0 := (L5.out).c0
  have uc1 := (L5.out).c1
  go_wp2_with (((with_reducible refine stL (.tmp 8) (.tmp 36) _ (0) (0) 0 0 ?_ ?_ K5.out ?_); rfl; rfl; rw [HW.out]))
  clear K5 HW
  refine (N1.out _).mono ?_
  rintro x v6 ⟨rfl, hb⟩
  have lP6 := Lib.hid ((lS5.out).to hb (by omega))
  have uP6 := Lib.hid ((L5.out).to hb (by omega))
  have Q6 := Lib.hid (Q5.out.trans (hb.mono Q5.out.size))
  have y6 : v4.heap.size + 1 ≤ v6.heap.size := by have := hb.size; omega
  clear hb lc0 lc1 uc0 uc1
  have lS7 := Lib.hid (((lP6.out).alloc (.cells #[.int .i64 0, .int .u8 0] 23)).putO (h := v6.heap.size) (by omega) (0) (0))
  have uS7 := Lib.hid (((uP6.out).alloc (.cells #[.int .i64 0, .int .u8 0] 23)).putO (h := v6.heap.size) (by omega) (0) (0))
  have K7 := Lib.hid (isSt_new v6 0 0)
  have L7 := Lib.hid ((isSt_new v6 0 0).put (0) (0))
  have Q7 := Lib.hid (below_setRow (Q6.out.alloc Q6.out.size (.cells #[.int .i64 0, .int .u8 0] 23)) Q6.out.size (st2 (0) (0)))
  have SZ7 : Hid (((v6.alloc (.cells #[.int .i64 0, .int .u8 0] 23)).setRow v6.heap.size (st2 (0) (0))).heap.size = v6.heap.size + 1) := Lib.hid (by simp)
  obtain ⟨W7, hW⟩ : ∃ W, (v6.alloc (.cells #[.int .i64 0, .int .u8 0] 23)).setRow v6.heap.size (st2 (0) (0)) = W := ⟨_, rfl⟩
  rw [hW] at lS7 uS7 L7 Q7 SZ7
  have HW := Lib.hid hW
  clear hW
  have y7 : v6.heap.size + 1 ≤ W7.heap.size := by have := SZ7.out; omega
  have lc0 := (lS7.out).c0
  have lc1 := (lS7.out).c1
  have uc0 := (uS7.out).c0
  have uc1 := (uS7.out).c1
  have fc0 := (L7.out).c0
  have fc1 := (L7.out).c1
  go_wp2_with (((with_reducible refine stL (.tmp 10) (.tmp 41) _ (0) (0) 0 0 ?_ ?_ K7.out ?_); rfl; rfl; rw [HW.out]))
  clear K7 HW
  refine (N2.out _).mono ?_
  rintro x v8 ⟨rfl, hb⟩
  have lP8 := Lib.hid ((lS7.out).to hb (by omega))
  have uP8 := Lib.hid ((uS7.out).to hb (by omega))
  have fP8 := Lib.hid ((L7.out).to hb (by omega))
  have Q8 := Lib.hid (Q7.out.trans (hb.mono Q7.out.size))
  have y8 : v6.heap.size + 1 ≤ v8.heap.size := by have := hb.size; omega
  clear hb lc0 lc1 uc0 uc1 fc0 fc1
  have lS9 := Lib.hid (((lP8.out).alloc (.cells #[.int .i64 0, .int .u8 0] 23)).putO (h := v8.heap.size) (by omega) (0) (0))
  have uS9 := Lib.hid (((uP8.out).alloc (.cells #[.int .i64 0, .int .u8 0] 23)).putO (h := v8.heap.size) (by omega) (0) (0))
  have fS9 := Lib.hid (((fP8.out).alloc (.cells #[.int .i64 0, .int .u8 0] 23)).putO (h := v8.heap.size) (by omega) (0) (0))
  have K9 := Lib.hid (isSt_new v8 0 0)
  have L9 := Lib.hid ((isSt_new v8 0 0).put (0) (0))
  have Q9 := Lib.hid (below_setRow (Q8.out.alloc Q8.out.size (.cells #[.int .i64 0, .int .u8 0] 23)) Q8.out.size (st2 (0) (0)))
  have SZ9 : Hid (((v8.alloc (.cells #[.int .i64 0, .int .u8 0] 23)).setRow v8.heap.size (st2 (0) (0))).heap.size = v8.heap.size + 1) := Lib.hid (by simp)
  obtain ⟨W9, hW⟩ : ∃ W, (v8.alloc (.cells #[.int .i64 0, .int .u8 0] 23)).setRow v8.heap.size (st2 (0) (0)) = W := ⟨_, rfl⟩
  rw [hW] at lS9 uS9 fS9 L9 Q9 SZ9
  have HW := Lib.hid hW
  clear hW
  have y9 : v8.heap.size + 1 ≤ W9.heap.size := by have := SZ9.out; omega
  have lc0 := (lS9.out).c0
  have lc1 := (lS9.out).c1
  have uc0 := (uS9.out).c0
  have uc1 := (uS9.out).c1
  have fc0 := (fS9.out).c0
  have fc1 := (fS9.out).c1
  have gc0 := (L9.out).c0
  have gc1 := (L9.out).c1
  go_wp2_with (((with_reducible refine stL (.tmp 12) (.tmp 46) _ (0) (0) 0 0 ?_ ?_ K9.out ?_); rfl; rfl; rw [HW.out]))
  clear K9 HW
  refine (N3.out _).mono ?_
  rintro x v10 ⟨rfl, hb⟩
  have lP10 := Lib.hid ((lS9.out).to hb (by omega))
  have uP10 := Lib.hid ((uS9.out).to hb (by omega))
  have fP10 := Lib.hid ((fS9.out).to hb (by omega))
  have gP10 := Lib.hid ((L9.out).to hb (by omega))
  have Q10 := Lib.hid (Q9.out.trans (hb.mono Q9.out.size))
  have y10 : v8.heap.size + 1 ≤ v10.heap.size := by have := hb.size; omega
  clear hb lc0 lc1 uc0 uc1 fc0 fc1 gc0 gc1
  have lS11 := Lib.hid (((lP10.out).alloc (.cells #[.int .i64 0, .int .u8 0] 23)).putO (h := v10.heap.size) (by omega) (4 + 1) (9))
  have uS11 := Lib.hid (((uP10.out).alloc (.cells #[.int .i64 0, .int .u8 0] 23)).putO (h := v10.heap.size) (by omega) (4 + 1) (9))
  have fS11 := Lib.hid (((fP10.out).alloc (.cells #[.int .i64 0, .int .u8 0] 23)).putO (h := v10.heap.size) (by omega) (4 + 1) (9))
  have gS11 := Lib.hid (((gP10.out).alloc (.cells #[.int .i64 0, .int .u8 0] 23)).putO (h := v10.heap.size) (by omega) (4 + 1) (9))
  have K11 := Lib.hid (isSt_new v10 0 0)
  have L11 := Lib.hid ((isSt_new v10 0 0).put (4 + 1) (9))
  have Q11 := Lib.hid (below_setRow (Q10.out.alloc Q10.out.size (.cells #[.int .i64 0, .int .u8 0] 23)) Q10.out.size (st2 (4 + 1) (9)))
  have SZ11 : Hid (((v10.alloc (.cells #[.int .i64 0, .int .u8 0] 23)).setRow v10.heap.size (st2 (4 + 1) (9))).heap.size = v10.heap.size + 1) := Lib.hid (by simp)
  obtain ⟨W11, hW⟩ : ∃ W, (v10.alloc (.cells #[.int .i64 0, .int .u8 0] 23)).setRow v10.heap.size (st2 (4 + 1) (9)) = W := ⟨_, rfl⟩
  rw [hW] at lS11 uS11 fS11 gS11 L11 Q11 SZ11
  have HW := Lib.hid hW
  clear hW
  have y11 : v10.heap.size + 1 ≤ W11.heap.size := by have := SZ11.out; omega
  have lc0 := (lS11.out).c0
  have lc1 := (lS11.out).c1
  have uc0 := (uS11.out).c0
  have uc1 := (uS11.out).c1
  have fc0 := (fS11.out).c0
  have fc1 := (fS11.out).c1
  have gc0 := (gS11.out).c0
  have gc1 := (gS11.out).c1
  have hc0 := (L11.out).c0
  have hc1 := (L11.out).c1
  go_wp2_with (((with_reducible refine stL (.tmp 14) (.tmp 51) _ (4 + 1) (9) 0 0 ?_ ?_ K11.out ?_); rfl; rfl; rw [HW.out]))
  clear K11 HW
  refine (HX.out _ (tab_below HT.out Q11.out (tab_pos HT.out))).mono ?_
  rintro x v99 ⟨rfl, hb⟩
  have Q99 := Lib.hid (Q11.out.trans (hb.mono Q11.out.size))
  clear hb
  go_wp2_with fail
  go_ret
  exact ⟨rfl, Q99.out⟩
end Go.Proofs.YtdmicehmmmpjcaaDoor
