/- DiscKnown answers true. No condition. -/
import Derived.Test.YtfebebjopjopcaaGsa
import Derived.Test.YtfebebjopjopcaaGse
import Derived.Test.YtfebebjopjopcaaGcl
import Derived.Laws.MakeOwn
namespace Go.Proofs.YtfebebjopjopcaaG
open Go.RowKit
set_option linter.unusedVariables false
set_option linter.unusedSimpArgs false
structure St (W w : World) (g : Nat) (h o : Int) : Prop where
  ge : W.heap.size ≤ g
  bel : Below W.heap.size W w
  clk : IsB w g #[.int .u8 1, .int .i64 h, .int .i64 o] 49
theorem St.size {W w : World} {g : Nat} {h o : Int} (S : St W w g h o) : W.heap.size ≤ w.heap.size := S.bel.size
theorem St.alloc {W w : World} {g : Nat} {h o : Int} (S : St W w g h o) (x : Obj) : St W (w.alloc x) g h o :=
  ⟨S.ge, S.bel.alloc S.size _, IsClk.alloc (show IsClk w g 1 h o from S.clk) x⟩
theorem St.grown {W w w' : World} {g : Nat} {h o h' o' : Int} (S : St W w g h o) (hg : w.grownBy w' (some g)) (hc : IsB w' g #[.int .u8 1, .int .i64 h', .int .i64 o'] 49) : St W w' g h' o' :=
  ⟨S.ge, below_of_grown S.bel S.size hg S.ge, hc⟩
theorem St.below {W w w' : World} {g : Nat} {h o : Int} (S : St W w g h o) (hb : Below w.heap.size w w') : St W w' g h o :=
  ⟨S.ge, S.bel.trans (hb.mono S.size), S.clk.to hb S.clk.lt⟩
theorem ms3 : ([5, 1, 3] : List Int).mergeSort (fun x y => decide (x ≤ y)) = [1, 3, 5] := by simp [List.mergeSort, List.MergeSort.Internal.splitInTwo, List.merge]
theorem ms2 : ([4611686018427387904, 7] : List Int).mergeSort (fun x y => decide (x ≤ y)) = [7, 4611686018427387904] := by simp [List.mergeSort, List.MergeSort.Internal.splitInTwo, List.merge]
theorem ms1 (z : Int) : ([z] : List Int).mergeSort (fun x y => decide (x ≤ y)) = [z] := by simp
theorem good_t (t : Int) (h0 : 0 ≤ t) (h1 : t ≤ 36028797018963967) (w : World) : Calls Try.prog 24 #[.agg #[.int .i64 t, .int .u8 0]] w fun e w' => e = .returned (.bool true) ∧ Below w.heap.size w w' := by
  go_enter Try.func24, Try.ntmps24
  go_wp2
  all_goals go_ret
  exact ⟨rfl, (Below.refl _ w).alloc (Nat.le_refl _) _⟩
theorem sample_lit {W w : World} {g : Nat} {h o : Int} (S : St W w g h o) (cs : Array Value) (zs : List Int) (n : Nat) (hcs : cs.toList = zs.map (fun z => .int .i64 z)) (hn : zs.length = n) (h0 : 0 < n) (h1 : n ≤ 64) (m : Int)
    (hm : m = min (max ((zs.mergeSort fun x y => decide (x ≤ y))[(n - 1) / 2]?.getD 0) (-1099511627776)) 1099511627776) :
    Calls Try.prog 13 #[.pointer (some ⟨g, 0, none⟩), .slice (some ⟨w.heap.size, 0, none⟩) n n] (w.alloc (.cells cs 2)) fun e w' => e = .returned (.int .i64 m) ∧ St W w' g h m := by
  have S1 := S.alloc (.cells cs 2)
  refine (sample_ok g 1 h o n ⟨w.heap.size, 0, none⟩ zs n hn _ S1.clk h0 h1 (fun j hj => ?_) m hm).mono ?_
  · have hb := isB_new w cs 2
    have e : (⟨w.heap.size, 0, none⟩ : Addr).add j = ⟨w.heap.size, j, none⟩ := by simp [Addr.add]; omega
    rw [e, hb.at j, ← Array.getElem?_toList, hcs, List.getElem?_map, List.getElem?_eq_getElem hj]
    rfl
  · rintro e w' ⟨rfl, hg, hc⟩
    exact ⟨rfl, S1.grown hg hc⟩
theorem offset_calls (g : Nat) (n h o : Int) (w : World) (H : IsB w g #[.int .u8 n, .int .i64 h, .int .i64 o] 49) : Calls Try.prog 17 #[.pointer (some ⟨g, 0, none⟩)] w fun e w' => e = .returned (.int .i64 o) ∧ w = w' := by
  have a2 := H.at 2
  simp at a2
  clear H
  go_enter Try.func17, Try.ntmps17
  go_wp2
  go_ret
  exact ⟨rfl, rfl⟩
theorem info2 : ∃ i, Try.prog.info? 2 = some i ∧ i.zero = some (.int .i64 0) ∧ i.size = 1 ∧ i.bytes = 8 := by
  have h : (Try.prog.info? 2).any (fun i => (match i.zero with | some (.int .i64 0) => true | _ => false) && i.size == 1 && i.bytes == 8) = true := by kernel_rfl
  cases hu : Try.prog.info? 2 with
  | none => rw [hu] at h; cases h
  | some i =>
    rw [hu] at h
    simp only [Option.any_some, Bool.and_eq_true, beq_iff_eq] at h
    obtain ⟨⟨h1, h2⟩, h3⟩ := h
    refine ⟨i, rfl, ?_, h2, h3⟩
    split at h1 <;> simp_all
theorem make65 : ∃ MC : Array Value, ∀ w : World, (Instr.makeSlice 33 (.int .i64 65) (.int .i64 65)).run Try.prog w = .ok (.slice (some ⟨w.heap.size, 0, none⟩) 65 65) (w.alloc (.cells MC 2)) := by
  obtain ⟨i, h1, h2, h3, h4⟩ := info2
  exact ⟨_, fun w => run_make w 33 2 i _ Try.underlying33 h1 h2 .i64 .i64 65 65 (by decide) (by decide) (by rw [h4]; decide) (by decide)⟩
set_option maxRecDepth 100000 in
set_option maxHeartbeats 2000000 in
theorem known_walk (w : World) : Calls Try.prog 7 #[] w fun e w' => e = .returned (.bool true) ∧ Below w.heap.size w w' := by
  obtain ⟨MC, hmk⟩ := make65
  go_enter Try.func7, Try.ntmps7
  go_wp2_with fail
  refine (awake_calls w).mono ?_
  rintro e w1 ⟨rfl, hb⟩
  have HB := Lib.hid hb
  clear hb
  go_wp2_with fail
  refine (new_no 0 (-2) w1 (by omega)).mono ?_
  rintro e w2 ⟨rfl, rfl⟩
  go_wp2_with fail
  refine (new_no 0 36028797018963968 w1 (by omega)).mono ?_
  rintro e w2 ⟨rfl, rfl⟩
  go_wp2_with fail
  refine (new_yes 1 10 w1 (by omega) (by omega)).mono ?_
  rintro e w2 ⟨rfl, hw⟩
  obtain ⟨g, hg⟩ : ∃ g, w1.heap.size = g := ⟨_, rfl⟩
  have S0 : St w w2 g 10 0 := by
    subst hw hg
    exact ⟨HB.out.size, HB.out.alloc HB.out.size _, IsClk.new w1 1 10 0⟩
  rw [hg]
  have HS0 := Lib.hid S0
  clear S0 hw hg HB
  go_wp2_with fail
  refine (sample_no g 1 10 0 none 0 0 w2 HS0.out.clk (.inl rfl)).mono ?_
  rintro e w' ⟨rfl, rfl⟩
  go_wp2_with fail
  refine (sample_lit HS0.out #[.int .i64 5, .int .i64 1, .int .i64 3] [5, 1, 3] 3 rfl rfl (by decide) (by decide) (3) (by rw [ms3]; rfl)).mono ?_
  rintro e w3 ⟨rfl, hS⟩
  have HS1 := Lib.hid hS
  clear hS HS0
  go_wp2_with fail
  refine (sample_lit HS1.out #[.int .i64 4611686018427387904, .int .i64 7] [4611686018427387904, 7] 2 rfl rfl (by decide) (by decide) (7) (by rw [ms2]; rfl)).mono ?_
  rintro e w4 ⟨rfl, hS⟩
  have HS2 := Lib.hid hS
  clear hS HS1
  go_wp2_with fail
  refine (sample_lit HS2.out #[.int .i64 (-9223372036854775808)] [-9223372036854775808] 1 rfl rfl (by decide) (by decide) (-1099511627776) (by rw [ms1]; rfl)).mono ?_
  rintro e w5 ⟨rfl, hS⟩
  have HS3 := Lib.hid hS
  clear hS HS2
  go_wp2_with fail
  refine (read_calls g 1 10 (-1099511627776) 9223372036854775807 _ HS3.out.clk (by decide)).mono ?_
  rintro e w' ⟨rfl, rfl⟩
  rw [show rdT 10 (-1099511627776) 9223372036854775807 = 36028797018963967 from by decide]
  go_wp2_with fail
  refine (sample_lit HS3.out #[.int .i64 1125899906842624] [1125899906842624] 1 rfl rfl (by decide) (by decide) (1099511627776) (by rw [ms1]; rfl)).mono ?_
  rintro e w6 ⟨rfl, hS⟩
  have HS4 := Lib.hid hS
  clear hS HS3
  go_wp2_with fail
  refine (read_calls g 1 10 1099511627776 5 _ HS4.out.clk (by decide)).mono ?_
  rintro e w' ⟨rfl, rfl⟩
  rw [show rdT 10 1099511627776 5 = 1099511627781 from by decide]
  go_wp2_with fail
  refine (see_low g 1 10 1099511627776 10 0 _ HS4.out.clk (by decide) (Lib.hid (fun w => good_t 10 (by decide) (by decide) w))).mono ?_
  rintro e w8 ⟨rfl, hb⟩
  have HS5 := Lib.hid (HS4.out.below hb)
  clear hb HS4
  go_wp2_with fail
  refine (see_yes g 1 10 1099511627776 36028797018963967 0 _ HS5.out.clk (by decide) (Lib.hid (fun w => good_t 36028797018963967 (by decide) (by decide) w))).mono ?_
  rintro e w9 ⟨rfl, hg, hc⟩
  have HS6 := Lib.hid (HS5.out.grown hg hc)
  clear hg hc HS5
  go_wp2_with fail
  refine (issue_spent g 1 1099511627776 0 _ HS6.out.clk).mono ?_
  rintro e wa ⟨rfl, hg⟩
  have HS7 := Lib.hid (show St w wa g 36028797018963967 1099511627776 from ⟨HS6.out.ge, HS6.out.bel.trans ((show Below w9.heap.size w9 wa from ⟨hg.os, hg.tape, hg.output, hg.size, fun i hi => hg.block i hi (by simp)⟩).mono HS6.out.size), (hg.block g HS6.out.clk.lt (by simp)).trans HS6.out.clk⟩)
  clear hg HS6
  go_wp2_with fail
  refine (read_calls g 1 36028797018963967 1099511627776 (-1) _ (HS7.out.alloc _).clk (by decide)).mono ?_
  rintro e w' ⟨rfl, rfl⟩
  rw [show rdT 36028797018963967 1099511627776 (-1) = 36028797018963967 from by decide]
  go_wp2_with fail
  refine (offset_calls g 1 36028797018963967 1099511627776 _ (HS7.out.alloc _).clk).mono ?_
  rintro e w' ⟨rfl, rfl⟩
  go_wp2_with fail
  refine (sample_no g 1 36028797018963967 1099511627776 _ 65 65 _ ((HS7.out.alloc _).alloc _).clk (.inr (by decide))).mono ?_
  rintro e w' ⟨rfl, rfl⟩
  go_wp2_with fail
  go_ret
  exact ⟨rfl, ((HS7.out.alloc _).alloc _).bel⟩
end Go.Proofs.YtfebebjopjopcaaG
