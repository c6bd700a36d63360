/- DiskKnown's walk. No condition. -/
import Derived.Test.YtocpelkgiebkjaaMoves
import Derived.Test.YtocpelkgiebkjaaCu
import Derived.Laws.MakeOwn
namespace Go.Proofs.Ytocpelkgiebkjaa
open Go.RowKit Go.Proofs.Ytocpelkgiebkjaa.Sp
set_option linter.unusedVariables false
set_option linter.unusedSimpArgs false
def tB : ByteArray := ⟨#[98]⟩
def tE : ByteArray := ⟨#[]⟩
theorem ne_of {m : DM} {s : ByteArray} {f : Fl} (q : findM m s = (0, some f)) (hb : f.b ≠ []) : ∀ f', findM m s = (0, some f') → f'.b ≠ [] := by
  intro f' h
  rw [q] at h
  injection h with _ h
  injection h with h
  rw [← h]
  exact hb
theorem make65 : ∃ MC : Array Value, MC.toList = bv (List.replicate 65 0) ∧ ∀ w : World, (Instr.makeSlice 28 (.int .i64 65) (.int .i64 65)).run Try.prog w = .ok (.slice (some ⟨w.heap.size, 0, none⟩) 65 65) (w.alloc (.cells MC 5)) := by
  obtain ⟨i, h1, h2, h3, h4⟩ := info5
  refine ⟨madeCells (Value.int .u8 0).cells (65 * 1), by kernel_rfl, fun w => ?_⟩
  have := run_make (P := Try.prog) w 28 5 i _ Try.underlying28 h1 h2 .i64 .i64 65 65 (by decide) (by decide) (by rw [h4]; decide) (by decide)
  rw [h3] at this
  exact this
set_option maxRecDepth 100000 in
set_option maxHeartbeats 4000000 in
theorem known_walk (w : World) : Calls Try.prog 6 #[] w fun e w' => e = .returned (.bool true) ∧ Below w.heap.size w w' := by
  have kc := fun (w : World) (C : Array Value) (n c : Nat) => Lib.run_convert_bytes_const (P := Try.prog) w 28 5 C n c Try.underlying28 Try.underlying5
  obtain ⟨MC, hMC, hmk⟩ := make65
  have HMC := Lib.hid hMC
  clear hMC
  go_enter Try.func6, Try.ntmps6
  go_wp2_with fail
  refine (awake_calls w).mono ?_
  rintro e w1 ⟨rfl, hb⟩
  have HH0 := Lib.hid (Holds.of_below hb)
  clear hb
  go_wp2_with fail
  refine (new_no 63 (.inl (by decide)) w1).mono ?_
  rintro e w' ⟨rfl, rfl⟩
  go_wp2_with fail
  refine (new_no 1048577 (.inr (by decide)) w1).mono ?_
  rintro e w' ⟨rfl, rfl⟩
  go_wp2_with fail
  refine (new_calls 64 (by omega) w w1 [] HH0.out).mono ?_
  rintro e w2 ⟨g, rfl, h, hI, hH⟩
  have HI0 := Lib.hid hI; have HH0' := Lib.hid hH
  clear hI hH HH0
  go_wp2_with fail
  refine (append_calls g _ _ _ tE none 0 [] w _ (by decide) (fun _ => rfl) (by decide) (by decide) HI0.out HH0'.out (fun w' hw => ⟨rfl, fun _ => rfl, fun _ h => by cases h⟩)).mono ?_
  rintro e v0 ⟨he, h, hI, hH⟩
  have q : appM ⟨64, 1, true, []⟩ tE [] = (1, ⟨64, 1, true, []⟩) := by kernel_rfl
  rw [q] at he hI
  subst he
  clear q
  have HI1 := Lib.hid hI; have HH1 := Lib.hid hH
  clear hI hH HI0 HH0'
  go_wp2_with fail
  have H1 := Lib.hid ((HH1.out.alloc (.cells MC 5 (0, 0))).perm (k := h ++ [(v0.heap.size, (.cells MC 5 (0, 0)))]) (by classical rw [List.perm_iff_count]; intro a; simp only [List.count_append, List.count_cons, List.count_nil]; omega))
  have HR : ∀ w', Holds w [(v0.heap.size, (.cells MC 5 (0, 0)))] w' → Reads w' (some ⟨v0.heap.size, 0, none⟩) 65 1 (bv (List.replicate 65 0)) := fun w' hw => lit_reads HMC.out 65 rfl w' hw
  refine (append_calls g _ _ _ tA _ 65 (List.replicate 65 0) w _ (by decide) (fun h => by cases h) (by decide) (by decide) HI1.out H1.out HR).mono ?_
  rintro e v1 ⟨he, h, hI, hH⟩
  have q : appM ⟨64, 1, true, []⟩ tA (List.replicate 65 0) = (6, ⟨64, 1, true, []⟩) := by kernel_rfl
  rw [q] at he hI
  subst he
  clear q
  have HI2 := Lib.hid hI; have HH2 := Lib.hid (show Holds w (h ++ []) _ from (List.append_nil h).symm ▸ hH.left)
  clear hI hH HI1 HH1 H1 HR
  go_wp2_with fail
  refine (sync_calls g _ _ _ tA w _ (by decide) HI2.out HH2.out).mono ?_
  rintro e v2 ⟨he, h, hI, hH⟩
  have q : syncM ⟨64, 1, true, []⟩ tA = (4, ⟨64, 1, true, []⟩) := by kernel_rfl
  rw [q] at he hI
  subst he
  clear q
  have HI3 := Lib.hid hI; have HH3 := Lib.hid hH
  clear hI hH HI2 HH2
  go_wp2_with fail
  have H1 := Lib.hid ((HH3.out.alloc (.cells #[.int .u8 111, .int .u8 110, .int .u8 101] 5 (3, 4))).perm (k := h ++ [(v2.heap.size, (.cells #[.int .u8 111, .int .u8 110, .int .u8 101] 5 (3, 4)))]) (by classical rw [List.perm_iff_count]; intro a; simp only [List.count_append, List.count_cons, List.count_nil]; omega))
  have HR : ∀ w', Holds w [(v2.heap.size, (.cells #[.int .u8 111, .int .u8 110, .int .u8 101] 5 (3, 4)))] w' → Reads w' (some ⟨v2.heap.size, 0, none⟩) 3 1 (bv [111, 110, 101]) := fun w' hw => lit_reads rfl 3 rfl w' hw
  refine (append_calls g _ _ _ tA _ 3 [111, 110, 101] w _ (by decide) (fun h => by cases h) (by decide) (by decide) HI3.out H1.out HR).mono ?_
  rintro e v3 ⟨he, h, hI, hH⟩
  have q : appM ⟨64, 1, true, []⟩ tA [111, 110, 101] = (0, ⟨64, 1, true, [(tA, ⟨[111, 110, 101], 0⟩)]⟩) := by kernel_rfl
  rw [q] at he hI
  subst he
  clear q
  have HI4 := Lib.hid hI; have HH4 := Lib.hid (show Holds w (h ++ []) _ from (List.append_nil h).symm ▸ hH.left)
  clear hI hH HI3 HH3 H1 HR
  go_wp2_with fail
  refine (sync_calls g _ _ _ tA w _ (by decide) HI4.out HH4.out).mono ?_
  rintro e v4 ⟨he, h, hI, hH⟩
  have q : syncM ⟨64, 1, true, [(tA, ⟨[111, 110, 101], 0⟩)]⟩ tA = (0, ⟨64, 1, true, [(tA, ⟨[111, 110, 101], 3⟩)]⟩) := by kernel_rfl
  rw [q] at he hI
  subst he
  clear q
  have HI5 := Lib.hid hI; have HH5 := Lib.hid hH
  clear hI hH HI4 HH4
  go_wp2_with fail
  have H1 := Lib.hid ((HH5.out.alloc (.cells #[.int .u8 116, .int .u8 119, .int .u8 111] 5 (3, 4))).perm (k := h ++ [(v4.heap.size, (.cells #[.int .u8 116, .int .u8 119, .int .u8 111] 5 (3, 4)))]) (by classical rw [List.perm_iff_count]; intro a; simp only [List.count_append, List.count_cons, List.count_nil]; omega))
  have HR : ∀ w', Holds w [(v4.heap.size, (.cells #[.int .u8 116, .int .u8 119, .int .u8 111] 5 (3, 4)))] w' → Reads w' (some ⟨v4.heap.size, 0, none⟩) 3 1 (bv [116, 119, 111]) := fun w' hw => lit_reads rfl 3 rfl w' hw
  refine (append_calls g _ _ _ tA _ 3 [116, 119, 111] w _ (by decide) (fun h => by cases h) (by decide) (by decide) HI5.out H1.out HR).mono ?_
  rintro e v5 ⟨he, h, hI, hH⟩
  have q : appM ⟨64, 1, true, [(tA, ⟨[111, 110, 101], 3⟩)]⟩ tA [116, 119, 111] = (0, ⟨64, 1, true, [(tA, ⟨[111, 110, 101, 116, 119, 111], 3⟩)]⟩) := by kernel_rfl
  rw [q] at he hI
  subst he
  clear q
  have HI6 := Lib.hid hI; have HH6 := Lib.hid (show Holds w (h ++ []) _ from (List.append_nil h).symm ▸ hH.left)
  clear hI hH HI5 HH5 H1 HR
  go_wp2_with fail
  refine (rename_calls g _ _ _ tA tB w _ (by decide) (by decide) (by decide) HI6.out HH6.out).mono ?_
  rintro e v6 ⟨he, h, hI, hH⟩
  have q : renM ⟨64, 1, true, [(tA, ⟨[111, 110, 101, 116, 119, 111], 3⟩)]⟩ tA tB = (0, ⟨64, 1, true, [(tB, ⟨[111, 110, 101, 116, 119, 111], 3⟩)]⟩) := by kernel_rfl
  rw [q] at he hI
  subst he
  clear q
  have HI7 := Lib.hid hI; have HH7 := Lib.hid hH
  clear hI hH HI6 HH6
  go_wp2_with fail
  refine (cut_calls g _ _ _ tB 7 w _ (by decide) (ne_of (f := ⟨[111, 110, 101, 116, 119, 111], 3⟩) (by kernel_rfl) (by simp)) HI7.out HH7.out).mono ?_
  rintro e v7 ⟨he, h, hI, hH⟩
  have q : cutM ⟨64, 1, true, [(tB, ⟨[111, 110, 101, 116, 119, 111], 3⟩)]⟩ tB 7 = (1, ⟨64, 1, true, [(tB, ⟨[111, 110, 101, 116, 119, 111], 3⟩)]⟩) := by kernel_rfl
  rw [q] at he hI
  subst he
  clear q
  have HI8 := Lib.hid hI; have HH8 := Lib.hid hH
  clear hI hH HI7 HH7
  go_wp2_with fail
  refine (crash_calls g _ _ _ (-5) 0 w _ HI8.out HH8.out).mono ?_
  rintro e v8 ⟨rfl, h, hI, hH⟩
  have q : crM ⟨64, 1, true, [(tB, ⟨[111, 110, 101, 116, 119, 111], 3⟩)]⟩ (-5) 0 = ⟨64, 1, false, [(tB, ⟨[111, 110, 101], 3⟩)]⟩ := by kernel_rfl
  rw [q] at hI
  clear q
  have HI9 := Lib.hid hI; have HH9 := Lib.hid hH
  clear hI hH HI8 HH8
  go_wp2_with fail
  refine (on_calls g _ _ _ w _ (by decide) HI9.out HH9.out).mono ?_
  rintro e v9 ⟨rfl, h, hI, hH⟩
  have q : onM ⟨64, 1, false, [(tB, ⟨[111, 110, 101], 3⟩)]⟩ = ⟨64, 2, true, [(tB, ⟨[111, 110, 101], 3⟩)]⟩ := by kernel_rfl
  rw [q] at hI
  clear q
  have HI10 := Lib.hid hI; have HH10 := Lib.hid hH
  clear hI hH HI9 HH9
  go_wp2_with fail
  refine (read_calls g _ _ _ tB w _ (by decide) HI10.out HH10.out).mono ?_
  rintro e vr ⟨vx, he, hvx, hR, h, hI, hH⟩
  have q : readM ⟨64, 2, true, [(tB, ⟨[111, 110, 101], 3⟩)]⟩ tB = ([111, 110, 101], 0) := by kernel_rfl
  rw [q] at he hR
  subst he
  have HI11 := Lib.hid hI; have HH11 := Lib.hid hH; have HRX := Lib.hid hR
  clear hI hH HI10 HH10 q hR
  go_wp2_with fail
  refine (cut_calls g _ _ _ tB 2 w _ (by decide) (ne_of (f := ⟨[111, 110, 101], 3⟩) (by kernel_rfl) (by simp)) HI11.out HH11.out).mono ?_
  rintro e v11 ⟨he, h, hI, hH⟩
  have q : cutM ⟨64, 2, true, [(tB, ⟨[111, 110, 101], 3⟩)]⟩ tB 2 = (0, ⟨64, 2, true, [(tB, ⟨[111, 110], 2⟩)]⟩) := by kernel_rfl
  rw [q] at he hI
  subst he
  clear q
  have HI12 := Lib.hid hI; have HH12 := Lib.hid hH
  clear hI hH HI11 HH11
  go_wp2_with fail
  refine (drop_calls g _ _ _ tB w _ (by decide) HI12.out HH12.out).mono ?_
  rintro e v12 ⟨he, h, hI, hH⟩
  have q : dropM ⟨64, 2, true, [(tB, ⟨[111, 110], 2⟩)]⟩ tB = (0, ⟨64, 2, true, []⟩) := by kernel_rfl
  rw [q] at he hI
  subst he
  clear q
  have HI13 := Lib.hid hI; have HH13 := Lib.hid hH
  clear hI hH HI12 HH12
  go_wp2_with fail
  refine (rename_calls g _ _ _ tB tB w _ (by decide) (by decide) (by decide) HI13.out HH13.out).mono ?_
  rintro e v13 ⟨he, h, hI, hH⟩
  have q : renM ⟨64, 2, true, []⟩ tB tB = (4, ⟨64, 2, true, []⟩) := by kernel_rfl
  rw [q] at he hI
  subst he
  clear q
  have HI14 := Lib.hid hI; have HH14 := Lib.hid hH
  clear hI hH HI13 HH13
  have hcv : (convert 28 9 vx).run Try.prog v13 = .ok (.string ⟨#[111, 110, 101]⟩) v13 := conv_str (b := [111, 110, 101]) HRX.out (HH14.out.right)
  go_wp2_with fail
  refine (size_calls g _ _ _ w _ HI14.out HH14.out).mono ?_
  rintro e vs ⟨he, h, hI, hH⟩
  rw [show sizeM ⟨64, 2, true, []⟩ = 0 from rfl] at he
  subst he
  have HIs := Lib.hid hI; have HHs := Lib.hid hH
  clear hI hH
  go_wp2_with fail
  have HN := names_calls g ⟨64, 2, true, []⟩ _ _ w vs (show (0 : Nat) < 1000000000 by decide) HIs.out HHs.out
  have hnm : (namesM ⟨64, 2, true, []⟩).length = 0 := by simp [namesM]
  rw [hnm] at HN
  refine HN.mono ?_
  rintro e vn ⟨vv, rfl, hvn, hRn, h', hI, hH⟩
  obtain ⟨An, cn, rfl, _⟩ := RowB.form hRn
  have HHn := Lib.hid hH
  clear hI hH hRn HN hnm
  go_wp2_with fail
  go_ret
  exact ⟨rfl, HHn.out.below⟩
end Go.Proofs.Ytocpelkgiebkjaa
