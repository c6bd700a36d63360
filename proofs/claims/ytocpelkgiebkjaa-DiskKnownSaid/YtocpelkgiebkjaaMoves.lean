/- DiskMoves's walk. No condition. -/
import Derived.Test.YtocpelkgiebkjaaSafe
import Derived.Test.YtocpelkgiebkjaaDr
import Derived.Test.YtocpelkgiebkjaaItn
namespace Go.Proofs.Ytocpelkgiebkjaa
open Go.RowKit Go.Proofs.Ytocpelkgiebkjaa.Sp
set_option linter.unusedVariables false
set_option linter.unusedSimpArgs false
def tX : ByteArray := ⟨#[120]⟩
def tY : ByteArray := ⟨#[121]⟩
theorem good_tX : goodN tX = true := by kernel_rfl
theorem good_tY : goodN tY = true := by kernel_rfl
theorem ne_xy : ¬ tX = tY := by decide
theorem ne_yx : ¬ tY = tX := by decide
theorem bef_yx : bytesBefore tY.data.toList tX.data.toList = false := by kernel_rfl
theorem two_app (l : Int) (f : Fl) (c : List UInt8) (hf : f.b.length ≤ 500) (hc : c.length ≤ 300) : appM ⟨1000, l, true, [(tX, f)]⟩ tY c = (0, ⟨1000, l, true, [(tX, f), (tY, ⟨c, 0⟩)]⟩) := by
  have : ¬ (1000 : Int) - f.b.length < c.length := by omega
  simp [appM, good_tY, totM, namedM, insM, ne_xy, bef_yx, this]
theorem two_sync (l : Int) (f : Fl) (c : List UInt8) (n : Nat) : syncM ⟨1000, l, true, [(tX, f), (tY, ⟨c, n⟩)]⟩ tY = (0, ⟨1000, l, true, [(tX, f), (tY, ⟨c, c.length⟩)]⟩) := by
  simp [syncM, findM, good_tY, namedM, setM, ne_xy]
theorem two_ren (l : Int) (f f2 : Fl) : renM ⟨1000, l, true, [(tX, f), (tY, f2)]⟩ tX tY = (0, ⟨1000, l, true, [(tY, f)]⟩) := by
  simp [renM, good_tX, good_tY, namedM, putM, offM, insM, ne_yx, ne_xy]
theorem gone_read (l : Int) (f : Fl) : readM ⟨1000, l, true, [(tY, f)]⟩ tX = ([], 4) := by
  simp [readM, findM, good_tX, namedM, ne_yx]
set_option maxRecDepth 100000 in
set_option maxHeartbeats 2000000 in
theorem moves_walk (A B C : Option Addr) (ca cb cc : Nat) (a b c : List UInt8) (w : World) (hA : InB w A ca a) (hB : InB w B cb b) (hC : InB w C cc c) :
    Calls Try.prog 5 #[.slice A a.length ca, .slice B b.length cb, .slice C c.length cc] w fun e w' => e = .returned (.bool true) ∧ Below w.heap.size w w' := by
  have hHA := Lib.hid hA
  have hHB := Lib.hid hB
  have hHC := Lib.hid hC
  clear hA hB hC
  by_cases c0 : (200 : Int) < (a.length : Int)
  · go_enter Try.func5, Try.ntmps5
    go_wp2_with fail
    refine (awake_calls w).mono ?_
    rintro e w1 ⟨rfl, hb⟩
    go_wp2_with fail
    go_ret
    exact ⟨rfl, hb⟩
  by_cases c1 : (200 : Int) < (b.length : Int)
  · go_enter Try.func5, Try.ntmps5
    go_wp2_with fail
    refine (awake_calls w).mono ?_
    rintro e w1 ⟨rfl, hb⟩
    go_wp2_with fail
    go_ret
    exact ⟨rfl, hb⟩
  by_cases c2 : (200 : Int) < (c.length : Int)
  · go_enter Try.func5, Try.ntmps5
    go_wp2_with fail
    refine (awake_calls w).mono ?_
    rintro e w1 ⟨rfl, hb⟩
    go_wp2_with fail
    go_ret
    exact ⟨rfl, hb⟩
  go_enter Try.func5, Try.ntmps5
  go_wp2_with fail
  refine (awake_calls w).mono ?_
  rintro e w1 ⟨rfl, hb⟩
  have HH0 := Lib.hid (Holds.of_below hb)
  clear hb
  go_wp2_with fail
  refine (new_calls 1000 (by omega) w w1 [] HH0.out).mono ?_
  rintro e w2 ⟨g, rfl, h, hI, hH⟩
  have HI := Lib.hid hI; have HH := Lib.hid hH
  clear hI hH HH0
  go_wp2_with fail
  refine (append_calls g _ _ _ tX A ca a w _ (by decide) hHA.out.1 (by omega) (by decide) HI.out HH.out (fun w' hw => hHA.out.at_ hw)).mono ?_
  rintro e w3 ⟨he, h, hI, hH⟩
  rw [one_app0 tX good_tX a (by omega)] at he hI
  subst he
  have HI0 := Lib.hid hI; have HH0 := Lib.hid hH
  clear hI hH  HI HH
  go_wp2_with fail
  refine (sync_calls g _ _ _ tX w _ (by decide) HI0.out HH0.out ).mono ?_
  rintro e w4 ⟨he, h, hI, hH⟩
  rw [one_sync tX good_tX] at he hI
  subst he
  have HI1 := Lib.hid hI; have HH1 := Lib.hid hH
  clear hI hH  HI0 HH0
  go_wp2_with fail
  refine (append_calls g _ _ _ tX B cb b w _ (by decide) hHB.out.1 (by omega) (show [(tX, (⟨a, a.length⟩ : Fl))].length < 1000000000 by simp) HI1.out HH1.out (fun w' hw => hHB.out.at_ hw)).mono ?_
  rintro e w5 ⟨he, h, hI, hH⟩
  rw [one_app1 tX good_tX a b _ (by omega) (by omega)] at he hI
  subst he
  have HI2 := Lib.hid hI; have HH2 := Lib.hid hH
  clear hI hH  HI1 HH1
  go_wp2_with fail
  refine (append_calls g _ _ _ tY C cc c w _ (by decide) hHC.out.1 (by omega) (show [(tX, (⟨a ++ b, a.length⟩ : Fl))].length < 1000000000 by simp) HI2.out HH2.out (fun w' hw => hHC.out.at_ hw)).mono ?_
  rintro e w6 ⟨he, h, hI, hH⟩
  rw [two_app 1 ⟨a ++ b, a.length⟩ c (by simp only [List.length_append]; omega) (by omega)] at he hI
  subst he
  have HI3 := Lib.hid hI; have HH3 := Lib.hid hH
  clear hI hH  HI2 HH2
  go_wp2_with fail
  refine (sync_calls g _ _ _ tY w _ (by decide) HI3.out HH3.out ).mono ?_
  rintro e w7 ⟨he, h, hI, hH⟩
  rw [two_sync] at he hI
  subst he
  have HI4 := Lib.hid hI; have HH4 := Lib.hid hH
  clear hI hH  HI3 HH3
  go_wp2_with fail
  refine (rename_calls g _ _ _ tX tY w _ (by decide) (by decide) (show [(tX, (⟨a ++ b, a.length⟩ : Fl)), (tY, (⟨c, c.length⟩ : Fl))].length < 1000000000 by simp) HI4.out HH4.out ).mono ?_
  rintro e w8 ⟨he, h, hI, hH⟩
  rw [two_ren] at he hI
  subst he
  have HI5 := Lib.hid hI; have HH5 := Lib.hid hH
  clear hI hH  HI4 HH4
  go_wp2_with fail
  refine (read_calls g _ _ _ tX w _ (by decide) HI5.out HH5.out).mono ?_
  rintro e wa ⟨va, he, hva, hR, h, hI, hH⟩
  rw [gone_read] at he
  subst he
  have HI6 := Lib.hid hI; have HH6 := Lib.hid (show Holds w (h ++ []) wa from hH.sub (List.Sublist.append (List.Sublist.refl _) (List.nil_sublist _)))
  clear hI hH HI5 HH5 hR
  go_wp2_with fail
  refine (read_calls g _ _ _ tY w _ (by decide) HI6.out HH6.out).mono ?_
  rintro e wb ⟨vp, he, hvp, hR, h, hI, hH⟩
  rw [one_read tY good_tY] at he hR
  subst he
  have HI7 := Lib.hid hI; have HH7 := Lib.hid hH; have HRP := Lib.hid hR
  clear hI hH HI6 HH6 hR
  go_wp2_with fail
  refine (crash_calls g _ _ _ 0 0 w _ HI7.out HH7.out).mono ?_
  rintro e wc ⟨rfl, h, hI, hH⟩
  have q : crM ⟨1000, 1, true, [(tY, ⟨a ++ b, a.length⟩)]⟩ 0 0 = ⟨1000, 1, false, [(tY, crF 0 0 ⟨a ++ b, a.length⟩)]⟩ := rfl
  rw [q] at hI
  have HI8 := Lib.hid hI; have HH8 := Lib.hid hH
  clear hI hH HI7 HH7 q
  go_wp2_with fail
  refine (on_calls g _ _ _ w _ (show (1 : Int) < 1000000000 by decide) HI8.out HH8.out).mono ?_
  rintro e wd ⟨rfl, h, hI, hH⟩
  have q : onM ⟨1000, 1, false, [(tY, crF 0 0 ⟨a ++ b, a.length⟩)]⟩ = ⟨1000, 2, true, [(tY, crF 0 0 ⟨a ++ b, a.length⟩)]⟩ := rfl
  rw [q] at hI
  have HI9 := Lib.hid hI; have HH9 := Lib.hid hH
  clear hI hH HI8 HH8 q
  go_wp2_with fail
  refine (read_calls g _ _ _ tY w _ (by decide) HI9.out HH9.out).mono ?_
  rintro e we ⟨vq, he, hvq, hR, h, hI, hH⟩
  rw [one_read tY good_tY] at he hR
  subst he
  have HX : (crF 0 0 ⟨a ++ b, a.length⟩).b = a := by
    have h := cr_whole (keep := 0) (torn := 0) (a := a) (b := b) (k := 0) (by simp only [mn, mx]; split <;> split <;> omega) (fun h => h.2 rfl)
    rw [h, List.take_zero, List.append_nil]
  simp only [HX] at hR
  have hcQ : (convert 28 9 vq).run Try.prog we = .ok (.string ⟨a.toArray⟩) we := conv_str hR (hH.perm (k := hvq ++ (h ++ (hvp ++ []))) (by classical rw [List.perm_iff_count]; intro a; simp only [List.count_append, List.count_cons, List.count_nil]; omega))
  have hcP : (convert 28 9 vp).run Try.prog we = .ok (.string ⟨(a ++ b).toArray⟩) we := conv_str HRP.out (hH.perm (k := hvp ++ (h ++ hvq)) (by classical rw [List.perm_iff_count]; intro a; simp only [List.count_append, List.count_cons, List.count_nil]; omega))
  have hcA : (convert 28 9 (.slice A a.length ca)).run Try.prog we = .ok (.string ⟨a.toArray⟩) we := conv_in hHA.out.1 (hHA.out.at_ hH)
  have hcB : (convert 28 9 (.slice B b.length cb)).run Try.prog we = .ok (.string ⟨b.toArray⟩) we := conv_in hHB.out.1 (hHB.out.at_ hH)
  have s1 : ∀ w : World, (Op.stringOp .add ⟨a.toArray⟩ ⟨b.toArray⟩).run Try.prog w = .ok (.string ⟨(a ++ b).toArray⟩) w := fun w => add_str a b (by omega) (by omega) rfl rfl rfl w
  obtain ⟨sA, hsA⟩ : ∃ s : ByteArray, (⟨a.toArray⟩ : ByteArray) = s := ⟨_, rfl⟩
  obtain ⟨sB, hsB⟩ : ∃ s : ByteArray, (⟨b.toArray⟩ : ByteArray) = s := ⟨_, rfl⟩
  obtain ⟨sC, hsC⟩ : ∃ s : ByteArray, (⟨(a ++ b).toArray⟩ : ByteArray) = s := ⟨_, rfl⟩
  rw [hsA] at hcQ hcA s1
  rw [hsB] at hcB s1
  rw [hsC] at hcP s1
  have HI10 := Lib.hid hI; have HH10 := Lib.hid hH
  clear hI hH HI9 HH9 hR HX hsA hsB hsC
  have HN := names_calls g _ _ _ w we (show [(tY, crF 0 0 ⟨a ++ b, a.length⟩)].length < 1000000000 by simp) HI10.out HH10.out
  have hnm : (namesM ⟨1000, 2, true, [(tY, crF 0 0 ⟨a ++ b, a.length⟩)]⟩).length = 1 := by simp [namesM]
  rw [hnm] at HN
  clear hnm
  go_wp2_with fail
  refine HN.mono ?_
  rintro e wf ⟨vn, rfl, hvn, hRn, h', hI, hH⟩
  obtain ⟨An, cn, rfl, _⟩ := RowB.form hRn
  have HH11 := Lib.hid hH
  clear hI hH hRn
  go_wp2_with fail
  go_ret
  exact ⟨rfl, HH11.out.below⟩
end Go.Proofs.Ytocpelkgiebkjaa
