/- DiskSafe's walk. No condition. -/
import Derived.Test.YtocpelkgiebkjaaAw
import Derived.Test.YtocpelkgiebkjaaOb
namespace Go.Proofs.Ytocpelkgiebkjaa
open Go.RowKit Go.Proofs.Ytocpelkgiebkjaa.Sp
set_option linter.unusedVariables false
set_option linter.unusedSimpArgs false
def tF : ByteArray := ⟨#[102]⟩
theorem good_tF : goodN tF = true := by kernel_rfl
theorem one_app0 (s : ByteArray) (hs : goodN s = true) (d : List UInt8) (hd : d.length ≤ 300) : appM ⟨1000, 1, true, []⟩ s d = (0, ⟨1000, 1, true, [(s, ⟨d, 0⟩)]⟩) := by
  have : ¬ (1000 : Int) < d.length := by omega
  simp [appM, hs, totM, insM, this]
theorem one_sync (s : ByteArray) (hs : goodN s = true) (d : List UInt8) (n : Nat) (l : Int) : syncM ⟨1000, l, true, [(s, ⟨d, n⟩)]⟩ s = (0, ⟨1000, l, true, [(s, ⟨d, d.length⟩)]⟩) := by
  simp [syncM, findM, hs, namedM, setM]
theorem one_app1 (s : ByteArray) (hs : goodN s = true) (d d' : List UInt8) (n : Nat) (hd : d.length ≤ 300) (hd' : d'.length ≤ 300) : appM ⟨1000, 1, true, [(s, ⟨d, n⟩)]⟩ s d' = (0, ⟨1000, 1, true, [(s, ⟨d ++ d', n⟩)]⟩) := by
  have : ¬ (1000 : Int) - d.length < d'.length := by omega
  simp [appM, hs, totM, namedM, setM, this]
theorem one_read (s : ByteArray) (hs : goodN s = true) (f : Fl) (l : Int) : readM ⟨1000, l, true, [(s, f)]⟩ s = (f.b, 0) := by
  simp [readM, findM, hs, namedM]
theorem conv_in {w : World} {A : Option Addr} {c : Nat} {b : List UInt8} (hc : A = none → c = 0) (h3 : Reads w A b.length 1 (bv b)) : (convert 28 9 (.slice A b.length c)).run Try.prog w = .ok (.string ⟨b.toArray⟩) w := by
  cases A with
  | none =>
    obtain rfl := hc rfl
    have hb : b = [] := List.eq_nil_of_length_eq_zero (by have := h3.2.1 rfl; omega)
    subst hb
    rfl
  | some ad => exact run_convert_bytes_back (P := Try.prog) w 28 9 5 ad c b Try.underlying28 Try.underlying5 Try.underlying9 (fun j hj => h3.2.2 ad rfl j _ (by simp [bv, hj]))
theorem conv_take {w : World} {bd : Addr} {c k : Nat} {b : List UInt8} (hk : k ≤ b.length) (h3 : Reads w (some bd) b.length 1 (bv b)) : (convert 28 9 (.slice (some bd) k c)).run Try.prog w = .ok (.string ⟨(b.take k).toArray⟩) w := by
  have e : (b.take k).length = k := by simp; omega
  have h4 := h3.take hk
  rw [Nat.mul_one, bv_take] at h4
  have := conv_in (A := some bd) (c := c) (b := b.take k) (fun h => by cases h) (by rw [e]; exact h4)
  rwa [e] at this
theorem cr_n {keep : Int} {a b : List UInt8} {k : Nat} (h : mn (mx keep 0) (b.length : Int) = k) : crN keep ⟨a ++ b, a.length⟩ = a.length + k := by
  unfold crN
  have e : (((a ++ b).length : Nat) : Int) - (a.length : Int) = b.length := by rw [List.length_append]; omega
  show a.length + (mn (mx keep 0) (((a ++ b).length : Int) - a.length)).toNat = _
  rw [e, h]
  omega
theorem cr_spoilt {keep : Int} {torn : UInt8} {a b : List UInt8} {k : Nat} (h : mn (mx keep 0) (b.length : Int) = k) (hk : k < b.length) (ht : torn ≠ 0) : (crF keep torn ⟨a ++ b, a.length⟩).b = (a ++ b.take k) ++ [b[k] ^^^ torn] := by
  show crB _ _ _ = _
  unfold crB
  rw [cr_n h, if_pos ⟨by show a.length + k < (a ++ b).length; rw [List.length_append]; omega, ht⟩]
  have e1 : (a ++ b).take (a.length + k) = a ++ b.take k := by rw [List.take_length_add_append]
  have e2 : (a ++ b).getD (a.length + k) 0 = b[k] := by
    rw [List.getD_eq_getElem?_getD, List.getElem?_append_right (by omega), show a.length + k - a.length = k by omega, List.getElem?_eq_getElem hk]
    rfl
  show (a ++ b).take (a.length + k) ++ [(a ++ b).getD (a.length + k) 0 ^^^ torn] = _
  rw [e1, e2]
theorem cr_whole {keep : Int} {torn : UInt8} {a b : List UInt8} {k : Nat} (h : mn (mx keep 0) (b.length : Int) = k) (ht : ¬ (k < b.length ∧ torn ≠ 0)) : (crF keep torn ⟨a ++ b, a.length⟩).b = a ++ b.take k := by
  show crB _ _ _ = _
  unfold crB
  rw [cr_n h, if_neg (by rintro ⟨h1, h2⟩; refine ht ⟨?_, h2⟩; have h3 : a.length + k < (a ++ b).length := h1; rw [List.length_append] at h3; omega)]
  show (a ++ b).take (a.length + k) = _
  rw [List.take_length_add_append]
theorem run_more {w0 w : World} {F hv : Hp} {v : Value} {Y : List UInt8} {z : UInt8} {n : Nat} (hn : Y.length = n) (R : RowB 5 1 v (Y ++ [z]).length (bv (Y ++ [z])) hv) (H : Holds w0 (hv ++ F) w) :
    ∃ gv cv, v = .slice (some ⟨gv, 0, none⟩) (n + 1) cv ∧ n + 1 ≤ cv ∧ ∀ m, (w.drewN m).cell? ⟨gv, n, none⟩ = some (.int .u8 z.toNat) ∧ (convert 28 9 (.slice (some ⟨gv, 0, none⟩) n cv)).run Try.prog (w.drewN m) = .ok (.string ⟨Y.toArray⟩) (w.drewN m) := by
  have hl : (Y ++ [z]).length = n + 1 := by simp [hn]
  rw [hl] at R
  have R' := R
  obtain ⟨h1, ⟨rfl, h0, rfl⟩ | ⟨g, cap, cur, rfl, rfl, h2, h3, h4, h5⟩⟩ := R
  · omega
  · refine ⟨g, cap, rfl, h2, fun m => ?_⟩
    obtain ⟨A, c, hv2, _, _, hr⟩ := R'.reads (H.drewN m)
    injection hv2 with e1 _ e2
    subst e1
    subst e2
    constructor
    · have := hr.2.2 _ rfl n (.int .u8 z.toNat) (by simp [bv, hn])
      have e : (⟨g, 0, none⟩ : Addr).add n = ⟨g, n, none⟩ := by simp [Addr.add]; omega
      rwa [e] at this
    · have h4 := hr.take (k := n) (by omega)
      have e : (bv (Y ++ [z])).take (n * 1) = bv Y := by rw [Nat.mul_one, bv_take, List.take_append_of_le_length (by omega), List.take_of_length_le (by omega)]
      rw [e] at h4
      have := conv_in (A := some ⟨g, 0, none⟩) (c := cap) (b := Y) (fun h => by cases h) (by rw [hn]; exact h4)
      rwa [hn] at this
theorem add_str (a b : List UInt8) (ha : a.length ≤ 300) (hb : b.length ≤ 300) {sA sB sC : ByteArray} (hA : (⟨a.toArray⟩ : ByteArray) = sA) (hB : (⟨b.toArray⟩ : ByteArray) = sB) (hC : (⟨(a ++ b).toArray⟩ : ByteArray) = sC) (w : World) :
    (Op.stringOp .add sA sB).run Try.prog w = .ok (.string sC) w := by
  subst hA hB hC
  exact run_string_add_lists w a b (by omega) (by omega)
set_option maxRecDepth 100000 in
set_option maxHeartbeats 2000000 in
theorem safe_walk (A B : Option Addr) (ca cb : Nat) (a b : List UInt8) (keep : Int) (torn : UInt8) (w : World) (hA : InB w A ca a) (hB : InB w B cb b) (hk : (Lit.int .i64 keep).wf = true) :
    Calls Try.prog 4 #[.slice A a.length ca, .slice B b.length cb, .int .i64 keep, .int .u8 torn.toNat] w fun e w' => e = .returned (.bool true) ∧ Below w.heap.size w w' := by
  have hHA := Lib.hid hA
  have hHB := Lib.hid hB
  have la := hA.2.1; have la2 := hA.2.2.1
  have lb := hB.2.1; have lb2 := hB.2.2.1
  simp only [maxLen] at la2 lb2
  clear hA hB
  by_cases c1 : (a.length : Int) > 300
  · go_enter Try.func4, Try.ntmps4
    go_wp2_with fail
    refine (awake_calls w).mono ?_
    rintro e w1 ⟨rfl, hb⟩
    go_wp2_with fail
    go_ret
    exact ⟨rfl, hb⟩
  by_cases c2 : (b.length : Int) > 300
  · go_enter Try.func4, Try.ntmps4
    go_wp2_with fail
    refine (awake_calls w).mono ?_
    rintro e w1 ⟨rfl, hb⟩
    go_wp2_with fail
    go_ret
    exact ⟨rfl, hb⟩
  go_enter Try.func4, Try.ntmps4
  go_wp2_with fail
  refine (awake_calls w).mono ?_
  rintro e w1 ⟨rfl, hb⟩
  have HH0 := Lib.hid (Holds.of_below hb)
  clear hb
  go_wp2_with fail
  refine (new_calls 1000 (by omega) w w1 [] HH0.out).mono ?_
  rintro e w2 ⟨g, rfl, h, hI, hH⟩
  have HI := Lib.hid hI; have HH := Lib.hid hH
  clear hI hH HH0
  go_wp2_with fail
  refine (append_calls g _ h _ tF A ca a w _ (by decide) hHA.out.1 (by omega) (by decide) HI.out HH.out (fun w' hw => hHA.out.at_ hw)).mono ?_
  rintro e w3 ⟨he, h2, hI, hH⟩
  rw [one_app0 tF good_tF a (by omega)] at he hI
  subst he
  have HI2 := Lib.hid hI; have HH2 := Lib.hid hH
  clear hI hH HI HH
  go_wp2_with fail
  refine (sync_calls g _ h2 _ tF w _ (by decide) HI2.out HH2.out).mono ?_
  rintro e w4 ⟨he, h3, hI, hH⟩
  rw [one_sync tF good_tF] at he hI
  subst he
  have HI3 := Lib.hid hI; have HH3 := Lib.hid hH
  clear hI hH HI2 HH2
  go_wp2_with fail
  refine (append_calls g _ h3 _ tF B cb b w _ (by decide) hHB.out.1 (by omega) (show [(tF, (⟨a, a.length⟩ : Fl))].length < 1000000000 by simp) HI3.out HH3.out (fun w' hw => hHB.out.at_ hw)).mono ?_
  rintro e w5 ⟨he, h4, hI, hH⟩
  rw [one_app1 tF good_tF a b _ (by omega) (by omega)] at he hI
  subst he
  have HI4 := Lib.hid hI; have HH4 := Lib.hid hH
  clear hI hH HI3 HH3
  go_wp2_with fail
  refine (crash_calls g _ h4 _ keep torn w _ HI4.out HH4.out).mono ?_
  rintro e w6 ⟨rfl, h5, hI, hH⟩
  have q : crM ⟨1000, 1, true, [(tF, ⟨a ++ b, a.length⟩)]⟩ keep torn = ⟨1000, 1, false, [(tF, crF keep torn ⟨a ++ b, a.length⟩)]⟩ := rfl
  rw [q] at hI
  have HI5 := Lib.hid hI; have HH5 := Lib.hid hH
  clear hI hH HI4 HH4 q
  go_wp2_with fail
  refine (on_calls g _ h5 _ w _ (show (1 : Int) < 1000000000 by decide) HI5.out HH5.out).mono ?_
  rintro e w7 ⟨rfl, h6, hI, hH⟩
  have q : onM ⟨1000, 1, false, [(tF, crF keep torn ⟨a ++ b, a.length⟩)]⟩ = ⟨1000, 2, true, [(tF, crF keep torn ⟨a ++ b, a.length⟩)]⟩ := rfl
  rw [q] at hI
  have HI6 := Lib.hid hI; have HH6 := Lib.hid hH
  clear hI hH HI5 HH5 q
  go_wp2_with fail
  refine (read_calls g _ h6 _ tF w _ (by decide) HI6.out HH6.out).mono ?_
  rintro e w8 ⟨v, he, hv, hR, h7, hI, hH⟩
  rw [one_read tF good_tF] at he hR
  subst he
  have HR := Lib.hid hR; have HH7 := Lib.hid hH
  have hrA : ∀ n, Reads (w8.drewN n) A a.length 1 (bv a) := fun n => hHA.out.at_ (hH.drewN n)
  have hrB : ∀ n, Reads (w8.drewN n) B b.length 1 (bv b) := fun n => hHB.out.at_ (hH.drewN n)
  have hcA : ∀ n, (convert 28 9 (.slice A a.length ca)).run Try.prog (w8.drewN n) = .ok (.string ⟨a.toArray⟩) (w8.drewN n) := fun n => conv_in hHA.out.1 (hrA n)
  have HRA := Lib.hid hrA; have HRB := Lib.hid hrB
  clear hI hH hR HI6 HH6 hrA hrB
  obtain ⟨sA, hsA⟩ : ∃ s : ByteArray, (⟨a.toArray⟩ : ByteArray) = s := ⟨_, rfl⟩
  rw [hsA] at hcA
  have HSA := Lib.hid hsA
  clear hsA
  cases B with
  | none =>
    obtain rfl := hHB.out.1 rfl
    obtain rfl : b = [] := List.eq_nil_of_length_eq_zero (by omega)
    by_cases k2 : keep < 0
    · have k1 : keep < 0 := k2
      have HMN := Lib.hid (show mn (mx keep 0) (0 : Int) = (0 : Nat) by simp only [mn, mx]; split <;> split <;> omega)
      have hkb : 0 ≤ 0 := by omega
      have hkc : (0 : Int) ≤ (0 : Int) := by omega
      have hcB : ∀ n, (convert 28 9 (.slice none 0 0)).run Try.prog (w8.drewN n) = .ok (.string ⟨(([] : List UInt8)).toArray⟩) (w8.drewN n) := fun n => rfl
      obtain ⟨sB, hsB⟩ : ∃ s : ByteArray, (⟨(([] : List UInt8)).toArray⟩ : ByteArray) = s := ⟨_, rfl⟩
      obtain ⟨sC, hsC⟩ : ∃ s : ByteArray, (⟨(a ++ ([] : List UInt8)).toArray⟩ : ByteArray) = s := ⟨_, rfl⟩
      have s1 : ∀ w : World, (Op.stringOp .add sA sB).run Try.prog w = .ok (.string sC) w := fun w => add_str a (([] : List UInt8)) (by omega) (by simp <;> omega) HSA.out hsB hsC w
      rw [hsB] at hcB
      have HSB := Lib.hid hsB; have HSC := Lib.hid hsC
      clear hsB hsC
      go_wp2_with fail
      go_quiet (fail)
      obtain ⟨w9, hw9⟩ : ∃ w9, w9 = w8.drewN nq := ⟨_, rfl⟩
      have H9 := Lib.hid (show Holds w (h7 ++ (hv ++ [])) w9 from hw9 ▸ HH7.out.drewN nq)
      rw [← hw9]
      clear hw9
      have hp1 : ¬ (0 : Int) < (0 : Int) := by omega
      have HX := Lib.hid (show (crF keep torn ⟨a ++ [], a.length⟩).b = a ++ ([] : List UInt8) from cr_whole (b := []) HMN.out (fun h => by have := h.1; omega))
      have hR := HR.out
      rw [HX.out] at hR
      have hcX : (convert 28 9 v).run Try.prog w9 = .ok (.string sC) w9 := by rw [← HSC.out]; exact conv_str hR H9.out.right
      clear hR
      go_wp2_with fail
      go_ret
      exact ⟨rfl, H9.out.below⟩
    · have k1 : ¬ keep < 0 := k2
      have HMN := Lib.hid (show mn (mx keep 0) (0 : Int) = (0 : Nat) by simp only [mn, mx]; split <;> split <;> omega)
      have hkb : 0 ≤ 0 := by omega
      have hkc : (0 : Int) ≤ (0 : Int) := by omega
      have hcB : ∀ n, (convert 28 9 (.slice none 0 0)).run Try.prog (w8.drewN n) = .ok (.string ⟨(([] : List UInt8)).toArray⟩) (w8.drewN n) := fun n => rfl
      obtain ⟨sB, hsB⟩ : ∃ s : ByteArray, (⟨(([] : List UInt8)).toArray⟩ : ByteArray) = s := ⟨_, rfl⟩
      obtain ⟨sC, hsC⟩ : ∃ s : ByteArray, (⟨(a ++ ([] : List UInt8)).toArray⟩ : ByteArray) = s := ⟨_, rfl⟩
      have s1 : ∀ w : World, (Op.stringOp .add sA sB).run Try.prog w = .ok (.string sC) w := fun w => add_str a (([] : List UInt8)) (by omega) (by simp <;> omega) HSA.out hsB hsC w
      rw [hsB] at hcB
      have HSB := Lib.hid hsB; have HSC := Lib.hid hsC
      clear hsB hsC
      go_wp2_with fail
      go_quiet (fail)
      obtain ⟨w9, hw9⟩ : ∃ w9, w9 = w8.drewN nq := ⟨_, rfl⟩
      have H9 := Lib.hid (show Holds w (h7 ++ (hv ++ [])) w9 from hw9 ▸ HH7.out.drewN nq)
      rw [← hw9]
      clear hw9
      have hp1 : ¬ (0 : Int) < (0 : Int) := by omega
      have HX := Lib.hid (show (crF keep torn ⟨a ++ [], a.length⟩).b = a ++ ([] : List UInt8) from cr_whole (b := []) HMN.out (fun h => by have := h.1; omega))
      have hR := HR.out
      rw [HX.out] at hR
      have hcX : (convert 28 9 v).run Try.prog w9 = .ok (.string sC) w9 := by rw [← HSC.out]; exact conv_str hR H9.out.right
      clear hR
      go_wp2_with fail
      go_ret
      exact ⟨rfl, H9.out.below⟩
  | some bd =>
    by_cases k1 : keep < (b.length : Int)
    · by_cases k2 : keep < 0
      · have HMN := Lib.hid (show mn (mx keep 0) (b.length : Int) = (0 : Nat) by simp only [mn, mx]; split <;> split <;> omega)
        have hkb : 0 ≤ b.length := by omega
        have hkc : (0 : Int) ≤ cb := by omega
        have hcB : ∀ n, (convert 28 9 (.slice (some bd) 0 cb)).run Try.prog (w8.drewN n) = .ok (.string ⟨(b.take 0).toArray⟩) (w8.drewN n) := fun n => by exact conv_take (by omega) (HRB.out n)
        obtain ⟨sB, hsB⟩ : ∃ s : ByteArray, (⟨(b.take 0).toArray⟩ : ByteArray) = s := ⟨_, rfl⟩
        obtain ⟨sC, hsC⟩ : ∃ s : ByteArray, (⟨(a ++ b.take 0).toArray⟩ : ByteArray) = s := ⟨_, rfl⟩
        have s1 : ∀ w : World, (Op.stringOp .add sA sB).run Try.prog w = .ok (.string sC) w := fun w => add_str a (b.take 0) (by omega) (by simp <;> omega) HSA.out hsB hsC w
        rw [hsB] at hcB
        have HSB := Lib.hid hsB; have HSC := Lib.hid hsC
        clear hsB hsC
        go_wp2_with fail
        go_quiet (fail)
        obtain ⟨w9, hw9⟩ : ∃ w9, w9 = w8.drewN nq := ⟨_, rfl⟩
        have H9 := Lib.hid (show Holds w (h7 ++ (hv ++ [])) w9 from hw9 ▸ HH7.out.drewN nq)
        have HB9 := Lib.hid (show Reads w9 (some bd) b.length 1 (bv b) from hw9 ▸ HRB.out nq)
        rw [← hw9]
        clear hw9
        by_cases p1 : 0 < b.length
        · by_cases p2 : torn = 0
          · have htz : ((torn.toNat : Int) != 0) = false := by rw [p2]; rfl
            have hp1 : (0 : Int) < (b.length : Int) := by omega
            have HX := Lib.hid (show (crF keep torn ⟨a ++ b, a.length⟩).b = a ++ b.take 0 from cr_whole HMN.out (fun h => h.2 p2))
            have hR := HR.out
            rw [HX.out] at hR
            have hcX : (convert 28 9 v).run Try.prog w9 = .ok (.string sC) w9 := by rw [← HSC.out]; exact conv_str hR H9.out.right
            clear hR
            go_wp2_with fail
            go_ret
            exact ⟨rfl, H9.out.below⟩
          · have hne : (a ++ b.take 0).length = sC.size := by rw [← HSC.out]; rfl
            obtain ⟨n, hn⟩ : ∃ n, n = sC.size := ⟨_, rfl⟩
            have hnb : (n : Int) ≤ 600 := by rw [hn, ← hne]; simp; omega
            have HX := Lib.hid (cr_spoilt (a := a) HMN.out p1 p2)
            obtain ⟨bk, hbk⟩ : ∃ bk, bk = b[0]'p1 := ⟨_, rfl⟩
            obtain ⟨zz, hzz⟩ : ∃ zz, zz = bk ^^^ torn := ⟨_, rfl⟩
            have hR := HR.out
            rw [HX.out, ← hbk, ← hzz] at hR
            obtain ⟨gv, cv, rfl, hcv, hrun⟩ := run_more (hne.trans hn.symm) hR H9.out.right
            rw [HSC.out] at hrun
            have hc1 := fun m => (hrun m).1
            have hc2 := fun m => (hrun m).2
            have hc3 : ∀ m, (w9.drewN m).cell? (bd.add 0) = some (.int .u8 bk.toNat) := fun m => (hHB.out.at_ (H9.out.drewN m)).2.2 bd rfl 0 _ (by rw [hbk]; simp [bv, p1])
            have hc3b : ∀ m, (w9.drewN m).cell? bd = some (.int .u8 bk.toNat) := fun m => by
              have := hc3 m
              have e : bd.add 0 = bd := by cases bd; simp [Addr.add]
              rwa [e] at this
            have hsz : sC.size = n := hn.symm
            have hx8 : Go.bits .xor .u8 (bk.toNat : Int) (torn.toNat : Int) = (zz.toNat : Nat) := by rw [hzz]; exact xorB bk torn
            have htz : ((torn.toNat : Int) != 0) = true := by
              simp only [bne_iff_ne, ne_eq]
              intro q
              exact p2 (UInt8.toNat_inj.mp (show torn.toNat = 0 by omega))
            have hp1 : (0 : Int) < (b.length : Int) := by omega
            have P2 := Lib.hid p2
            clear hR hrun hbk hzz hn hne p2
            go_wp2_with fail
            go_quiet (fail)
            go_wp2_with fail
            go_ret
            exact ⟨rfl, (H9.out.drewN _).below⟩
        · have hp1 : ¬ (0 : Int) < (b.length : Int) := by omega
          have HX := Lib.hid (show (crF keep torn ⟨a ++ b, a.length⟩).b = a ++ b.take 0 from cr_whole HMN.out (fun h => by have := h.1; omega))
          have hR := HR.out
          rw [HX.out] at hR
          have hcX : (convert 28 9 v).run Try.prog w9 = .ok (.string sC) w9 := by rw [← HSC.out]; exact conv_str hR H9.out.right
          clear hR
          go_wp2_with fail
          go_ret
          exact ⟨rfl, H9.out.below⟩
      · obtain ⟨k, rfl⟩ : ∃ k : Nat, (k : Int) = keep := ⟨keep.toNat, by omega⟩
        have HMN := Lib.hid (show mn (mx (k : Int) 0) (b.length : Int) = (k : Nat) by simp only [mn, mx]; split <;> split <;> omega)
        have hkb : k ≤ b.length := by omega
        have hkc : (k : Int) ≤ cb := by omega
        have hcB : ∀ n, (convert 28 9 (.slice (some bd) k cb)).run Try.prog (w8.drewN n) = .ok (.string ⟨(b.take k).toArray⟩) (w8.drewN n) := fun n => by exact conv_take (by omega) (HRB.out n)
        obtain ⟨sB, hsB⟩ : ∃ s : ByteArray, (⟨(b.take k).toArray⟩ : ByteArray) = s := ⟨_, rfl⟩
        obtain ⟨sC, hsC⟩ : ∃ s : ByteArray, (⟨(a ++ b.take k).toArray⟩ : ByteArray) = s := ⟨_, rfl⟩
        have s1 : ∀ w : World, (Op.stringOp .add sA sB).run Try.prog w = .ok (.string sC) w := fun w => add_str a (b.take k) (by omega) (by simp <;> omega) HSA.out hsB hsC w
        rw [hsB] at hcB
        have HSB := Lib.hid hsB; have HSC := Lib.hid hsC
        clear hsB hsC
        go_wp2_with fail
        go_quiet (fail)
        obtain ⟨w9, hw9⟩ : ∃ w9, w9 = w8.drewN nq := ⟨_, rfl⟩
        have H9 := Lib.hid (show Holds w (h7 ++ (hv ++ [])) w9 from hw9 ▸ HH7.out.drewN nq)
        have HB9 := Lib.hid (show Reads w9 (some bd) b.length 1 (bv b) from hw9 ▸ HRB.out nq)
        rw [← hw9]
        clear hw9
        have p1 : k < b.length := by omega
        by_cases p2 : torn = 0
        · have htz : ((torn.toNat : Int) != 0) = false := by rw [p2]; rfl
          have hp1 : (k : Int) < (b.length : Int) := by omega
          have HX := Lib.hid (show (crF (k : Int) torn ⟨a ++ b, a.length⟩).b = a ++ b.take k from cr_whole HMN.out (fun h => h.2 p2))
          have hR := HR.out
          rw [HX.out] at hR
          have hcX : (convert 28 9 v).run Try.prog w9 = .ok (.string sC) w9 := by rw [← HSC.out]; exact conv_str hR H9.out.right
          clear hR
          go_wp2_with fail
          go_ret
          exact ⟨rfl, H9.out.below⟩
        · have hne : (a ++ b.take k).length = sC.size := by rw [← HSC.out]; rfl
          obtain ⟨n, hn⟩ : ∃ n, n = sC.size := ⟨_, rfl⟩
          have hnb : (n : Int) ≤ 600 := by rw [hn, ← hne]; simp; omega
          have HX := Lib.hid (cr_spoilt (a := a) HMN.out p1 p2)
          obtain ⟨bk, hbk⟩ : ∃ bk, bk = b[k]'p1 := ⟨_, rfl⟩
          obtain ⟨zz, hzz⟩ : ∃ zz, zz = bk ^^^ torn := ⟨_, rfl⟩
          have hR := HR.out
          rw [HX.out, ← hbk, ← hzz] at hR
          obtain ⟨gv, cv, rfl, hcv, hrun⟩ := run_more (hne.trans hn.symm) hR H9.out.right
          rw [HSC.out] at hrun
          have hc1 := fun m => (hrun m).1
          have hc2 := fun m => (hrun m).2
          have hc3 : ∀ m, (w9.drewN m).cell? (bd.add k) = some (.int .u8 bk.toNat) := fun m => (hHB.out.at_ (H9.out.drewN m)).2.2 bd rfl k _ (by rw [hbk]; simp [bv, p1])
          have hsz : sC.size = n := hn.symm
          have hx8 : Go.bits .xor .u8 (bk.toNat : Int) (torn.toNat : Int) = (zz.toNat : Nat) := by rw [hzz]; exact xorB bk torn
          have htz : ((torn.toNat : Int) != 0) = true := by
            simp only [bne_iff_ne, ne_eq]
            intro q
            exact p2 (UInt8.toNat_inj.mp (show torn.toNat = 0 by omega))
          have hp1 : (k : Int) < (b.length : Int) := by omega
          have P2 := Lib.hid p2
          clear hR hrun hbk hzz hn hne p2
          go_wp2_with fail
          go_quiet (fail)
          go_wp2_with fail
          go_ret
          exact ⟨rfl, (H9.out.drewN _).below⟩
    · have HMN := Lib.hid (show mn (mx keep 0) (b.length : Int) = (b.length : Nat) by simp only [mn, mx]; split <;> split <;> omega)
      have hkb : b.length ≤ b.length := by omega
      have hkc : (b.length : Int) ≤ cb := by omega
      have hcB : ∀ n, (convert 28 9 (.slice (some bd) b.length cb)).run Try.prog (w8.drewN n) = .ok (.string ⟨(b.take b.length).toArray⟩) (w8.drewN n) := fun n => by exact conv_take (by omega) (HRB.out n)
      obtain ⟨sB, hsB⟩ : ∃ s : ByteArray, (⟨(b.take b.length).toArray⟩ : ByteArray) = s := ⟨_, rfl⟩
      obtain ⟨sC, hsC⟩ : ∃ s : ByteArray, (⟨(a ++ b.take b.length).toArray⟩ : ByteArray) = s := ⟨_, rfl⟩
      have s1 : ∀ w : World, (Op.stringOp .add sA sB).run Try.prog w = .ok (.string sC) w := fun w => add_str a (b.take b.length) (by omega) (by simp <;> omega) HSA.out hsB hsC w
      rw [hsB] at hcB
      have HSB := Lib.hid hsB; have HSC := Lib.hid hsC
      clear hsB hsC
      go_wp2_with fail
      go_quiet (fail)
      obtain ⟨w9, hw9⟩ : ∃ w9, w9 = w8.drewN nq := ⟨_, rfl⟩
      have H9 := Lib.hid (show Holds w (h7 ++ (hv ++ [])) w9 from hw9 ▸ HH7.out.drewN nq)
      have HB9 := Lib.hid (show Reads w9 (some bd) b.length 1 (bv b) from hw9 ▸ HRB.out nq)
      rw [← hw9]
      clear hw9
      have HX := Lib.hid (show (crF keep torn ⟨a ++ b, a.length⟩).b = a ++ b.take b.length from cr_whole HMN.out (fun h => by have := h.1; omega))
      have hR := HR.out
      rw [HX.out] at hR
      have hcX : (convert 28 9 v).run Try.prog w9 = .ok (.string sC) w9 := by rw [← HSC.out]; exact conv_str hR H9.out.right
      clear hR
      go_wp2_with fail
      go_ret
      exact ⟨rfl, H9.out.below⟩
end Go.Proofs.Ytocpelkgiebkjaa
