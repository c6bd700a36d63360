/- wal's own first example answers true. No condition. -/
import Derived.Test.YthgebchidkadhaaPw
import Derived.Lib.SlBytesConst
namespace Go.Proofs.Ythgebchidkadhaa
open Go.RowKit Go.Proofs.Ythgebchidkadhaa.Sp Go.Proofs.Ythgebchidkadhaa.QWal
set_option linter.unusedVariables false
set_option linter.unusedSimpArgs false
/-- A row of bytes made a text. -/
theorem conv_str {w0 w : World} {F hv : Hp} {v : Value} {b : List UInt8} (R : RowB 5 1 v b.length (bv b) hv) (H : Holds w0 (hv ++ F) w) : (convert 31 9 v).run Try.prog w = .ok (.string ⟨b.toArray⟩) w := by
  obtain ⟨A, c, rfl, h1, h2, h3⟩ := R.reads H
  cases A with
  | none =>
    obtain rfl := h2 rfl
    have hb : b = [] := List.eq_nil_of_length_eq_zero (by have := h3.2.1 rfl; omega)
    subst hb
    rfl
  | some ad => exact run_convert_bytes_back (P := Try.prog) w 31 9 5 ad c b Try.underlying31 Try.underlying5 Try.underlying9 (fun j hj => h3.2.2 ad rfl j _ (by simp [bv, hj]))
/-- One literal record beside all else. -/
theorem one_row {w0 : World} {G : Hp} (b1 b2 : Nat) (x : UInt8) (z : Int) (c : Nat) (hc : 1 ≤ c ∧ c ≤ maxLen) (fr : Nat × Nat) (hz : z = (x.toNat : Int)) : ∃ Vf : Nat → Option Addr × Nat, ∀ w', Holds w0 ((b2, .cells #[.slice (some ⟨b1, 0, none⟩) 1 c] 31 (0, 0)) :: ((b1, .cells #[.int .u8 z] 5 fr) :: G)) w' → ∀ j r, ([[x]] : List (List UInt8))[j]? = some r → ∃ ad, some (⟨b2, 0, none⟩ : Addr) = some ad ∧ w'.cell? (ad.add j) = some (.slice (Vf j).1 r.length (Vf j).2) ∧ InB w' (Vf j).1 (Vf j).2 r := by
  subst hz
  refine ⟨fun _ => (some ⟨b1, 0, none⟩, c), fun w' H j r hj => ?_⟩
  match j, hj with
  | 0, hj =>
    obtain rfl : [x] = r := by simpa using hj
    refine ⟨_, rfl, ?_, fun h => by simp at h, hc.1, hc.2, rfl, fun h => by simp at h, fun ad had j u hj => ?_⟩
    · exact H.cell 0
    · injection had with had
      subst had
      match j, hj with
      | 0, hj =>
        obtain rfl : Value.int .u8 x.toNat = u := by simpa [bv] using hj
        exact H.tail.cell 0
      | j + 1, hj => simp [bv] at hj
  | j + 1, hj => simp at hj
def wd0 : DM := ⟨1000, 1, true, []⟩
def wa1 := addM wd0 (logN 0 wd0 nL) [[120]]
def ws1 := syncL wa1.2.1 wa1.2.2
def wa2 := addM ws1.2.1 ws1.2.2 [[121]]
def wd3 := onM (crM wa2.2.1 0 0)
theorem wa1_1 : wa1.1 = 0 := by kernel_rfl
theorem ws1_1 : ws1.1 = 0 := by kernel_rfl
theorem wa2_1 : wa2.1 = 0 := by kernel_rfl
theorem wa1_n : wa1.2.1.fl.length = 1 := by kernel_rfl
theorem ws1_n : ws1.2.1.fl.length = 1 := by kernel_rfl
theorem wa1_m : wa1.2.2.name = nL := by kernel_rfl
theorem ws1_m : ws1.2.2.name = nL := by kernel_rfl
theorem wa1_r : wa1.2.2.recs = [[120]] := by kernel_rfl
theorem ws1_r : ws1.2.2.recs = [[120]] := by kernel_rfl
theorem wa2_r : wa2.2.2.recs = [[120], [121]] := by kernel_rfl
theorem wa2_s : wa2.2.2.safe = 1 := by kernel_rfl
theorem wd3_r : readM wd3 nL = (frsB [[120]], 0) := by kernel_rfl
theorem wd3_y : (syncM wd3 nL).1 = 0 := by kernel_rfl
theorem wl3 : (crM wa2.2.1 0 0).lives = 1 := by kernel_rfl
theorem wat : atM (syncM wd3 nL).2 { (logN 0 wd3 nL) with recs := [[120]], safe := 1 } 0 = ([120], 0) := by kernel_rfl
theorem scan_all (l : List (List UInt8)) (h : ∀ r ∈ l, r.length ≤ 8000) (hn : l.length ≤ 1000) : frame_Scan.f 100000 (bi (frsB l)) = some (l.map bi, ((frsB l).length : Int), true) := by
  have hl := frsB_len l 8000 h
  have e := congrArg List.length (bi_frs l)
  rw [bi_len] at e
  rw [bi_frs, Pl.scan_f (l.map bi) 100000 (by rw [List.length_map]; omega) (by intro r hr; obtain ⟨x, hx, rfl⟩ := List.mem_map.mp hr; rw [bi_len]; exact h x hx) (by omega) (by rw [List.length_map]; omega), e]
set_option maxRecDepth 100000 in
set_option maxHeartbeats 4000000 in
theorem awake_calls (w : World) : Calls Try.prog 9 #[] w fun e w' => e = .returned (.bool true) ∧ Below w.heap.size w w' := by
  have kc := fun (w : World) (C : Array Value) (n c : Nat) => Lib.run_convert_bytes_const (P := Try.prog) w 31 5 C n c Try.underlying31 Try.underlying5
  go_enter Try.func9, Try.ntmps9
  go_wp2_with fail
  refine (new_calls 1000 (by omega) w w [] (Holds.nil w)).mono ?_
  rintro e w1 ⟨gd, rfl, hd, hD, hH⟩
  have HD := Lib.hid hD; have HH := Lib.hid hH
  clear hD hH
  go_wp2_with fail
  refine (open_none gd wd0 hd [] nL w w1 (by decide) HD.out HH.out (by kernel_rfl)).mono ?_
  rintro e w2 ⟨gl, rfl, hl, hL, hd2, hD2, hH2⟩
  have HL := Lib.hid hL; have HD2 := Lib.hid hD2; have HH2 := Lib.hid hH2
  clear hL hD2 hH2 HD HH
  go_wp2_with fail
  obtain ⟨Vf, hVf⟩ := one_row (w0 := w) (G := []) w2.heap.size (w2.heap.size + 1) 120 120 1 (by decide) (1, 2) (by decide)
  have H2a := HH2.out.alloc2 (.cells #[.int .u8 120] 5 (1, 2)) (.cells #[.slice (some ⟨w2.heap.size, 0, none⟩) 1 1] 31)
  refine (add_calls gl gd wd0 (logN gd wd0 nL) [[120]] (some ⟨w2.heap.size + 1, 0, none⟩) 1 hl hd2 [(w2.heap.size + 1, .cells #[.slice (some ⟨w2.heap.size, 0, none⟩) 1 1] 31), (w2.heap.size, .cells #[.int .u8 120] 5 (1, 2))] w _ (show nL.size ≤ _ by decide) (by decide) (by decide) (show ([] : List (List UInt8)).length ≤ _ by decide) (by decide) ⟨Vf, hVf⟩ HL.out HD2.out (H2a.perm (by classical rw [List.perm_iff_count]; intro a; simp only [List.count_append, List.count_cons, List.count_nil]; omega))).mono ?_
  rintro e w3 ⟨rfl, h3, hL3, hd3, hD3, hH3⟩
  rw [show (addM wd0 (logN gd wd0 nL) [[120]]).1 = 0 from wa1_1]
  have HL3 := Lib.hid (show IsL gl gd wa1.2.2 h3 from hL3); have HD3 := Lib.hid (show IsD gd wa1.2.1 hd3 from hD3)
  have HH3 := Lib.hid (show Holds w (h3 ++ (hd3 ++ [])) w3 from hH3.sub (List.Sublist.append (List.Sublist.refl h3) (List.Sublist.append (List.Sublist.refl hd3) (List.nil_sublist _))))
  clear hL3 hD3 hH3 hVf HL HD2 HH2 H2a
  go_wp2_with fail
  refine (lsync_calls gl gd wa1.2.1 wa1.2.2 h3 hd3 [] w w3 (by rw [wa1_m]; decide) HL3.out HD3.out HH3.out).mono ?_
  rintro e w4 ⟨rfl, h4, hL4, hd4, hD4, hH4⟩
  rw [show (syncL wa1.2.1 wa1.2.2).1 = 0 from ws1_1]
  have HL4 := Lib.hid (show IsL gl gd ws1.2.2 h4 from hL4); have HD4 := Lib.hid (show IsD gd ws1.2.1 hd4 from hD4); have HH4 := Lib.hid hH4
  clear hL4 hD4 hH4 HL3 HD3 HH3
  go_wp2_with fail
  obtain ⟨Vf2, hVf2⟩ := one_row (w0 := w) (G := []) w4.heap.size (w4.heap.size + 1) 121 121 1 (by decide) (1, 2) (by decide)
  have H4a := HH4.out.alloc2 (.cells #[.int .u8 121] 5 (1, 2)) (.cells #[.slice (some ⟨w4.heap.size, 0, none⟩) 1 1] 31)
  refine (add_calls gl gd ws1.2.1 ws1.2.2 [[121]] (some ⟨w4.heap.size + 1, 0, none⟩) 1 h4 hd4 [(w4.heap.size + 1, .cells #[.slice (some ⟨w4.heap.size, 0, none⟩) 1 1] 31), (w4.heap.size, .cells #[.int .u8 121] 5 (1, 2))] w _ (by rw [ws1_m]; decide) (by decide) (by decide) (by rw [ws1_r]; decide) (by rw [ws1_n]; decide) ⟨Vf2, hVf2⟩ HL4.out HD4.out (H4a.perm (by classical rw [List.perm_iff_count]; intro a; simp only [List.count_append, List.count_cons, List.count_nil]; omega))).mono ?_
  rintro e w5 ⟨rfl, h5, hL5, hd5, hD5, hH5⟩
  rw [show (addM ws1.2.1 ws1.2.2 [[121]]).1 = 0 from wa2_1]
  have HL5 := Lib.hid (show IsL gl gd wa2.2.2 h5 from hL5); have HD5 := Lib.hid (show IsD gd wa2.2.1 hd5 from hD5)
  have HH5 := Lib.hid (show Holds w (h5 ++ (hd5 ++ [])) w5 from hH5.sub (List.Sublist.append (List.Sublist.refl h5) (List.Sublist.append (List.Sublist.refl hd5) (List.nil_sublist _))))
  clear hL5 hD5 hH5 hVf2 HL4 HD4 HH4 H4a
  go_wp2_with fail
  refine (llen_calls gl gd _ h5 _ w w5 HL5.out HH5.out).mono ?_
  rintro e w6 ⟨rfl, hw⟩
  rw [hw]
  clear hw w6
  rw [wa2_r]
  go_wp2_with fail
  refine (lsafe_calls gl gd _ h5 _ w w5 HL5.out HH5.out).mono ?_
  rintro e w6 ⟨rfl, hw⟩
  rw [hw]
  clear hw w6
  rw [wa2_s]
  go_wp2_with fail
  refine (crash_calls gd _ hd5 h5 0 0 w w5 HD5.out (HH5.out.perm (by classical rw [List.perm_iff_count]; intro a; simp only [List.count_append, List.count_cons, List.count_nil]; omega))).mono ?_
  rintro e w6 ⟨rfl, hd6, hD6, hH6⟩
  have HD6 := Lib.hid hD6; have HH6 := Lib.hid hH6
  clear hD6 hH6 HL5 HD5 HH5
  go_wp2_with fail
  refine (on_calls gd _ hd6 _ w w6 (by rw [wl3]; decide) HD6.out HH6.out).mono ?_
  rintro e w7 ⟨rfl, hd7, hD7, hH7⟩
  have HD7 := Lib.hid (show IsD gd wd3 hd7 from hD7); have HH7 := Lib.hid hH7
  clear hD7 hH7 HD6 HH6
  go_wp2_with fail
  refine (open_whole gd wd3 hd7 _ nL w w7 (by decide) HD7.out HH7.out 100000 [[120]] ((frsB [[120]]).length : Int) (by rw [wd3_r]) (by rw [wd3_r]; decide +kernel) (by rw [wd3_r]; exact scan_all [[120]] (by decide) (by decide)) wd3_y).mono ?_
  rintro e w8 ⟨gk, rfl, h8, hL8, hd8, hD8, hH8⟩
  have HL8 := Lib.hid hL8; have HD8 := Lib.hid hD8; have HH8 := Lib.hid hH8
  clear hL8 hD8 hH8 HD7 HH7
  go_wp2_with fail
  have hone : ∀ r ∈ ([[120]] : List (List UInt8)), r.length ≤ 140737488355328 := by decide
  refine (lat_calls gk gd (syncM wd3 nL).2 _ 0 h8 hd8 _ w w8 hone HL8.out HD8.out HH8.out).mono ?_
  rintro e w9 ⟨v, he, hv, hR, h9, hL9, hH9⟩
  rw [show atM (syncM wd3 nL).2 { (logN gd wd3 nL) with recs := [[120]], safe := ([[120]] : List (List UInt8)).length } 0 = ([120], 0) from wat] at he hR
  subst he
  have hcv := conv_str hR hH9
  have HL9 := Lib.hid hL9; have HH9 := Lib.hid hH9
  clear hL9 hH9 hR HL8 HD8 HH8
  have hcl := llen_calls gk gd _ h9 (hv ++ (hd8 ++ (h5 ++ []))) w w9 HL9.out (HH9.out.perm (by classical rw [List.perm_iff_count]; intro a; simp only [List.count_append, List.count_cons, List.count_nil]; omega))
  have HCL := Lib.hid hcl
  clear hcl
  go_wp2_with fail
  refine HCL.out.mono ?_
  rintro e w10 ⟨rfl, hw⟩
  rw [hw]
  clear hw w10
  go_wp2_with fail
  go_ret
  exact ⟨rfl, HH9.out.below⟩
end Go.Proofs.Ythgebchidkadhaa
