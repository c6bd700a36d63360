/- wal.Open: contracts for every world. Conditions: each theorem's own. -/
import Derived.Test.YthgebchidkadhaaBr
import Derived.Test.YthgebchidkadhaaCx
namespace Go.Proofs.Ythgebchidkadhaa
open Go.RowKit Go.Proofs.Ythgebchidkadhaa.Sp Go.Proofs.Ythgebchidkadhaa.QWal Go.Proofs.YthgebchidkadhaaW.PrintWords
set_option linter.unusedVariables false
set_option linter.unusedSimpArgs false
def logN (gd : Nat) (d : DM) (name : ByteArray) : LM := ⟨name, [], 0, d.lives, false⟩
theorem logN_is (gl gd : Nat) (d : DM) (name : ByteArray) : IsL gl gd (logN gd d name) [(gl, logO gd (logN gd d name) (.slice none 0 0))] := ⟨none, 0, [], [], [], RowB.nil _ _, ⟨rfl, rfl⟩, rfl⟩
set_option maxRecDepth 100000 in
set_option maxHeartbeats 4000000 in
theorem open_none (gd : Nat) (d : DM) (hd F : Hp) (name : ByteArray) (w0 w : World) (hs0 : name.size ≤ 9223372036854775807) (hD : IsD gd d hd) (H : Holds w0 (hd ++ F) w) (he : (readM d name).2 = 4) : Calls Try.prog 11 #[.pointer (some ⟨gd, 0, none⟩), .string name] w fun e w' => ∃ gl, e = .returned (.tuple #[.pointer (some ⟨gl, 0, none⟩), .int .i64 0]) ∧ ∃ h', IsL gl gd (logN gd d name) h' ∧ ∃ hd', IsD gd d hd' ∧ Holds w0 (h' ++ (hd' ++ F)) w' := by
  have HD := Lib.hid hD; have HH := Lib.hid H; have HE := Lib.hid he
  clear hD H he
  go_enter Try.func11, Try.ntmps11
  go_wp2_with fail
  refine (read_calls gd d hd F name w0 w hs0 HD.out HH.out).mono ?_
  rintro e w1 ⟨v, rfl, hv, hR, hd1, hD1, hH1⟩
  obtain ⟨Ab, cb, rfl, hcb, hnb, hrd⟩ := hR.reads (F := hd1 ++ F) (hH1.perm (by classical rw [List.perm_iff_count]; intro a; simp only [List.count_append, List.count_cons, List.count_nil]; omega))
  rw [HE.out]
  have HR := Lib.hid hR; have HD1 := Lib.hid hD1; have HH1 := Lib.hid hH1; have HRD := Lib.hid hrd; have HCB := Lib.hid hcb
  clear hR hD1 hH1 hrd hcb hnb
  go_wp2_with fail
  refine (lives_calls gd d hd1 _ w0 w1 HD1.out HH1.out).mono ?_
  rintro e w2 ⟨rfl, rfl⟩
  go_wp2_with fail
  have hz := (HH1.out.alloc (logO gd (logN gd d name) (.slice none 0 0))).sub (k := (w1.heap.size, logO gd (logN gd d name) (.slice none 0 0)) :: (hd1 ++ F)) (List.Sublist.cons_cons _ (List.Sublist.append (List.Sublist.refl _) (List.sublist_append_right hv F)))
  exact bodyPost_ret (v := .tuple #[.pointer (some ⟨w1.heap.size, 0, none⟩), .int .i64 0]) (by simp [results, Try.results11, go_sem]) rfl ⟨w1.heap.size, rfl, _, logN_is _ _ _ _, hd1, HD1.out, hz⟩
set_option maxRecDepth 100000 in
set_option maxHeartbeats 4000000 in
theorem open_no (gd : Nat) (d : DM) (hd F : Hp) (name : ByteArray) (w0 w : World) (hs0 : name.size ≤ 9223372036854775807) (hD : IsD gd d hd) (H : Holds w0 (hd ++ F) w) (he4 : (readM d name).2 ≠ 4) (he0 : (readM d name).2 ≠ 0) : Calls Try.prog 11 #[.pointer (some ⟨gd, 0, none⟩), .string name] w fun e w' => e = .returned (.tuple #[.pointer none, .int .i64 (readM d name).2]) ∧ ∃ hd', IsD gd d hd' ∧ Holds w0 (hd' ++ F) w' := by
  obtain ⟨e1, he⟩ : ∃ e1, (readM d name).2 = e1 := ⟨_, rfl⟩
  rw [he] at he4 he0 ⊢
  have h4 : (e1 == 4) = false := by rw [beq_eq_false_iff_ne]; exact he4
  have h0 : (e1 != 0) = true := by rw [bne_iff_ne]; exact he0
  clear he4 he0
  have HD := Lib.hid hD; have HH := Lib.hid H; have HE := Lib.hid he
  clear hD H he
  go_enter Try.func11, Try.ntmps11
  go_wp2_with fail
  refine (read_calls gd d hd F name w0 w hs0 HD.out HH.out).mono ?_
  rintro e w1 ⟨v, rfl, hv, hR, hd1, hD1, hH1⟩
  obtain ⟨Ab, cb, rfl, hcb, hnb, hrd⟩ := hR.reads (F := hd1 ++ F) (hH1.perm (by classical rw [List.perm_iff_count]; intro a; simp only [List.count_append, List.count_cons, List.count_nil]; omega))
  rw [HE.out]
  have HR := Lib.hid hR; have HD1 := Lib.hid hD1; have HH1 := Lib.hid hH1; have HRD := Lib.hid hrd; have HCB := Lib.hid hcb
  clear hR hD1 hH1 hrd hcb hnb
  go_wp2_with fail
  refine (lives_calls gd d hd1 _ w0 w1 HD1.out HH1.out).mono ?_
  rintro e w2 ⟨rfl, rfl⟩
  go_wp2_with fail
  have hz := (HH1.out.alloc (logO gd (logN gd d name) (.slice none 0 0))).sub (k := hd1 ++ F) ((List.Sublist.append (List.Sublist.refl hd1) (List.sublist_append_right hv F)).cons _)
  exact bodyPost_ret (v := .tuple #[.pointer none, .int .i64 e1]) (by simp [results, Try.results11, go_sem]) rfl ⟨rfl, hd1, HD1.out, hz⟩
set_option maxRecDepth 100000 in
set_option maxHeartbeats 4000000 in
theorem open_whole (gd : Nat) (d : DM) (hd F : Hp) (name : ByteArray) (w0 w : World) (hs0 : name.size ≤ 9223372036854775807) (hD : IsD gd d hd) (H : Holds w0 (hd ++ F) w) (k : Nat) (rs : List (List UInt8)) (used : Int) (he : (readM d name).2 = 0) (hb : (readM d name).1.length ≤ 9223372036854775807) (hsc : frame_Scan.f k (bi (readM d name).1) = some (rs.map bi, used, true)) (hy : (syncM d name).1 = 0) : Calls Try.prog 11 #[.pointer (some ⟨gd, 0, none⟩), .string name] w fun e w' => ∃ gl, e = .returned (.tuple #[.pointer (some ⟨gl, 0, none⟩), .int .i64 0]) ∧ ∃ h', IsL gl gd { (logN gd d name) with recs := rs, safe := rs.length } h' ∧ ∃ hd', IsD gd (syncM d name).2 hd' ∧ Holds w0 (h' ++ (hd' ++ F)) w' := by
  have HSC := Lib.hid hsc; have HY := Lib.hid hy; have HB := Lib.hid hb
  clear hsc hy hb
  have HD := Lib.hid hD; have HH := Lib.hid H; have HE := Lib.hid he
  clear hD H he
  go_enter Try.func11, Try.ntmps11
  go_wp2_with fail
  refine (read_calls gd d hd F name w0 w hs0 HD.out HH.out).mono ?_
  rintro e w1 ⟨v, rfl, hv, hR, hd1, hD1, hH1⟩
  obtain ⟨Ab, cb, rfl, hcb, hnb, hrd⟩ := hR.reads (F := hd1 ++ F) (hH1.perm (by classical rw [List.perm_iff_count]; intro a; simp only [List.count_append, List.count_cons, List.count_nil]; omega))
  rw [HE.out]
  have HR := Lib.hid hR; have HD1 := Lib.hid hD1; have HH1 := Lib.hid hH1; have HRD := Lib.hid hrd; have HCB := Lib.hid hcb
  clear hR hD1 hH1 hrd hcb hnb
  go_wp2_with fail
  refine (lives_calls gd d hd1 _ w0 w1 HD1.out HH1.out).mono ?_
  rintro e w2 ⟨rfl, rfl⟩
  have HA := Lib.hid (HH1.out.alloc (logO gd (logN gd d name) (.slice none 0 0)))
  have HC3 := Lib.hid (reads_C (HRD.out.below ((Below.refl _ w1).alloc (Nat.le_refl _) (logO gd (logN gd d name) (.slice none 0 0)))) HB.out)
  have hcl : (readM d name).1.length ≤ cb := HCB.out
  have HSN := Lib.hid (frame_Scan.calls k Ab cb (bi (readM d name).1) (rs.map bi) used true (w1.alloc (logO gd (logN gd d name) (.slice none 0 0))) HC3.out (by rw [bi_len]; exact hcl) HSC.out)
  rw [bi_len] at HSN
  clear hcl
  go_wp2_with fail
  refine HSN.out.mono ?_
  rintro e w3 ⟨v, rfl, hS, hbl⟩
  obtain ⟨vs, hr, hs, hRr, hRs, hH3⟩ := S_rows hS HA.out hbl
  obtain ⟨Av, cv, rfl, hcv, hnv⟩ := RowB.form hRr
  have HRr := Lib.hid hRr; have HRs := Lib.hid hRs; have HH3 := Lib.hid hH3
  clear hS hbl hRr hRs hH3 hcv hnv HA HC3 HSN HRD HCB
  go_wp2_with fail
  have HSY := Lib.hid (sync_calls gd d hd1 ((w1.heap.size, logO gd (logN gd d name) (.slice none 0 0)) :: (hr ++ (hs ++ (hv ++ F)))) name w0 w3 hs0 HD1.out (HH3.out.perm (by classical rw [List.perm_iff_count]; intro a; simp only [List.count_append, List.count_cons, List.count_nil]; omega)))
  refine HSY.out.mono ?_
  rintro e w5 ⟨rfl, hd5, hD5, hH5⟩
  rw [HY.out]
  have HD5 := Lib.hid hD5
  have HH5 := Lib.hid (show Holds w0 ((w1.heap.size, logO gd (logN gd d name) (.slice none 0 0)) :: (hr ++ (hs ++ (hv ++ (hd5 ++ F))))) w5 from hH5.perm (by classical rw [List.perm_iff_count]; intro a; simp only [List.count_append, List.count_cons, List.count_nil]; omega))
  clear hD5 hH5
  have f2 : w5.frozen? ⟨w1.heap.size, 2, none⟩ = false := HH5.out.froz 2
  have f3 : w5.frozen? ⟨w1.heap.size, 3, none⟩ = false := HH5.out.froz 3
  have c2 : w5.cell? ⟨w1.heap.size, 2, none⟩ = some (.slice none 0 0) := HH5.out.cell 2
  have c3 : w5.cell? ⟨w1.heap.size, 3, none⟩ = some (.int .i64 0) := HH5.out.cell 3
  go_wp2_with fail
  have hz := ((HH5.out.set 2 (.slice Av rs.length cv)).set 3 (.int .i64 rs.length)).sub (k := ((w1.heap.size, logO gd { (logN gd d name) with recs := rs, safe := rs.length } (.slice Av rs.length cv)) :: (hr ++ hs)) ++ (hd5 ++ F)) (by
    rw [List.cons_append]
    refine List.Sublist.cons_cons _ ?_
    rw [List.append_assoc]
    exact List.Sublist.append (List.Sublist.refl hr) (List.Sublist.append (List.Sublist.refl hs) (List.sublist_append_right hv _)))
  exact bodyPost_ret (v := .tuple #[.pointer (some ⟨w1.heap.size, 0, none⟩), .int .i64 0]) (by simp [results, Try.results11, go_sem]) rfl ⟨w1.heap.size, rfl, _, ⟨Av, cv, vs, hr, hs, HRr.out, HRs.out, rfl⟩, hd5, HD5.out, hz⟩
set_option maxRecDepth 100000 in
set_option maxHeartbeats 4000000 in
theorem open_torn (gd : Nat) (d : DM) (hd F : Hp) (name : ByteArray) (w0 w : World) (hs0 : name.size ≤ 9223372036854775807) (hD : IsD gd d hd) (H : Holds w0 (hd ++ F) w) (k : Nat) (rs : List (List UInt8)) (used : Int) (he : (readM d name).2 = 0) (hb : (readM d name).1.length ≤ 9223372036854775807) (hsc : frame_Scan.f k (bi (readM d name).1) = some (rs.map bi, used, false)) (hc : (cutM d name used).1 = 0) (hy : (syncM (cutM d name used).2 name).1 = 0) : Calls Try.prog 11 #[.pointer (some ⟨gd, 0, none⟩), .string name] w fun e w' => ∃ gl, e = .returned (.tuple #[.pointer (some ⟨gl, 0, none⟩), .int .i64 0]) ∧ ∃ h', IsL gl gd { (logN gd d name) with recs := rs, safe := rs.length } h' ∧ ∃ hd', IsD gd (syncM (cutM d name used).2 name).2 hd' ∧ Holds w0 (h' ++ (hd' ++ F)) w' := by
  have HSC := Lib.hid hsc; have HY := Lib.hid hy; have HB := Lib.hid hb
  clear hsc hy hb
  have HCC := Lib.hid hc
  clear hc
  have HD := Lib.hid hD; have HH := Lib.hid H; have HE := Lib.hid he
  clear hD H he
  go_enter Try.func11, Try.ntmps11
  go_wp2_with fail
  refine (read_calls gd d hd F name w0 w hs0 HD.out HH.out).mono ?_
  rintro e w1 ⟨v, rfl, hv, hR, hd1, hD1, hH1⟩
  obtain ⟨Ab, cb, rfl, hcb, hnb, hrd⟩ := hR.reads (F := hd1 ++ F) (hH1.perm (by classical rw [List.perm_iff_count]; intro a; simp only [List.count_append, List.count_cons, List.count_nil]; omega))
  rw [HE.out]
  have HR := Lib.hid hR; have HD1 := Lib.hid hD1; have HH1 := Lib.hid hH1; have HRD := Lib.hid hrd; have HCB := Lib.hid hcb
  clear hR hD1 hH1 hrd hcb hnb
  go_wp2_with fail
  refine (lives_calls gd d hd1 _ w0 w1 HD1.out HH1.out).mono ?_
  rintro e w2 ⟨rfl, rfl⟩
  have HA := Lib.hid (HH1.out.alloc (logO gd (logN gd d name) (.slice none 0 0)))
  have HC3 := Lib.hid (reads_C (HRD.out.below ((Below.refl _ w1).alloc (Nat.le_refl _) (logO gd (logN gd d name) (.slice none 0 0)))) HB.out)
  have hcl : (readM d name).1.length ≤ cb := HCB.out
  have HSN := Lib.hid (frame_Scan.calls k Ab cb (bi (readM d name).1) (rs.map bi) used false (w1.alloc (logO gd (logN gd d name) (.slice none 0 0))) HC3.out (by rw [bi_len]; exact hcl) HSC.out)
  rw [bi_len] at HSN
  clear hcl
  go_wp2_with fail
  refine HSN.out.mono ?_
  rintro e w3 ⟨v, rfl, hS, hbl⟩
  obtain ⟨vs, hr, hs, hRr, hRs, hH3⟩ := S_rows hS HA.out hbl
  obtain ⟨Av, cv, rfl, hcv, hnv⟩ := RowB.form hRr
  have HRr := Lib.hid hRr; have HRs := Lib.hid hRs; have HH3 := Lib.hid hH3
  clear hS hbl hRr hRs hH3 hcv hnv HA HC3 HSN HRD HCB
  go_wp2_with fail
  have HCT := Lib.hid (cut_calls gd d hd1 ((w1.heap.size, logO gd (logN gd d name) (.slice none 0 0)) :: (hr ++ (hs ++ (hv ++ F)))) name used w0 w3 hs0 HD1.out (HH3.out.perm (by classical rw [List.perm_iff_count]; intro a; simp only [List.count_append, List.count_cons, List.count_nil]; omega)))
  refine HCT.out.mono ?_
  rintro e w4 ⟨rfl, hd4, hD4, hH4⟩
  rw [HCC.out]
  have HD4 := Lib.hid hD4; have HH4 := Lib.hid hH4
  clear hD4 hH4
  go_wp2_with fail
  have HSY := Lib.hid (sync_calls gd (cutM d name used).2 hd4 ((w1.heap.size, logO gd (logN gd d name) (.slice none 0 0)) :: (hr ++ (hs ++ (hv ++ F)))) name w0 w4 hs0 HD4.out HH4.out)
  refine HSY.out.mono ?_
  rintro e w5 ⟨rfl, hd5, hD5, hH5⟩
  rw [HY.out]
  have HD5 := Lib.hid hD5
  have HH5 := Lib.hid (show Holds w0 ((w1.heap.size, logO gd (logN gd d name) (.slice none 0 0)) :: (hr ++ (hs ++ (hv ++ (hd5 ++ F))))) w5 from hH5.perm (by classical rw [List.perm_iff_count]; intro a; simp only [List.count_append, List.count_cons, List.count_nil]; omega))
  clear hD5 hH5
  have f2 : w5.frozen? ⟨w1.heap.size, 2, none⟩ = false := HH5.out.froz 2
  have f3 : w5.frozen? ⟨w1.heap.size, 3, none⟩ = false := HH5.out.froz 3
  have c2 : w5.cell? ⟨w1.heap.size, 2, none⟩ = some (.slice none 0 0) := HH5.out.cell 2
  have c3 : w5.cell? ⟨w1.heap.size, 3, none⟩ = some (.int .i64 0) := HH5.out.cell 3
  go_wp2_with fail
  have hz := ((HH5.out.set 2 (.slice Av rs.length cv)).set 3 (.int .i64 rs.length)).sub (k := ((w1.heap.size, logO gd { (logN gd d name) with recs := rs, safe := rs.length } (.slice Av rs.length cv)) :: (hr ++ hs)) ++ (hd5 ++ F)) (by
    rw [List.cons_append]
    refine List.Sublist.cons_cons _ ?_
    rw [List.append_assoc]
    exact List.Sublist.append (List.Sublist.refl hr) (List.Sublist.append (List.Sublist.refl hs) (List.sublist_append_right hv _)))
  exact bodyPost_ret (v := .tuple #[.pointer (some ⟨w1.heap.size, 0, none⟩), .int .i64 0]) (by simp [results, Try.results11, go_sem]) rfl ⟨w1.heap.size, rfl, _, ⟨Av, cv, vs, hr, hs, HRr.out, HRs.out, rfl⟩, hd5, HD5.out, hz⟩
end Go.Proofs.Ythgebchidkadhaa
