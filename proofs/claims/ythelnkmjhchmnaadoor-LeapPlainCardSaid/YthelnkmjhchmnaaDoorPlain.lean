/- LeapPlain's walk. No condition. -/
import Derived.Test.YthelnkmjhchmnaaDoorPt
import Derived.ArgAppend
import Derived.Lib.SlBytesConst
import Derived.Lib.SmallJoins
namespace Go.Proofs.YthelnkmjhchmnaaDoor.Tl
open Go.RowKit Go.Proofs.YthelnkmjhchmnaaDoor.QLeap Go.Proofs.YthelnkmjhchmnaaDoor.Cal Go.Proofs.YthelnkmjhchmnaaDoor.Pa Go.Proofs.YthelnkmjhchmnaaDoor.Nm Go.Proofs.YthelnkmjhchmnaaDoor.Sp
set_option linter.unusedVariables false
set_option linter.unusedSimpArgs false
theorem at_plain (o d : Int) : atv [⟨0, o⟩] d = o := by
  unfold atv step
  simp only [List.foldl_cons, List.foldl_nil]
  split <;> rfl
theorem kn_plain (o d : Int) (h0 : 0 ≤ d) (h1 : d ≤ 2000001) : kn [⟨0, o⟩] d = true := kn_iff.mpr ⟨by omega, h0⟩
theorem len_plain (o d : Int) (h0 : 0 ≤ d) (h1 : d ≤ 2000000) : lenv [⟨0, o⟩] d = 86400 := by
  unfold lenv
  rw [at_plain, at_plain, if_pos (kn_plain o (d + 1) (by omega) (by omega))]
  omega
theorem tai_plain (o d x : Int) (h0 : 0 ≤ d) (h1 : d ≤ 2000000) (x0 : 0 ≤ x) (x1 : x ≤ 86399) : taiv [⟨0, o⟩] d x = (86400 * d + x + o, 0) := by
  unfold taiv beg
  rw [if_pos (kn_plain o d h0 (by omega)), len_plain o d h0 h1, if_neg (by omega), at_plain]
  congr 1
  omega
/-! Bytes. -/
def bv (bs : List UInt8) : List Value := bs.map fun x => .int .u8 x.toNat
theorem info5 : ∃ i, Tryd.prog.info? 5 = some i ∧ i.zero = some (.int .u8 0) ∧ i.size = 1 ∧ i.bytes = 1 := by
  have h : (Tryd.prog.info? 5).any (fun i => (match i.zero with | some (.int .u8 0) => true | _ => false) && i.size == 1 && i.bytes == 1) = true := by kernel_rfl
  cases hu : Tryd.prog.info? 5 with
  | none => rw [hu] at h; cases h
  | some i =>
    rw [hu] at h
    simp only [Option.any_some, Bool.and_eq_true, beq_iff_eq] at h
    obtain ⟨⟨h1, h2⟩, h3⟩ := h
    refine ⟨i, rfl, ?_, h2, h3⟩
    split at h1 <;> simp_all
theorem bv_one (bs : List UInt8) : ∀ u ∈ bv bs, u.oneCell' = true := by
  intro u hu
  obtain ⟨x, _, rfl⟩ := List.mem_map.mp hu
  rfl
set_option maxRecDepth 10000 in
theorem lit_cells {w0 w : World} {F : Hp} {b : Nat} {vs : Array Value} {e : TypeId} {fr : Nat × Nat} (H : Holds w0 ((b, .cells vs e fr) :: F) w) (j : Nat) (u : Value) (hj : vs.toList[j]? = some u) : w.cell? ((⟨b, 0, none⟩ : Addr).add j) = some u := by
  have e2 : (⟨b, 0, none⟩ : Addr).add j = ⟨b, j, none⟩ := by simp [Addr.add]; omega
  rw [e2, H.cell j, ← Array.getElem?_toList, hj]
set_option maxRecDepth 10000 in
/-- Bytes behind bytes that are not the call's own to write: a new row. -/
theorem app_new {w0 w : World} {F : Hp} {b b2 : Nat} {cs ds : Array Value} {fr fr2 : Nat × Nat} (Y Z : List UInt8) (hc : cs.toList = bv Y) (hd : ds.toList = bv Z) (h0 : 0 < Z.length) (hl : Y.length + Z.length ≤ 1000) (H : Holds w0 ((b, .cells cs 5 fr) :: F) w) (H2 : Holds w0 ((b2, .cells ds 5 fr2) :: (b, .cells cs 5 fr) :: F) w) :
    ∃ v' h' w', (Builtin.append_ #[43, 43] 43 #[.slice (some ⟨b, 0, none⟩) Y.length Y.length, .slice (some ⟨b2, 0, none⟩) Z.length Z.length]).run Tryd.prog w = .ok v' w' ∧ RowB 5 1 v' (Y ++ Z).length (bv (Y ++ Z)) h' ∧ Holds w0 (h' ++ []) w' := by
  obtain ⟨i, hi, hz, h1, h2⟩ := info5
  have hmx : maxLen = 9223372036854775807 := rfl
  obtain ⟨v', w', hrun, ho, hg⟩ := run_append_arg_grows (P := Tryd.prog) w 43 43 5 i (.int .u8 0) 1 1 Tryd.underlying43 hi hz h1 h2 rfl (by decide) ⟨b, 0, none⟩ Y.length Y.length (bv Y) (by simp [bv]) (fun j u hj => lit_cells H j u (by rw [hc]; exact hj)) ⟨b2, 0, none⟩ Z.length Z.length (bv Z) (by simp [bv]) (fun j u hj => lit_cells H2 j u (by rw [hd]; exact hj)) (by omega) (by omega) (by omega)
  obtain ⟨h', R, hx⟩ := RowB.of_owns ho
  have hb := below_of_none hg
  refine ⟨v', h', w', hrun, by simpa [bv] using R, ?_⟩
  have HB := H.grow hb
  have hn : Holds w0 [] w := H.sub (List.nil_sublist _)
  cases h' with
  | nil => exact hn.grow hb
  | cons x t =>
    obtain ⟨x1, x2, _, x4⟩ := hx x List.mem_cons_self
    rw [x4]
    exact hn.add hb x2 x1
set_option maxRecDepth 10000 in
theorem app_own {w0 w : World} {h F : Hp} {v : Value} {b2 : Nat} {ds : Array Value} {fr2 : Nat × Nat} (Y Z : List UInt8) (hd : ds.toList = bv Z) (hl : Y.length + Z.length ≤ 1000) (R : RowB 5 1 v Y.length (bv Y) h) (H : Holds w0 (h ++ ((b2, .cells ds 5 fr2) :: F)) w) :
    ∃ v' h' w', (Builtin.append_ #[43, 43] 43 #[v, .slice (some ⟨b2, 0, none⟩) Z.length Z.length]).run Tryd.prog w = .ok v' w' ∧ RowB 5 1 v' (Y ++ Z).length (bv (Y ++ Z)) h' ∧ Holds w0 (h' ++ []) w' := by
  obtain ⟨i, hi, hz, h1, h2⟩ := info5
  have hmx : maxLen = 9223372036854775807 := rfl
  have H2 : Holds w0 ((b2, .cells ds 5 fr2) :: (h ++ F)) w := H.perm (by classical rw [List.perm_iff_count]; intro a; simp only [List.count_append, List.count_cons, List.count_nil]; omega)
  obtain ⟨v', h', w', r1, r2, r3⟩ := row_append (t := 43) R H 43 i (.int .u8 0) 1 Tryd.underlying43 hi hz h1 h2 rfl (by decide) (some ⟨b2, 0, none⟩) Z.length Z.length (fun h => by cases h) (bv Z) ⟨by simp [bv], (fun h => by cases h), fun ad had j u hj => by injection had with had; subst had; exact lit_cells H2 j u (by rw [hd]; exact hj)⟩ (bv_one Z) (by omega) (by omega)
  exact ⟨v', h', w', r1, by simpa [bv] using r2, by simpa using r3.left⟩
set_option maxRecDepth 10000 in
theorem conv_str {w0 w : World} {F hv : Hp} {v : Value} {b : List UInt8} (R : RowB 5 1 v b.length (bv b) hv) (H : Holds w0 (hv ++ F) w) : (convert 43 9 v).run Tryd.prog w = .ok (.string ⟨b.toArray⟩) w := by
  obtain ⟨A, c, rfl, h1, h2, h3⟩ := R.reads H
  cases A with
  | none =>
    obtain rfl := h2 rfl
    have hb : b = [] := List.eq_nil_of_length_eq_zero (by have := h3.2.1 rfl; omega)
    subst hb
    rfl
  | some ad => exact run_convert_bytes_back (P := Tryd.prog) w 43 9 5 ad c b Tryd.underlying43 Tryd.underlying5 Tryd.underlying9 (fun j hj => h3.2.2 ad rfl j _ (by simp [bv, hj]))
theorem dgv (d : Int) (h0 : 0 ≤ d) (h1 : d < 10) : ((dg d).toNat : Int) = 48 + d := bt_dg d h0 h1
theorem txt_len (n : Nat) : (⟨(txtL n).toArray⟩ : ByteArray).size ≤ 1000000 := by
  show (txtL n).toArray.size ≤ 1000000
  rw [List.size_toArray]
  unfold txtL
  split <;> split <;> simp
set_option maxRecDepth 100000 in
set_option maxHeartbeats 8000000 in
theorem plain_walk (off day sec : Int) (w : World) : Calls Tryd.prog 7 #[.int .i64 off, .int .i64 day, .int .i64 sec] w fun e w' => e = .returned (.bool true) ∧ Below w.heap.size w w' := by
  have HAW := Lib.hid awake_calls
  by_cases o0 : off < 0
  · go_enter Tryd.func7, Tryd.ntmps7
    go_wp2_with fail
    refine (HAW.out _).mono ?_
    rintro e w1 ⟨rfl, hb⟩
    have H1 := Lib.hid hb
    clear hb
    go_wp2_with fail
    go_ret
    exact ⟨rfl, H1.out⟩
  by_cases o1 : (999 : Int) < off
  · go_enter Tryd.func7, Tryd.ntmps7
    go_wp2_with fail
    refine (HAW.out _).mono ?_
    rintro e w1 ⟨rfl, hb⟩
    have H1 := Lib.hid hb
    clear hb
    go_wp2_with fail
    go_ret
    exact ⟨rfl, H1.out⟩
  by_cases d0 : day < 0
  · go_enter Tryd.func7, Tryd.ntmps7
    go_wp2_with fail
    refine (HAW.out _).mono ?_
    rintro e w1 ⟨rfl, hb⟩
    have H1 := Lib.hid hb
    clear hb
    go_wp2_with fail
    go_ret
    exact ⟨rfl, H1.out⟩
  by_cases d1 : (2000000 : Int) < day
  · go_enter Tryd.func7, Tryd.ntmps7
    go_wp2_with fail
    refine (HAW.out _).mono ?_
    rintro e w1 ⟨rfl, hb⟩
    have H1 := Lib.hid hb
    clear hb
    go_wp2_with fail
    go_ret
    exact ⟨rfl, H1.out⟩
  by_cases s0 : sec < 0
  · go_enter Tryd.func7, Tryd.ntmps7
    go_wp2_with fail
    refine (HAW.out _).mono ?_
    rintro e w1 ⟨rfl, hb⟩
    have H1 := Lib.hid hb
    clear hb
    go_wp2_with fail
    go_ret
    exact ⟨rfl, H1.out⟩
  by_cases s1 : (86399 : Int) < sec
  · go_enter Tryd.func7, Tryd.ntmps7
    go_wp2_with fail
    refine (HAW.out _).mono ?_
    rintro e w1 ⟨rfl, hb⟩
    have H1 := Lib.hid hb
    clear hb
    go_wp2_with fail
    go_ret
    exact ⟨rfl, H1.out⟩
  obtain ⟨n, rfl⟩ : ∃ n : Nat, off = n := ⟨off.toNat, by omega⟩
  have hn : n < 1000 := by omega
  have HP := Lib.hid (fun w => parse_calls ⟨(txtL n).toArray⟩ w (txt_len n))
  have HPT := Lib.hid (parse_txt n hn)
  have HOC := Lib.hid (fun (w : World) (e : Ending) (w' : World) (h : Out ⟨(txtL n).toArray⟩ w e w') => out_cases (txt_len n) h)
  have HLN := Lib.hid (len_plain n day (by omega) (by omega))
  have HKN := Lib.hid (kn_plain n day (by omega) (by omega))
  have HTN := Lib.hid (tai_plain n day sec (by omega) (by omega) (by omega) (by omega))
  obtain ⟨tx, htx⟩ : ∃ tx : ByteArray, tx = ⟨(txtL n).toArray⟩ := ⟨_, rfl⟩
  rw [← htx] at HP HPT HOC
  have HTX := Lib.hid htx
  clear htx
  have kc := fun (w : World) (C : Array Value) (n c : Nat) => Lib.run_convert_bytes_const (P := Tryd.prog) w 43 5 C n c Tryd.underlying43 Tryd.underlying5
  go_enter Tryd.func7, Tryd.ntmps7
  go_wp2_with fail
  refine (HAW.out _).mono ?_
  rintro e w1 ⟨rfl, hb⟩
  have H1 := Lib.hid (Holds.of_below hb)
  clear hb
  have hw : -9223372036854775808 ≤ 86400 * day + sec + n := by omega
  have w1_ : wrap64 (86400 * day) = 86400 * day := w64 _ (by omega) (by omega)
  have w2_ : wrap64 (86400 * day + sec) = 86400 * day + sec := w64 _ (by omega) (by omega)
  have w3_ : wrap64 (86400 * day + sec + n) = 86400 * day + sec + n := w64 _ (by omega) (by omega)
  by_cases c99 : (99 : Int) < (n : Int)
  · have c9 : (9 : Int) < (n : Int) := by omega
    have K1 := H1.out.alloc2 (.cells #[.int .u8 49, .int .u8 57, .int .u8 55, .int .u8 48, .int .u8 45, .int .u8 48, .int .u8 49, .int .u8 45, .int .u8 48, .int .u8 49, .int .u8 32] 5 (11, 12)) (.cells #[.int .u8 (48 + (n : Int) / 100)] 5)
    obtain ⟨va, ha, wa, ra, Ra, Ha⟩ := app_new ([49, 57, 55, 48, 45, 48, 49, 45, 48, 49, 32] : List UInt8) [dg (n / 100 : Nat)] rfl (by simp [bv, dgv ((n : Int) / 100) (by omega) (by omega)]) (by simp) (by simp) K1.tail K1
    have Kb := (Ha.alloc (.cells #[.int .u8 (48 + (n : Int) / 10 % 10)] 5)).perm (k := ha ++ ((wa.heap.size, .cells #[.int .u8 (48 + (n : Int) / 10 % 10)] 5) :: [])) (by classical rw [List.perm_iff_count]; intro a; simp only [List.count_append, List.count_cons, List.count_nil]; omega)
    obtain ⟨vb, hb, wb, rb, Rb, Hb⟩ := app_own (([49, 57, 55, 48, 45, 48, 49, 45, 48, 49, 32] : List UInt8) ++ [dg (n / 100 : Nat)]) [dg (n / 10 % 10 : Nat)] (by simp [bv, dgv ((n : Int) / 10 % 10) (by omega) (by omega)]) (by simp) Ra Kb
    have Kc := (Hb.alloc (.cells #[.int .u8 (48 + (n : Int) % 10), .int .u8 10] 5)).perm (k := hb ++ ((wb.heap.size, .cells #[.int .u8 (48 + (n : Int) % 10), .int .u8 10] 5) :: [])) (by classical rw [List.perm_iff_count]; intro a; simp only [List.count_append, List.count_cons, List.count_nil]; omega)
    obtain ⟨vc, hc, wc, rc, Rc, Hc⟩ := app_own (([49, 57, 55, 48, 45, 48, 49, 45, 48, 49, 32] : List UInt8) ++ [dg (n / 100 : Nat)] ++ [dg (n / 10 % 10 : Nat)]) [dg (n % 10 : Nat), 10] (by simp [bv, dgv ((n : Int) % 10) (by omega) (by omega)]) (by simp) Rb Kc
    have htxt : ([49, 57, 55, 48, 45, 48, 49, 45, 48, 49, 32] : List UInt8) ++ [dg (n / 100 : Nat)] ++ [dg (n / 10 % 10 : Nat)] ++ [dg (n % 10 : Nat), 10] = txtL n := by unfold txtL; rw [if_pos (by omega), if_pos (by omega)]
    have hcv := conv_str Rc Hc
    rw [htxt, ← HTX.out] at hcv
    have HE := Lib.hid Hc
    clear Rc
    go_wp2_with (first | ((with_reducible refine apL (.tmp 42) (.tmp 47) ?_ ?_ ra ?_); rfl; rfl) | ((with_reducible refine apL (.tmp 51) (.tmp 57) ?_ ?_ rb ?_); rfl; rfl) | ((with_reducible refine apL (.tmp 59) (.tmp 64) ?_ ?_ rc ?_); rfl; rfl))
    refine (HP.out _).mono ?_
    intro e w5 hO
    rcases HOC.out _ e w5 hO with ⟨m, l, hp, hm, _⟩ | ⟨l, g, hp, rfl, hI, T, hb⟩
    · rw [HPT.out] at hp
      injection hp with h1 h2
      exact absurd h1.symm hm
    obtain rfl : l = [⟨0, n⟩] := by rw [HPT.out] at hp; injection hp with h1 h2; exact h2.symm
    have H5 := Lib.hid (HE.out.below.trans (hb.mono HE.out.below.size))
    have H50 := Lib.hid (Below.refl w5.heap.size w5)
    have HLE := Lib.hid (fun w hb => len_calls hI T day w hb)
    rw [HLN.out, if_pos HKN.out, if_pos HKN.out] at HLE
    have HTA := Lib.hid (fun w hb => tai_calls hI T day sec w hb)
    rw [HTN.out] at HTA
    clear hO hp hI T hb
    go_wp2_with fail
    refine (HLE.out _ H50.out).mono ?_
    rintro e w6 ⟨rfl, hb⟩
    have H6 := Lib.hid hb
    clear hb
    go_wp2_with fail
    refine (HTA.out _ H6.out).mono ?_
    rintro e w7 ⟨rfl, hb⟩
    have H7 := Lib.hid hb
    clear hb
    go_wp2_with fail
    go_ret
    exact ⟨rfl, H5.out.trans (H7.out.mono H5.out.size)⟩
  by_cases c9 : (9 : Int) < (n : Int)
  · have K1 := H1.out.alloc2 (.cells #[.int .u8 49, .int .u8 57, .int .u8 55, .int .u8 48, .int .u8 45, .int .u8 48, .int .u8 49, .int .u8 45, .int .u8 48, .int .u8 49, .int .u8 32] 5 (11, 12)) (.cells #[.int .u8 (48 + (n : Int) / 10 % 10)] 5)
    obtain ⟨va, ha, wa, ra, Ra, Ha⟩ := app_new ([49, 57, 55, 48, 45, 48, 49, 45, 48, 49, 32] : List UInt8) [dg (n / 10 % 10 : Nat)] rfl (by simp [bv, dgv ((n : Int) / 10 % 10) (by omega) (by omega)]) (by simp) (by simp) K1.tail K1
    have Kb := (Ha.alloc (.cells #[.int .u8 (48 + (n : Int) % 10), .int .u8 10] 5)).perm (k := ha ++ ((wa.heap.size, .cells #[.int .u8 (48 + (n : Int) % 10), .int .u8 10] 5) :: [])) (by classical rw [List.perm_iff_count]; intro a; simp only [List.count_append, List.count_cons, List.count_nil]; omega)
    obtain ⟨vb, hb, wb, rb, Rb, Hb⟩ := app_own (([49, 57, 55, 48, 45, 48, 49, 45, 48, 49, 32] : List UInt8) ++ [dg (n / 10 % 10 : Nat)]) [dg (n % 10 : Nat), 10] (by simp [bv, dgv ((n : Int) % 10) (by omega) (by omega)]) (by simp) Ra Kb
    have htxt : ([49, 57, 55, 48, 45, 48, 49, 45, 48, 49, 32] : List UInt8) ++ [dg (n / 10 % 10 : Nat)] ++ [dg (n % 10 : Nat), 10] = txtL n := by unfold txtL; rw [if_neg (by omega), if_pos (by omega)]; simp
    have hcv := conv_str Rb Hb
    rw [htxt, ← HTX.out] at hcv
    have HE := Lib.hid Hb
    clear Rb
    go_wp2_with (first | ((with_reducible refine apL (.tmp 51) (.tmp 57) ?_ ?_ ra ?_); rfl; rfl) | ((with_reducible refine apL (.tmp 59) (.tmp 64) ?_ ?_ rb ?_); rfl; rfl))
    refine (HP.out _).mono ?_
    intro e w5 hO
    rcases HOC.out _ e w5 hO with ⟨m, l, hp, hm, _⟩ | ⟨l, g, hp, rfl, hI, T, hb⟩
    · rw [HPT.out] at hp
      injection hp with h1 h2
      exact absurd h1.symm hm
    obtain rfl : l = [⟨0, n⟩] := by rw [HPT.out] at hp; injection hp with h1 h2; exact h2.symm
    have H5 := Lib.hid (HE.out.below.trans (hb.mono HE.out.below.size))
    have H50 := Lib.hid (Below.refl w5.heap.size w5)
    have HLE := Lib.hid (fun w hb => len_calls hI T day w hb)
    rw [HLN.out, if_pos HKN.out, if_pos HKN.out] at HLE
    have HTA := Lib.hid (fun w hb => tai_calls hI T day sec w hb)
    rw [HTN.out] at HTA
    clear hO hp hI T hb
    go_wp2_with fail
    refine (HLE.out _ H50.out).mono ?_
    rintro e w6 ⟨rfl, hb⟩
    have H6 := Lib.hid hb
    clear hb
    go_wp2_with fail
    refine (HTA.out _ H6.out).mono ?_
    rintro e w7 ⟨rfl, hb⟩
    have H7 := Lib.hid hb
    clear hb
    go_wp2_with fail
    go_ret
    exact ⟨rfl, H5.out.trans (H7.out.mono H5.out.size)⟩
  · have K1 := H1.out.alloc2 (.cells #[.int .u8 49, .int .u8 57, .int .u8 55, .int .u8 48, .int .u8 45, .int .u8 48, .int .u8 49, .int .u8 45, .int .u8 48, .int .u8 49, .int .u8 32] 5 (11, 12)) (.cells #[.int .u8 (48 + (n : Int) % 10), .int .u8 10] 5)
    obtain ⟨va, ha, wa, ra, Ra, Ha⟩ := app_new ([49, 57, 55, 48, 45, 48, 49, 45, 48, 49, 32] : List UInt8) [dg (n % 10 : Nat), 10] rfl (by simp [bv, dgv ((n : Int) % 10) (by omega) (by omega)]) (by simp) (by simp) K1.tail K1
    have htxt : ([49, 57, 55, 48, 45, 48, 49, 45, 48, 49, 32] : List UInt8) ++ [dg (n % 10 : Nat), 10] = txtL n := by unfold txtL; rw [if_neg (by omega), if_neg (by omega)]; simp
    have hcv := conv_str Ra Ha
    rw [htxt, ← HTX.out] at hcv
    have HE := Lib.hid Ha
    clear Ra
    go_wp2_with (first | ((with_reducible refine apL (.tmp 59) (.tmp 64) ?_ ?_ ra ?_); rfl; rfl))
    refine (HP.out _).mono ?_
    intro e w5 hO
    rcases HOC.out _ e w5 hO with ⟨m, l, hp, hm, _⟩ | ⟨l, g, hp, rfl, hI, T, hb⟩
    · rw [HPT.out] at hp
      injection hp with h1 h2
      exact absurd h1.symm hm
    obtain rfl : l = [⟨0, n⟩] := by rw [HPT.out] at hp; injection hp with h1 h2; exact h2.symm
    have H5 := Lib.hid (HE.out.below.trans (hb.mono HE.out.below.size))
    have H50 := Lib.hid (Below.refl w5.heap.size w5)
    have HLE := Lib.hid (fun w hb => len_calls hI T day w hb)
    rw [HLN.out, if_pos HKN.out, if_pos HKN.out] at HLE
    have HTA := Lib.hid (fun w hb => tai_calls hI T day sec w hb)
    rw [HTN.out] at HTA
    clear hO hp hI T hb
    go_wp2_with fail
    refine (HLE.out _ H50.out).mono ?_
    rintro e w6 ⟨rfl, hb⟩
    have H6 := Lib.hid hb
    clear hb
    go_wp2_with fail
    refine (HTA.out _ H6.out).mono ?_
    rintro e w7 ⟨rfl, hb⟩
    have H7 := Lib.hid hb
    clear hb
    go_wp2_with fail
    go_ret
    exact ⟨rfl, H5.out.trans (H7.out.mono H5.out.size)⟩
end Go.Proofs.YthelnkmjhchmnaaDoor.Tl
