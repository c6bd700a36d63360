/- WalTwice's walk. No condition. -/
import Derived.Test.YthgebchidkadhaaTb
namespace Go.Proofs.Ythgebchidkadhaa
open Go.RowKit Go.Proofs.Ythgebchidkadhaa.Sp Go.Proofs.Ythgebchidkadhaa.QWal Go.Proofs.YthgebchidkadhaaW.PrintWords
set_option linter.unusedVariables false
set_option linter.unusedSimpArgs false
def TwR (w : World) (l : List (List UInt8)) (i : Value) (wr : World) : Prop := Below w.heap.size w wr ∧ ∃ k : Nat, k ≤ l.length ∧ i = .int .i64 k ∧ ∀ r ∈ l.take k, r.length ≤ 200
def TwS (w : World) (gk gd : Nat) (m : LM) (d : DM) (X : List (List UInt8)) (H2 : Hp) (v i : Value) (wr : World) : Prop := ∃ (k : Nat) (vs : List Value) (hg hs h hd : Hp), k ≤ X.length ∧ i = .int .i64 k ∧ RowB 31 1 v k vs hg ∧ RowsB (X.take k) vs hs ∧ IsL gk gd m h ∧ IsD gd d hd ∧ Holds w (hg ++ (hs ++ (h ++ (hd ++ H2)))) wr
set_option maxRecDepth 100000 in
set_option maxHeartbeats 8000000 in
theorem twice_walk (A B : Option Addr) (ca cb : Nat) (l m : List (List UInt8)) (one two : Int) (torn : UInt8) (w : World) (hA : InC w A ca l) (hB : InC w B cb m) :
    Calls Try.prog 4 #[.slice A l.length ca, .slice B m.length cb, .int .i64 one, .int .i64 two, .int .u8 torn.toNat] w fun e w' => e = .returned (.bool true) ∧ Below w.heap.size w w' := by
  by_cases c1 : (10 : Int) < (l.length : Int)
  · go_enter Try.func4, Try.ntmps4
    go_wp2_with fail
    refine (awake_calls w).mono ?_
    rintro e w1 ⟨rfl, hb⟩
    go_wp2_with fail
    go_ret
    exact ⟨rfl, hb⟩
  by_cases c2 : (10 : Int) < (m.length : Int)
  · go_enter Try.func4, Try.ntmps4
    go_wp2_with fail
    refine (awake_calls w).mono ?_
    rintro e w1 ⟨rfl, hb⟩
    go_wp2_with fail
    go_ret
    exact ⟨rfl, hb⟩
  obtain ⟨vl, hvl, hrl⟩ := in_cel hA
  obtain ⟨vm, hvm, hrm⟩ := in_cel hB
  have HA := Lib.hid hA; have HB := Lib.hid hB; have HVL := Lib.hid hvl; have HVM := Lib.hid hvm; have HRL := Lib.hid hrl; have HRM := Lib.hid hrm
  clear hA hB hvl hrl hvm hrm
  go_enter Try.func4, Try.ntmps4
  go_wp2_with fail
  refine (awake_calls w).mono ?_
  rintro e w1 ⟨rfl, hb⟩
  have HB0 := Lib.hid hb
  clear hb
  go_wp2_with fail
  go_loopw [11] (fun i wr => TwR w (l ++ m) i wr) (fun i _ => (l ++ m).length - (intOf i).toNat)
  case atStart => exact ⟨HB0.out, 0, by omega, rfl, by simp⟩
  case round =>
    clear HB0
    obtain ⟨hb, k, hk, rfl, h8⟩ := hrel
    have H8 := Lib.hid h8
    have H0 := Lib.hid (Holds.of_below hb)
    have hkl : k ≤ l.length + m.length := by rw [← List.length_append]; exact hk
    have HLM := Lib.hid (show (l ++ m).length = l.length + m.length from List.length_append)
    clear h8 hb hk
    by_cases hlt : k < l.length + m.length
    · obtain ⟨r, hr⟩ : ∃ r, (l ++ m)[k]? = some r := ⟨_, List.getElem?_eq_getElem (by rw [HLM.out]; exact hlt)⟩
      have HA1 := H0.out.alloc (.cells #[] 31)
      obtain ⟨v1, h1, w2, r1, R1, H1⟩ := recs_append (RowB.lit (e := 31) (sz := 1) H0.out #[] 0 (Nat.zero_le _) rfl) HA1 22 A l.length ca HA.out.1 vl (HRL.out.below HA1.below) HVL.out.one (by omega)
      obtain ⟨v2, h2, w3, r2, R2, H2⟩ := recs_append R1 H1 22 B m.length cb HB.out.1 vm (HRM.out.below H1.below) HVM.out.one (by omega)
      obtain ⟨A2, c2, rfl, hc2, hn2, hrd⟩ := R2.reads H2
      have hcel := (HVL.out.app HVM.out).below H2.below
      obtain ⟨Aj, Cj, e1, hIB⟩ := hcel.2 k r hr
      cases A2 with
      | none => have := hrd.2.1 rfl; omega
      | some ad2 =>
        have hc0 : w3.cell? (ad2.add k) = some (.slice Aj r.length Cj) := hrd.2.2 ad2 rfl k _ e1
        obtain ⟨n2, hn⟩ : ∃ n2 : Nat, n2 = 0 + l.length + m.length := ⟨_, rfl⟩
        have hk2 : k < n2 := by omega
        rw [← hn] at r2
        have HR := Lib.hid hr; have HR1 := Lib.hid r1; have HR2 := Lib.hid r2; have HB3 := Lib.hid H2.below; have HN2 := Lib.hid hn
        clear hr r1 r2 R1 R2 H1 H2 HA1 hrd hcel e1 hIB hc2 hn2 hn
        by_cases h3 : (200 : Int) < (r.length : Int)
        · go_wp2_with (first | ((with_reducible refine apL (.tmp 46) (.tmp 47) ?_ ?_ HR1.out ?_); rfl; rfl) | ((with_reducible refine apL (.tmp 48) (.tmp 49) ?_ ?_ HR2.out ?_); rfl; rfl))
          go_ret
          exact ⟨rfl, HB3.out⟩
        · go_wp2_with (first | ((with_reducible refine apL (.tmp 46) (.tmp 47) ?_ ?_ HR1.out ?_); rfl; rfl) | ((with_reducible refine apL (.tmp 48) (.tmp 49) ?_ ?_ HR2.out ?_); rfl; rfl))
          refine ⟨⟨HB3.out, k + 1, by rw [HLM.out]; omega, by simp, ?_⟩, by simp [intOf]; omega⟩
          intro x hx
          rw [take_snoc (l ++ m) k r HR.out] at hx
          rcases List.mem_append.mp hx with hx | hx
          · exact H8.out x hx
          · obtain rfl := List.mem_singleton.mp hx
            omega
    · have hkn : k = l.length + m.length := by omega
      subst hkn
      rw [← HLM.out, List.take_length] at H8
      clear hlt hkl
      have HL2 := Lib.hid (show ∀ r ∈ l, r.length ≤ 200 from fun r hr => H8.out r (List.mem_append_left _ hr))
      have HM2 := Lib.hid (show ∀ r ∈ m, r.length ≤ 200 from fun r hr => H8.out r (List.mem_append_right _ hr))
      have HLB := Lib.hid (show ∀ r ∈ l, r.length ≤ 100000 from fun r hr => by have := HL2.out r hr; omega)
      have HL8 := Lib.hid (show ∀ r ∈ l, r.length ≤ 8000 from fun r hr => by have := HL2.out r hr; omega)
      have HMB := Lib.hid (show ∀ r ∈ m, r.length ≤ 100000 from fun r hr => by have := HM2.out r hr; omega)
      have HM8 := Lib.hid (show ∀ r ∈ m, r.length ≤ 8000 from fun r hr => by have := HM2.out r hr; omega)
      have hs1 : (frsB l).length ≤ 3000 := by have := frsB_len l 200 HL2.out; omega
      have hs2 : (frsB m).length ≤ 3000 := by have := frsB_len m 200 HM2.out; omega
      have HAD := Lib.hid (show addM ⟨20000, 1, true, []⟩ (lW [] 0 1) l = (0, dW 20000 1 true ⟨frsB l, 0⟩, lW l 0 1) by rw [add_nil 20000 1 l 0 HL8.out, if_neg (by omega)])
      go_wp2_with fail
      refine (new_calls 20000 (by omega) w _ [] H0.out).mono ?_
      rintro e w2 ⟨gd, rfl, hd, hD, hH⟩
      have HD := Lib.hid hD; have HH := Lib.hid hH
      clear hD hH
      go_wp2_with fail
      refine (open_none gd ⟨20000, 1, true, []⟩ hd [] nW w w2 (by decide) HD.out HH.out (by rw [read_nil])).mono ?_
      rintro e w3 ⟨gl, rfl, hl, hL, hd2, hD2, hH2⟩
      rw [logN_W] at hL
      have HL := Lib.hid hL; have HD2 := Lib.hid hD2; have HH2 := Lib.hid hH2
      clear hL hD2 hH2 HD HH
      go_wp2_with fail
      refine (add_calls gl gd _ _ l A ca hl hd2 [] w _ (show nW.size ≤ _ by decide) (by omega) HLB.out (show ([] : List (List UInt8)).length ≤ _ by decide) (show ([] : List (ByteArray × Fl)).length < _ by decide) (bbs_vf HA.out.2.2.2) HL.out HD2.out HH2.out).mono ?_
      rintro e w4 ⟨rfl, h4, hL4, hd4, hD4, hH4⟩
      rw [HAD.out] at hL4 hD4 ⊢
      have HD4 := Lib.hid hD4; have HH4 := Lib.hid hH4.right
      clear hL4 hD4 hH4 HL HD2 HH2 HAD
      go_wp2_with fail
      refine (crash_calls gd _ hd4 [] one torn w w4 HD4.out HH4.out).mono ?_
      rintro e w9 ⟨rfl, hd9, hD9, hH9⟩
      have HD9 := Lib.hid hD9; have HH9 := Lib.hid hH9
      clear hD9 hH9 HD4 HH4
      go_wp2_with fail
      refine (on_calls gd _ hd9 _ w w9 (show (1 : Int) < _ by decide) HD9.out HH9.out).mono ?_
      rintro e w10 ⟨rfl, hd10, hD10, hH10⟩
      obtain ⟨n1, hn1, hn1b, hcr, hleft⟩ := crash_left one torn (frsB l) 0 (Nat.zero_le _)
      rw [crash_one, hcr] at hD10
      have HD10 := Lib.hid hD10; have HH10 := Lib.hid hH10; have HLF := Lib.hid hleft
      clear hD10 hH10 HD9 HH9 hleft hcr hn1 hn1b
      go_wp2_with fail
      refine (open_crash gd 20000 2 l 0 n1 _ hd10 [] w w10 HL8.out (by omega) HLF.out (Nat.zero_le _) (by simp [frsB]) HD10.out HH10.out).mono ?_
      rintro e w11 ⟨gk, j, h11, hd11, rfl, hj0, hjl, hL11, hD11, hH11⟩
      have HL11 := Lib.hid hL11; have HD11 := Lib.hid hD11; have HH11 := Lib.hid hH11
      have HTL := Lib.hid (show (lW (l.take j) j 2).recs.length = j by show (l.take j).length = j; rw [List.length_take]; omega)
      have HTJ := Lib.hid (show (l.take j).length = j by rw [List.length_take]; omega)
      clear hL11 hD11 hH11 HD10 HH10 hj0
      have HLN := Lib.hid (llen_calls gk gd _ h11 _ w w11 HL11.out HH11.out)
      rw [HTL.out] at HLN
      have hs3 : (frsB (l.take j)).length ≤ 3000 := by have := frsB_mono l hjl; rw [List.take_length] at this; omega
      go_wp2_with fail
      refine HLN.out.mono ?_
      rintro e w12 ⟨rfl, hw⟩
      rw [hw]
      clear hw w12 HLN
      have HAM := Lib.hid (add_one 20000 2 ⟨frsB (l.take j), (frsB (l.take j)).length⟩ (l.take j) m j HM8.out (show ¬ (20000 : Int) - (frsB (l.take j)).length < _ by omega))
      go_wp2_with fail
      refine (add_calls gk gd _ _ m B cb h11 hd11 [] w _ (show nW.size ≤ _ by decide) (by omega) HMB.out (by rw [HTL.out]; omega) (show (dW 20000 2 true ⟨frsB (l.take j), (frsB (l.take j)).length⟩).fl.length < 1000000000 from (by decide : 1 < 1000000000)) (bbs_vf HB.out.2.2.2) HL11.out HD11.out HH11.out).mono ?_
      rintro e w13 ⟨rfl, h13, hL13, hd13, hD13, hH13⟩
      rw [HAM.out] at hL13 hD13 ⊢
      obtain ⟨X0, hX0⟩ : ∃ X0, X0 = l.take j ++ m := ⟨_, rfl⟩
      have hD13b : IsD gd (dW 20000 2 true ⟨frsB X0, (frsB (l.take j)).length⟩) hd13 := by rw [hX0, frsB_app]; exact hD13
      have HX0 := Lib.hid hX0
      have HD13 := Lib.hid hD13b; have HH13 := Lib.hid hH13.right
      clear hL13 hD13 hH13 HL11 HD11 HH11 HAM hD13b hX0
      have HXL := Lib.hid (show X0.length = j + m.length by rw [HX0.out, List.length_append, HTJ.out])
      have HX2 := Lib.hid (show ∀ r ∈ X0, r.length ≤ 200 by
        intro r hr
        rw [HX0.out] at hr
        rcases List.mem_append.mp hr with hr | hr
        · exact HL2.out r (List.mem_of_mem_take hr)
        · exact HM2.out r hr)
      have HX8 := Lib.hid (show ∀ r ∈ X0, r.length ≤ 8000 from fun r hr => by have := HX2.out r hr; omega)
      go_wp2_with fail
      refine (crash_calls gd _ hd13 [] two torn w w13 HD13.out HH13.out).mono ?_
      rintro e w14 ⟨rfl, hd14, hD14, hH14⟩
      have HD14 := Lib.hid hD14; have HH14 := Lib.hid hH14
      clear hD14 hH14 HD13 HH13
      go_wp2_with fail
      refine (on_calls gd _ hd14 _ w w14 (show (2 : Int) < _ by decide) HD14.out HH14.out).mono ?_
      rintro e w15 ⟨rfl, hd15, hD15, hH15⟩
      have hxt : X0.take j = l.take j := by
        rw [HX0.out]
        exact List.take_left' HTJ.out
      have hle : (frsB (l.take j)).length ≤ (frsB X0).length := by
        have := frsB_mono X0 (i := j) (j := X0.length) (by rw [HXL.out]; omega)
        rwa [List.take_length, hxt] at this
      obtain ⟨n2, hn2, hn2b, hcr, hleft⟩ := crash_left two torn (frsB X0) (frsB (l.take j)).length hle
      rw [crash_one, hcr] at hD15
      have HD15 := Lib.hid hD15; have HH15 := Lib.hid hH15; have HLF2 := Lib.hid hleft; have HN2 := Lib.hid hn2; have HXT := Lib.hid hxt
      clear hD15 hH15 HD14 HH14 hleft hcr hn2 hn2b hle hxt
      go_wp2_with fail
      refine (open_crash gd 20000 3 X0 j n2 _ hd15 [] w w15 HX8.out (by rw [HXL.out]; omega) HLF2.out (by rw [HXL.out]; omega) (by rw [HXT.out]; exact HN2.out) HD15.out HH15.out).mono ?_
      rintro e w16 ⟨gc, j2, h16, hd16, rfl, hj2a, hj2b, hL16, hD16, hH16⟩
      rw [HXL.out] at hj2b
      obtain ⟨X, hX⟩ : ∃ X, X = X0.take j2 := ⟨_, rfl⟩
      rw [← hX] at hL16 hD16
      have HXX := Lib.hid hX
      have HXN := Lib.hid (show X.length = j2 by rw [hX, List.length_take, HXL.out]; omega)
      have HL16 := Lib.hid hL16; have HD16 := Lib.hid hD16; have HH16 := Lib.hid hH16
      clear hL16 hD16 hH16 HD15 HH15 hX
      have HLN := Lib.hid (llen_calls gc gd _ h16 _ w w16 HL16.out HH16.out)
      rw [show (lW X j2 3).recs.length = j2 from HXN.out] at HLN
      go_wp2_with fail
      refine HLN.out.mono ?_
      rintro e w17 ⟨rfl, hw⟩
      rw [hw]
      clear hw w17
      go_wp2_with fail
      refine HLN.out.mono ?_
      rintro e w17 ⟨rfl, hw⟩
      rw [hw]
      clear hw w17 HLN
      have hjca : j ≤ ca := by have := HA.out.2.1; omega
      have HAC := HH16.out.alloc (.cells #[] 31)
      obtain ⟨v1, h1, w2, r1, R1, H1⟩ := recs_append (RowB.lit (e := 31) (sz := 1) HH16.out #[] 0 (Nat.zero_le _) rfl) HAC 22 A j ca HA.out.1 (vl.take (j * 1)) ((HRL.out.take hjl).below HAC.below) (HVL.out.take (j * 1)).one (by omega)
      obtain ⟨v2, h2, w3, r2, R2, H2⟩ := recs_append R1 H1 22 B m.length cb HB.out.1 vm (HRM.out.below H1.below) HVM.out.one (by omega)
      simp only [Nat.mul_one] at R1 R2
      obtain ⟨nn, hnn⟩ : ∃ nn : Nat, nn = 0 + j + m.length := ⟨_, rfl⟩
      rw [← hnn] at R2
      have HNN := Lib.hid hnn
      clear hnn
      have HR1 := Lib.hid r1; have HR2 := Lib.hid r2; have HRA := Lib.hid R2; have HH3 := Lib.hid H2
      clear r1 r2 R1 R2 H1 H2 HAC
      obtain ⟨A2, c2, rfl, hc2, hn2⟩ := RowB.form HRA.out
      go_wp2_with (first | ((with_reducible refine apL (.tmp 125) (.tmp 128) ?_ ?_ HR1.out ?_); rfl; rfl) | ((with_reducible refine apL (.tmp 129) (.tmp 130) ?_ ?_ HR2.out ?_); rfl; rfl))
      have hj2s : j2 ≤ 20 := by omega
      have HS2A := Lib.hid hj2a; have HS2B := Lib.hid hj2b; have HJL := Lib.hid hjl
      clear hj2a hj2b hjl
      have HRA2 := Lib.hid HRA.out; have HC2 := Lib.hid hc2
      clear HRA hc2 hn2 HR1 HR2
      first | (rename_i hq0; have hq1 : ((0 ≤ (j : Int) ∧ ¬l.length < j) ∧ ¬j2 < j) ∧ (j2 : Int) ≤ (j : Int) + (m.length : Int) := hq0; clear hq1 hq0) | (rename_i hq0 _; have hq1 : ((0 ≤ (j : Int) ∧ ¬l.length < j) ∧ ¬j2 < j) ∧ (j2 : Int) ≤ (j : Int) + (m.length : Int) := hq0; clear hq1 hq0) | (rename_i hq0 _ _; have hq1 : ((0 ≤ (j : Int) ∧ ¬l.length < j) ∧ ¬j2 < j) ∧ (j2 : Int) ≤ (j : Int) + (m.length : Int) := hq0; clear hq1 hq0) | (rename_i hq0 _ _ _; have hq1 : ((0 ≤ (j : Int) ∧ ¬l.length < j) ∧ ¬j2 < j) ∧ (j2 : Int) ≤ (j : Int) + (m.length : Int) := hq0; clear hq1 hq0) | (rename_i hq0 _ _ _ _; have hq1 : ((0 ≤ (j : Int) ∧ ¬l.length < j) ∧ ¬j2 < j) ∧ (j2 : Int) ≤ (j : Int) + (m.length : Int) := hq0; clear hq1 hq0) | (rename_i hq0 _ _ _ _ _; have hq1 : ((0 ≤ (j : Int) ∧ ¬l.length < j) ∧ ¬j2 < j) ∧ (j2 : Int) ≤ (j : Int) + (m.length : Int) := hq0; clear hq1 hq0)
      go_loopw [23, 24] (fun v i wr => TwS w gc gd (lW X j2 3) (dW 20000 3 true ⟨frsB X, (frsB X).length⟩) X h2 v i wr) (fun _ i _ => j2 - (intOf i).toNat)
      case atStart => exact ⟨0, [], [], [], h16, hd16, Nat.zero_le _, rfl, RowB.nil _ _, ⟨rfl, rfl⟩, HL16.out, HD16.out, (show Holds w (h2 ++ (h16 ++ (hd16 ++ []))) w3 from HH3.out).perm (by classical rw [List.perm_iff_count]; intro a; simp only [List.count_append, List.count_cons, List.count_nil]; omega)⟩
      case round =>
        clear HL16 HD16 HH3
        obtain ⟨k, vs, hg, hs, h5, hd5, hk, rfl, hRg, hRs, hL5, hD5, hH5⟩ := hrel
        rw [HXN.out] at hk
        obtain ⟨Ag, cg, rfl, _, _⟩ := RowB.form hRg
        have HLN := Lib.hid (llen_calls gc gd _ h5 (hg ++ (hs ++ (hd5 ++ h2))) w _ hL5 (hH5.perm (by classical rw [List.perm_iff_count]; intro a; simp only [List.count_append, List.count_cons, List.count_nil]; omega)))
        rw [show (lW X j2 3).recs.length = j2 from HXN.out] at HLN
        by_cases hlt3 : k < j2
        · obtain ⟨r, hr⟩ : ∃ r, X[k]? = some r := ⟨_, List.getElem?_eq_getElem (by rw [HXN.out]; exact hlt3)⟩
          have HAT := Lib.hid (at_one (dW 20000 3 true ⟨frsB X, (frsB X).length⟩) X j2 k r rfl hr)
          have HML := Lib.hid (show ∀ x ∈ (lW X j2 3).recs, x.length ≤ 140737488355328 from fun x hx => by have := HX2.out x (List.mem_of_mem_take (by rw [← HXX.out]; exact hx)); omega)
          have HR := Lib.hid hr; have HRG := Lib.hid hRg; have HRS := Lib.hid hRs
          have HL5 := Lib.hid hL5; have HD5 := Lib.hid hD5; have HH5 := Lib.hid hH5
          clear hr hRg hRs hL5 hD5 hH5
          go_wp2_with fail
          refine HLN.out.mono ?_
          rintro e w12 ⟨rfl, hw⟩
          rw [hw]
          clear hw w12 HLN
          go_wp2_with fail
          refine (lat_calls gc gd (dW 20000 3 true ⟨frsB X, (frsB X).length⟩) (lW X j2 3) (k : Nat) h5 hd5 (hg ++ (hs ++ h2)) w _ HML.out HL5.out HD5.out (HH5.out.perm (by classical rw [List.perm_iff_count]; intro a; simp only [List.count_append, List.count_cons, List.count_nil]; omega))).mono ?_
          rintro e w13 ⟨rv, he, hv, hR, h6, hL6, hH6⟩
          rw [show (lW X j2 3) = lW X j2 (dW 20000 3 true ⟨frsB X, (frsB X).length⟩).lives from rfl, HAT.out] at he hR
          subst he
          rw [show ({ lW X j2 3 with done := offM (dW 20000 3 true ⟨frsB X, (frsB X).length⟩) (lW X j2 3) } : LM) = lW X j2 3 by rw [off_no _ _ rfl rfl rfl]; rfl] at hL6
          obtain ⟨Ar, cr, rfl, _, _⟩ := RowB.form hR
          have HA6 := hH6.alloc (.cells #[.slice Ar r.length cr] 31)
          obtain ⟨v3, h3, w14, r3, R3, H3⟩ := rec_append HRG.out (HA6.perm (k := hg ++ ((w13.heap.size, .cells #[.slice Ar r.length cr] 31 (0, 0)) :: (hv ++ (h6 ++ (hd5 ++ (hs ++ h2)))))) (by classical rw [List.perm_iff_count]; intro a; simp only [List.count_append, List.count_cons, List.count_nil]; omega)) 22 w13.heap.size (.slice Ar r.length cr) rfl HA6.get (by omega)
          have HL6 := Lib.hid hL6; have HRV := Lib.hid hR; have HR3 := Lib.hid r3; have HRG3 := Lib.hid R3
          have HH3 := Lib.hid (show Holds w (h3 ++ ((hs ++ hv) ++ (h6 ++ (hd5 ++ h2)))) w14 from (H3.perm (k := (w13.heap.size, .cells #[.slice Ar r.length cr] 31 (0, 0)) :: (h3 ++ ((hs ++ hv) ++ (h6 ++ (hd5 ++ h2))))) (by classical rw [List.perm_iff_count]; intro a; simp only [List.count_append, List.count_cons, List.count_nil]; omega)).tail)
          clear hL6 hH6 hR HL5 HH5 HA6 r3 R3 H3
          go_wp2_with ((with_reducible refine apL (.tmp 144) (.tmp 146) ?_ ?_ HR3.out ?_); rfl; rfl)
          refine ⟨⟨k + 1, vs ++ [.slice Ar r.length cr], h3, hs ++ hv, h6, hd5, by rw [HXN.out]; omega, by simp, HRG3.out, ?_, HL6.out, HD5.out, HH3.out⟩, by simp [intOf]; omega⟩
          rw [take_snoc X k r HR.out]
          exact HRS.out.snoc HRV.out
        · have hkn : k = j2 := by omega
          subst hkn
          rw [show X.take k = X by rw [← HXN.out]; exact List.take_length] at hRs
          have hXb : ∀ x ∈ X, x.length ≤ 100000 := fun x hx => by have := HX2.out x (List.mem_of_mem_take (by rw [← HXX.out]; exact hx)); omega
          obtain ⟨Ag', cg', eg, hcg, hng, hrg⟩ := hRg.reads hH5
          obtain ⟨rfl, _, rfl⟩ : Ag = Ag' ∧ k = k ∧ cg = cg' := by injection eg with e1 e2 e3; exact ⟨e1, rfl, e3⟩
          have hcelg := rowsB_cel (F := hg ++ (h5 ++ (hd5 ++ h2))) hRs (hH5.perm (by classical rw [List.perm_iff_count]; intro a; simp only [List.count_append, List.count_cons, List.count_nil]; omega)) hXb
          have hCg := cel_C (L := X) (by rw [HXN.out]; exact hrg) hcelg (by rw [HXN.out]; omega) (fun r hr => by have := hXb r hr; omega)
          obtain ⟨A2', c2', ea, hca2, hna, hra⟩ := HRA2.out.reads (F := hg ++ (hs ++ (h5 ++ hd5))) (hH5.perm (by classical rw [List.perm_iff_count]; intro a; simp only [List.count_append, List.count_cons, List.count_nil]; omega))
          obtain ⟨rfl, _, rfl⟩ : A2 = A2' ∧ nn = nn ∧ c2 = c2' := by injection ea with e1 e2 e3; exact ⟨e1, rfl, e3⟩
          have hknn : k ≤ nn := by have h1 := HS2B.out; have h2 := HNN.out; omega
          have hra2 := hra.take (k := k) hknn
          rw [Nat.mul_one] at hra2
          have hcela := (((HVL.out.take j).app HVM.out).take k).below hH5.below
          rw [← HX0.out, ← HXX.out] at hcela
          rw [List.nil_append] at hra2
          have hCa := cel_C (L := X) (by rw [HXN.out]; exact hra2) hcela (by rw [HXN.out]; omega) (fun r hr => by have := hXb r hr; omega)
          have hml : (X.map bi).length = k := by rw [List.length_map]; exact HXN.out
          have hSM := hourglassref1_Same.calls ((X.map bi).length + 1) Ag cg (X.map bi) A2 c2 (X.map bi) true _ hCg (by rw [hml]; exact hcg) hCa (by rw [hml]; omega) (same_f (X.map bi) (by rw [hml]; omega))
          rw [hml] at hSM
          have HSM := Lib.hid hSM; have HB5 := Lib.hid hH5.below
          have hkc2 : k ≤ c2 := by omega
          clear hRg hRs hL5 hD5 hH5 hXb hcelg hCg hra hra2 hcela hCa hSM hml hrg eg ea hng hna
          go_wp2_with fail
          refine HLN.out.mono ?_
          rintro e w12 ⟨rfl, hw⟩
          rw [hw]
          clear hw w12
          go_wp2_with fail
          refine HLN.out.mono ?_
          rintro e w12 ⟨rfl, hw⟩
          rw [hw]
          clear hw w12 HLN
          go_wp2_with fail
          refine HSM.out.mono ?_
          rintro e w13 ⟨rfl, hw⟩
          have HBF := Lib.hid (HB5.out.trans (hw.below.mono HB5.out.size))
          clear hw
          go_wp2_with fail
          go_ret
          exact ⟨rfl, HBF.out⟩
end Go.Proofs.Ythgebchidkadhaa
