/- WalClears' walk. No condition. -/
import Derived.Test.YthgebchidkadhaaAw
namespace Go.Proofs.Ythgebchidkadhaa
open Go.RowKit Go.Proofs.Ythgebchidkadhaa.Sp Go.Proofs.Ythgebchidkadhaa.QWal
set_option linter.unusedVariables false
set_option linter.unusedSimpArgs false
theorem conv_reads {w : World} {A : Option Addr} {c : Nat} {b : List UInt8} (h2 : A = none → c = 0) (h3 : Reads w A b.length 1 (bv b)) : (convert 31 9 (.slice A b.length c)).run Try.prog w = .ok (.string ⟨b.toArray⟩) w := by
  cases A with
  | none =>
    obtain rfl := h2 rfl
    have hb : b = [] := List.eq_nil_of_length_eq_zero (by have := h3.2.1 rfl; omega)
    subst hb
    rfl
  | some ad => exact run_convert_bytes_back (P := Try.prog) w 31 9 5 ad c b Try.underlying31 Try.underlying5 Try.underlying9 (fun j hj => h3.2.2 ad rfl j _ (by simp [bv, hj]))
def LenR (w1 : World) (l : List (List UInt8)) (n : Nat) (i : Value) (wr : World) : Prop := wr = w1 ∧ ∃ k : Nat, k ≤ l.length ∧ i = .int .i64 k ∧ ∀ r ∈ l.take k, r.length ≤ n
def CmR (w : World) (gl gd : Nat) (m : LM) (d : DM) (n : Nat) (i : Value) (wr : World) : Prop := ∃ (k : Nat) (h hd : Hp), k ≤ n ∧ i = .int .i64 k ∧ IsL gl gd m h ∧ IsD gd d hd ∧ Holds w (h ++ (hd ++ [])) wr
theorem crF_safe (keep : Int) (torn : UInt8) (b : List UInt8) : crF keep torn ⟨b, b.length⟩ = ⟨b, b.length⟩ := by
  have e : crN keep ⟨b, b.length⟩ = b.length := by
    unfold crN mn mx
    have : ((b.length : Int) - (b.length : Int)) = 0 := by omega
    simp only [this]
    split <;> split <;> omega
  unfold crF crB
  rw [e, if_neg (by simp)]
  simp
set_option maxRecDepth 100000 in
set_option maxHeartbeats 8000000 in
theorem clears_walk (A B : Option Addr) (ca cb : Nat) (l m : List (List UInt8)) (keep : Int) (torn : UInt8) (w : World) (hA : InBs w A l) (hB : InBs w B m) :
    Calls Try.prog 8 #[.slice A l.length ca, .slice B m.length cb, .int .i64 keep, .int .u8 torn.toNat] w fun e w' => e = .returned (.bool true) ∧ Below w.heap.size w w' := by
  by_cases c1 : (10 : Int) < (l.length : Int)
  · go_enter Try.func8, Try.ntmps8
    go_wp2_with fail
    refine (awake_calls w).mono ?_
    rintro e w1 ⟨rfl, hb⟩
    go_wp2_with fail
    go_ret
    exact ⟨rfl, hb⟩
  by_cases c2 : (10 : Int) < (m.length : Int)
  · go_enter Try.func8, Try.ntmps8
    go_wp2_with fail
    refine (awake_calls w).mono ?_
    rintro e w1 ⟨rfl, hb⟩
    go_wp2_with fail
    go_ret
    exact ⟨rfl, hb⟩
  have HA := Lib.hid hA; have HB := Lib.hid hB
  clear hA hB
  go_enter Try.func8, Try.ntmps8
  go_wp2_with fail
  refine (awake_calls w).mono ?_
  rintro e w1 ⟨rfl, hb⟩
  have HH0 := Lib.hid (Holds.of_below hb)
  clear hb
  go_wp2_with fail
  refine (new_calls 20000 (by omega) w w1 [] HH0.out).mono ?_
  rintro e w2 ⟨gd, rfl, hd, hD, hH⟩
  have HD := Lib.hid hD; have HH := Lib.hid hH
  clear hD hH
  go_wp2_with fail
  refine (open_none gd ⟨20000, 1, true, []⟩ hd [] nW w w2 (by decide) HD.out HH.out (by rw [read_nil])).mono ?_
  rintro e w3 ⟨gl, rfl, hl, hL, hd2, hD2, hH2⟩
  rw [logN_W] at hL
  have HL := Lib.hid hL; have HD2 := Lib.hid hD2; have HH2 := Lib.hid hH2
  clear hL hD2 hH2 HD HH HH0
  go_wp2_with fail
  go_loopw [13] (fun i wr => LenR w3 l 200 i wr) (fun i _ => l.length - (intOf i).toNat)
  case atStart => exact ⟨rfl, 0, by omega, rfl, by simp⟩
  case round =>
    obtain ⟨rfl, k, hk, rfl, h8⟩ := hrel
    have H8 := Lib.hid h8
    clear h8
    by_cases hlt : k < l.length
    · obtain ⟨r, hr⟩ : ∃ r, l[k]? = some r := ⟨_, List.getElem?_eq_getElem hlt⟩
      obtain ⟨ad, Aj, Cj, rfl, hcell, hIB⟩ := HA.out k r hr
      have hc0 := (HH2.out.below.cell (World.block_lt_of_cell? w _ hcell)).trans hcell
      have HR := Lib.hid hr
      clear hr hcell hIB
      by_cases h2 : (200 : Int) < (r.length : Int)
      · go_wp2_with fail
        go_ret
        exact ⟨rfl, HH2.out.below⟩
      · go_wp2_with fail
        refine ⟨⟨rfl, k + 1, by omega, by simp, ?_⟩, by simp [intOf]; omega⟩
        intro x hx
        rw [take_snoc l k r HR.out] at hx
        rcases List.mem_append.mp hx with hx | hx
        · exact H8.out x hx
        · obtain rfl := List.mem_singleton.mp hx
          omega
    · have hkn : k = l.length := by omega
      subst hkn
      rw [List.take_length] at H8
      clear hk
      go_wp2_with fail
      go_loopw [14] (fun i wr2 => LenR wr m 200 i wr2) (fun i _ => m.length - (intOf i).toNat)
      case atStart => exact ⟨rfl, 0, by omega, rfl, by simp⟩
      case round =>
        obtain ⟨rfl, k, hk, rfl, h9⟩ := hrel
        have H9 := Lib.hid h9
        clear h9
        by_cases hlt2 : k < m.length
        · obtain ⟨r, hr⟩ : ∃ r, m[k]? = some r := ⟨_, List.getElem?_eq_getElem hlt2⟩
          obtain ⟨ad, Aj, Cj, rfl, hcell, hIB⟩ := HB.out k r hr
          have hc0 := (HH2.out.below.cell (World.block_lt_of_cell? w _ hcell)).trans hcell
          have HR := Lib.hid hr
          clear hr hcell hIB
          by_cases h2 : (200 : Int) < (r.length : Int)
          · go_wp2_with fail
            go_ret
            exact ⟨rfl, HH2.out.below⟩
          · go_wp2_with fail
            refine ⟨⟨rfl, k + 1, by omega, by simp, ?_⟩, by simp [intOf]; omega⟩
            intro x hx
            rw [take_snoc m k r HR.out] at hx
            rcases List.mem_append.mp hx with hx | hx
            · exact H9.out x hx
            · obtain rfl := List.mem_singleton.mp hx
              omega
        · have hkn : k = m.length := by omega
          subst hkn
          rw [List.take_length] at H9
          clear hk
          have HLB := Lib.hid (show ∀ r ∈ l, r.length ≤ 100000 from fun r hr => by have := H8.out r hr; omega)
          have HL8 := Lib.hid (show ∀ r ∈ l, r.length ≤ 8000 from fun r hr => by have := H8.out r hr; omega)
          have HMB := Lib.hid (show ∀ r ∈ m, r.length ≤ 100000 from fun r hr => by have := H9.out r hr; omega)
          have HM8 := Lib.hid (show ∀ r ∈ m, r.length ≤ 8000 from fun r hr => by have := H9.out r hr; omega)
          have HML := Lib.hid (show ∀ r ∈ m, r.length ≤ 140737488355328 from fun r hr => by have := H9.out r hr; omega)
          have hs1 : (frsB l).length ≤ 3000 := by have := frsB_len l 200 H8.out; omega
          have hs2 : (frsB m).length ≤ 3000 := by have := frsB_len m 200 H9.out; omega
          have HAD := Lib.hid (show addM ⟨20000, 1, true, []⟩ (lW [] 0 1) l = (0, dW 20000 1 true ⟨frsB l, 0⟩, lW l 0 1) by rw [add_nil 20000 1 l 0 HL8.out, if_neg (by omega)])
          have HAM := Lib.hid (show addM (dW 20000 1 true ⟨[], 0⟩) (lW [] 0 1) m = (0, dW 20000 1 true ⟨frsB m, 0⟩, lW m 0 1) by rw [add_one 20000 1 ⟨[], 0⟩ [] m 0 HM8.out (by simp; omega)]; rfl)
          go_wp2_with fail
          refine (add_calls gl gd _ _ l A ca hl hd2 [] w _ (show nW.size ≤ _ by decide) (by omega) HLB.out (show ([] : List (List UInt8)).length ≤ _ by decide) (show ([] : List (ByteArray × Fl)).length < _ by decide) (bbs_vf HA.out) HL.out HD2.out HH2.out).mono ?_
          rintro e w4 ⟨rfl, h4, hL4, hd4, hD4, hH4⟩
          rw [HAD.out] at hL4 hD4 ⊢
          have HL4 := Lib.hid hL4; have HD4 := Lib.hid hD4; have HH4 := Lib.hid hH4
          clear hL4 hD4 hH4 HL HD2 HH2 HAD
          go_wp2_with fail
          refine (lsync_calls gl gd _ _ h4 hd4 [] w w4 (show nW.size ≤ _ by decide) HL4.out HD4.out HH4.out).mono ?_
          rintro e w5 ⟨rfl, h5, hL5, hd5, hD5, hH5⟩
          rw [syncL_one] at hL5 hD5 ⊢
          have HL5 := Lib.hid hL5; have HD5 := Lib.hid hD5; have HH5 := Lib.hid hH5
          clear hL5 hD5 hH5 HL4 HD4 HH4
          go_wp2_with fail
          refine (lclear_calls gl gd _ _ h5 hd5 [] w w5 (show nW.size ≤ _ by decide) HL5.out HD5.out HH5.out).mono ?_
          rintro e w6 ⟨rfl, h6, hL6, hd6, hD6, hH6⟩
          rw [clearL_one] at hL6 hD6 ⊢
          have HL6 := Lib.hid hL6; have HD6 := Lib.hid hD6; have HH6 := Lib.hid hH6
          clear hL6 hD6 hH6 HL5 HD5 HH5
          go_wp2_with fail
          refine (llen_calls gl gd _ h6 _ w w6 HL6.out HH6.out).mono ?_
          rintro e w7 ⟨rfl, hw⟩
          rw [hw]
          clear hw w7
          rw [show (lW [] 0 1).recs.length = 0 from rfl]
          go_wp2_with fail
          refine (add_calls gl gd _ _ m B cb h6 hd6 [] w _ (show nW.size ≤ _ by decide) (by omega) HMB.out (show ([] : List (List UInt8)).length ≤ _ by decide) (show ([(nW, _)] : List (ByteArray × Fl)).length < _ by decide) (bbs_vf HB.out) HL6.out HD6.out HH6.out).mono ?_
          rintro e w7 ⟨rfl, h7, hL7, hd7, hD7, hH7⟩
          rw [HAM.out] at hL7 hD7 ⊢
          have HL7 := Lib.hid hL7; have HD7 := Lib.hid hD7; have HH7 := Lib.hid hH7
          clear hL7 hD7 hH7 HL6 HD6 HH6 HAM
          go_wp2_with fail
          refine (lsync_calls gl gd _ _ h7 hd7 [] w w7 (show nW.size ≤ _ by decide) HL7.out HD7.out HH7.out).mono ?_
          rintro e w8 ⟨rfl, h8, hL8, hd8, hD8, hH8⟩
          rw [syncL_one] at hL8 hD8 ⊢
          have HD8 := Lib.hid hD8; have HH8 := Lib.hid (show Holds w (hd8 ++ []) w8 from hH8.right)
          clear hL8 hD8 hH8 HL7 HD7 HH7
          go_wp2_with fail
          refine (crash_calls gd _ hd8 [] keep torn w w8 HD8.out HH8.out).mono ?_
          rintro e w9 ⟨rfl, hd9, hD9, hH9⟩
          have HD9 := Lib.hid hD9; have HH9 := Lib.hid hH9
          clear hD9 hH9 HD8 HH8
          go_wp2_with fail
          refine (on_calls gd _ hd9 _ w w9 (show (1 : Int) < _ by decide) HD9.out HH9.out).mono ?_
          rintro e w10 ⟨rfl, hd10, hD10, hH10⟩
          rw [crash_one, crF_safe] at hD10
          have HD10 := Lib.hid (show IsD gd (dW 20000 2 true ⟨frsB m, (frsB m).length⟩) hd10 from hD10); have HH10 := Lib.hid hH10
          clear hD10 hH10 HD9 HH9
          go_wp2_with fail
          refine (open_whole gd _ hd10 _ nW w w10 (by decide) HD10.out HH10.out 100000 m ((frsB m).length : Int) (by rw [read_one]) (by rw [read_one]; show (frsB m).length ≤ _; omega) (by rw [read_one]; exact scan_all m HM8.out (by omega)) (by rw [sync_one])).mono ?_
          rintro e w11 ⟨gk, rfl, h11, hL11, hd11, hD11, hH11⟩
          rw [sync_one] at hD11
          have HL11 := Lib.hid (show IsL gk gd (lW m m.length 2) h11 from hL11); have HD11 := Lib.hid (show IsD gd (dW 20000 2 true ⟨frsB m, (frsB m).length⟩) hd11 from hD11); have HH11 := Lib.hid hH11
          clear hL11 hD11 hH11 HD10 HH10
          have HLN := Lib.hid (llen_calls gk gd _ h11 _ w w11 HL11.out HH11.out)
          go_wp2_with fail
          refine HLN.out.mono ?_
          rintro e w12 ⟨rfl, hw⟩
          rw [hw]
          clear hw w12 HLN
          rw [show (lW m m.length 2).recs.length = m.length from rfl]
          go_wp2_with fail
          go_loopw [17] (fun i wr => CmR w gk gd (lW m m.length 2) (dW 20000 2 true ⟨frsB m, (frsB m).length⟩) m.length i wr) (fun i _ => m.length - (intOf i).toNat)
          case atStart => exact ⟨0, h11, hd11, by omega, rfl, HL11.out, HD11.out, HH11.out⟩
          case round =>
            obtain ⟨k, h5, hd5, hk, rfl, hL5, hD5, hH5⟩ := hrel
            by_cases hlt3 : k < m.length
            · obtain ⟨r, hr⟩ : ∃ r, m[k]? = some r := ⟨_, List.getElem?_eq_getElem hlt3⟩
              have HAT := Lib.hid (at_one (dW 20000 2 true ⟨frsB m, (frsB m).length⟩) m m.length k r rfl hr)
              obtain ⟨ad, Aj, Cj, rfl, hcell, hIB⟩ := HB.out k r hr
              have HCX := Lib.hid (fun w' (hb : Below w.heap.size w w') => show w'.cell? (ad.add k) = some (.slice Aj r.length Cj) from (hb.cell (World.block_lt_of_cell? w _ hcell)).trans hcell)
              have HIB := Lib.hid hIB
              have HL5 := Lib.hid hL5; have HD5 := Lib.hid hD5; have HH5 := Lib.hid hH5
              clear hr hcell hIB hL5 hD5 hH5
              go_wp2_with fail
              refine (lat_calls gk gd _ (lW m m.length 2) (k : Nat) h5 hd5 [] w _ HML.out HL5.out HD5.out HH5.out).mono ?_
              rintro e w13 ⟨rv, he, hv, hR, h6, hL6, hH6⟩
              rw [show (lW m m.length 2) = lW m m.length (dW 20000 2 true ⟨frsB m, (frsB m).length⟩).lives from rfl, HAT.out] at he hR
              subst he
              rw [show ({ lW m m.length 2 with done := offM (dW 20000 2 true ⟨frsB m, (frsB m).length⟩) (lW m m.length 2) } : LM) = lW m m.length 2 by rw [off_no _ _ rfl rfl rfl]; rfl] at hL6
              have HL6 := Lib.hid hL6; have HHV := Lib.hid (show Holds w (hv ++ (h6 ++ hd5)) _ from by simpa using hH6); have HRV := Lib.hid hR
              have HD6 := HD5
              clear hL6 hH6 hR HL5 HH5
              go_wp2_with fail
              refine wp_region_own 12 (fun _ => []) (by kernel_rfl) (by kernel_rfl) (by kernel_rfl) (by kernel_rfl) (Nat.le_of_ble_eq_true (by kernel_rfl)) w (fun Ls hs => hs = hv ++ (h6 ++ hd5)) (fun i v h => match i with | 0 => v = .int .i64 0 ∧ h = [] | 1 => v = .bool false ∧ h = [] | 2 => v = .bool false ∧ h = [] | 3 => v = rv ∧ h = [] | 4 => v = .string ⟨r.toArray⟩ ∧ h = [] | 5 => v = .slice (some ad) m.length cb ∧ h = [] | 6 => v = .int .i64 (k : Nat) ∧ h = [] | 7 => v = .pointer (some (ad.add k)) ∧ h = [] | 8 => v = .slice Aj r.length Cj ∧ h = [] | 9 => v = .string ⟨r.toArray⟩ ∧ h = [] | 10 => v = .bool false ∧ h = [] | 11 => v = .bool false ∧ h = [] | _ => True) ((hv ++ (h6 ++ hd5))) (rfl) (HHV.out.drew) ?_ ?_
              · intro i o hi ho Ls f Hf hs R w1 hI hL hd hH
                simp only [fill, List.take_succ_cons, List.take_zero, Act.put, List.setIfInBounds_toArray, List.set_cons_zero, List.set_cons_succ]
                match i, hi with
                | 0, _ =>
                  obtain rfl := Option.some.inj ho
                  clear hd ho
                  have hH : Holds w (hs ++ ([] ++ R)) w1 := hH
                  subst hI
                  unfold wpOp
                  refine Or.inl ?_
                  unfold Oper.wp
                  go_simp
                  exact OwnBy.mk _ _ _ rfl (rfl) (⟨rfl, rfl⟩) (hH)
                | 1, _ =>
                  obtain rfl := Option.some.inj ho
                  have e0 : f 0 = .int .i64 0 := (hd ⟨0, .data⟩ (by simp) rfl).2.1
                  clear hd ho
                  have hH : Holds w (hs ++ ([] ++ R)) w1 := hH
                  subst hI
                  unfold wpOp
                  refine Or.inl ?_
                  simp only [e0]
                  unfold Oper.wp
                  go_simp
                  exact OwnBy.mk _ _ _ rfl (rfl) (⟨rfl, rfl⟩) (hH)
                | 2, _ =>
                  obtain rfl := Option.some.inj ho
                  have e1 : f 1 = .bool false := (hd ⟨1, .data⟩ (by simp) rfl).2.1
                  clear hd ho
                  have hH : Holds w (hs ++ ([] ++ R)) w1 := hH
                  subst hI
                  unfold wpOp
                  refine Or.inl ?_
                  simp only [e1]
                  unfold Oper.wp
                  go_simp
                  exact OwnBy.mk _ _ _ rfl (rfl) (⟨rfl, rfl⟩) (hH)
                | 3, _ =>
                  obtain rfl := Option.some.inj ho
                  have e2 : f 2 = .bool false := (hd ⟨2, .guard⟩ (by simp) rfl).2.1
                  clear hd ho
                  have hH : Holds w (hs ++ ([] ++ R)) w1 := hH
                  subst hI
                  unfold wpOp
                  simp only [e2]
                  refine Or.inl ?_
                  unfold Oper.wp
                  go_simp
                  exact OwnBy.mk _ _ _ rfl (rfl) (⟨rfl, rfl⟩) (hH)
                | 4, _ =>
                  obtain rfl := Option.some.inj ho
                  have e3 : f 3 = rv := (hd ⟨3, .data⟩ (by simp) rfl).2.1
                  have e2 : f 2 = .bool false := (hd ⟨2, .guard⟩ (by simp) rfl).2.1
                  clear hd ho
                  have hH : Holds w (hs ++ ([] ++ R)) w1 := hH
                  subst hI
                  unfold wpOp
                  simp only [e3, e2]
                  refine Or.inl ?_
                  unfold Oper.wp
                  have q := conv_str HRV.out (hH.perm (k := hv ++ ((h6 ++ hd5) ++ R)) (by classical rw [List.perm_iff_count]; intro a; simp only [List.count_append, List.count_cons, List.count_nil]; omega))
                  go_simp
                  exact OwnBy.mk _ _ _ rfl (rfl) (⟨rfl, rfl⟩) (hH)
                | 5, _ =>
                  obtain rfl := Option.some.inj ho
                  have e2 : f 2 = .bool false := (hd ⟨2, .guard⟩ (by simp) rfl).2.1
                  clear hd ho
                  have hH : Holds w (hs ++ ([] ++ R)) w1 := hH
                  subst hI
                  unfold wpOp
                  simp only [e2]
                  refine Or.inl ?_
                  unfold Oper.wp
                  go_simp
                  exact OwnBy.mk _ _ _ rfl (rfl) (⟨rfl, rfl⟩) (hH)
                | 6, _ =>
                  obtain rfl := Option.some.inj ho
                  have e2 : f 2 = .bool false := (hd ⟨2, .guard⟩ (by simp) rfl).2.1
                  clear hd ho
                  have hH : Holds w (hs ++ ([] ++ R)) w1 := hH
                  subst hI
                  unfold wpOp
                  simp only [e2]
                  refine Or.inl ?_
                  unfold Oper.wp
                  go_simp
                  exact OwnBy.mk _ _ _ rfl (rfl) (⟨rfl, rfl⟩) (hH)
                | 7, _ =>
                  obtain rfl := Option.some.inj ho
                  have e5 : f 5 = .slice (some ad) m.length cb := (hd ⟨5, .data⟩ (by simp) rfl).2.1
                  have e6 : f 6 = .int .i64 (k : Nat) := (hd ⟨6, .data⟩ (by simp) rfl).2.1
                  have e2 : f 2 = .bool false := (hd ⟨2, .guard⟩ (by simp) rfl).2.1
                  clear hd ho
                  have hH : Holds w (hs ++ ([] ++ R)) w1 := hH
                  subst hI
                  unfold wpOp
                  simp only [e5, e6, e2]
                  refine Or.inl ?_
                  unfold Oper.wp
                  go_simp
                  exact OwnBy.mk _ _ _ rfl (rfl) (⟨rfl, rfl⟩) (hH)
                | 8, _ =>
                  obtain rfl := Option.some.inj ho
                  have e7 : f 7 = .pointer (some (ad.add k)) := (hd ⟨7, .data⟩ (by simp) rfl).2.1
                  have e2 : f 2 = .bool false := (hd ⟨2, .guard⟩ (by simp) rfl).2.1
                  clear hd ho
                  have hH : Holds w (hs ++ ([] ++ R)) w1 := hH
                  subst hI
                  unfold wpOp
                  simp only [e7, e2]
                  refine Or.inl ?_
                  unfold Oper.wp
                  have q := HCX.out w1 hH.below
                  go_simp
                  exact OwnBy.mk _ _ _ rfl (rfl) (⟨rfl, rfl⟩) (hH)
                | 9, _ =>
                  obtain rfl := Option.some.inj ho
                  have e8 : f 8 = .slice Aj r.length Cj := (hd ⟨8, .data⟩ (by simp) rfl).2.1
                  have e2 : f 2 = .bool false := (hd ⟨2, .guard⟩ (by simp) rfl).2.1
                  clear hd ho
                  have hH : Holds w (hs ++ ([] ++ R)) w1 := hH
                  subst hI
                  unfold wpOp
                  simp only [e8, e2]
                  refine Or.inl ?_
                  unfold Oper.wp
                  have q := conv_reads (HIB.out.1) (HIB.out.2.2.2.below hH.below)
                  go_simp
                  exact OwnBy.mk _ _ _ rfl (rfl) (⟨rfl, rfl⟩) (hH)
                | 10, _ =>
                  obtain rfl := Option.some.inj ho
                  have e4 : f 4 = .string ⟨r.toArray⟩ := (hd ⟨4, .data⟩ (by simp) rfl).2.1
                  have e9 : f 9 = .string ⟨r.toArray⟩ := (hd ⟨9, .data⟩ (by simp) rfl).2.1
                  have e2 : f 2 = .bool false := (hd ⟨2, .guard⟩ (by simp) rfl).2.1
                  clear hd ho
                  have hH : Holds w (hs ++ ([] ++ R)) w1 := hH
                  subst hI
                  unfold wpOp
                  simp only [e4, e9, e2]
                  refine Or.inl ?_
                  unfold Oper.wp
                  go_simp
                  exact OwnBy.mk _ _ _ rfl (rfl) (⟨rfl, rfl⟩) (hH)
                | 11, _ =>
                  obtain rfl := Option.some.inj ho
                  have e2 : f 2 = .bool false := (hd ⟨2, .data⟩ (by simp) rfl).2.1
                  have e10 : f 10 = .bool false := (hd ⟨10, .data⟩ (by simp) rfl).2.1
                  clear hd ho
                  have hH : Holds w (hs ++ ([] ++ R)) w1 := hH
                  subst hI
                  unfold wpOp
                  refine Or.inl ?_
                  simp only [e2, e10]
                  unfold Oper.wp
                  go_simp
                  exact OwnBy.mk _ _ _ rfl (rfl) (⟨rfl, rfl⟩) (hH)
              · intro Ls f Hf hs w1 hI hL hV hH
                have e0 : f 0 = .int .i64 0 := (hV 0 (by decide)).1
                have e1 : f 1 = .bool false := (hV 1 (by decide)).1
                have e2 : f 2 = .bool false := (hV 2 (by decide)).1
                have e3 : f 3 = rv := (hV 3 (by decide)).1
                have e4 : f 4 = .string ⟨r.toArray⟩ := (hV 4 (by decide)).1
                have e5 : f 5 = .slice (some ad) m.length cb := (hV 5 (by decide)).1
                have e6 : f 6 = .int .i64 (k : Nat) := (hV 6 (by decide)).1
                have e7 : f 7 = .pointer (some (ad.add k)) := (hV 7 (by decide)).1
                have e8 : f 8 = .slice Aj r.length Cj := (hV 8 (by decide)).1
                have e9 : f 9 = .string ⟨r.toArray⟩ := (hV 9 (by decide)).1
                have e10 : f 10 = .bool false := (hV 10 (by decide)).1
                have e11 : f 11 = .bool false := (hV 11 (by decide)).1
                clear hV
                have hH : Holds w (hs ++ []) w1 := hH
                simp only [fill, List.take_succ_cons, List.take_zero, List.drop_succ_cons, List.drop_zero, Act.put, List.setIfInBounds_toArray, List.set_cons_zero, List.set_cons_succ, e0, e1, e2, e3, e4, e5, e6, e7, e8, e9, e10, e11]
                subst hI
                have HX := Lib.hid (show Holds w (hv ++ (h6 ++ hd5)) w1 from by simpa using hH)
                clear hH hL
                go_wp2_with fail
                refine ⟨⟨k + 1, h6, hd5, by omega, by simp, HL6.out, HD5.out, by simpa using HX.out.right⟩, by simp [intOf]; omega⟩
            · have hkn : k = m.length := by omega
              subst hkn
              have HB13 := Lib.hid hH5.below
              clear hL5 hD5 hH5
              go_wp2_with fail
              go_ret
              exact ⟨rfl, HB13.out⟩
end Go.Proofs.Ythgebchidkadhaa
