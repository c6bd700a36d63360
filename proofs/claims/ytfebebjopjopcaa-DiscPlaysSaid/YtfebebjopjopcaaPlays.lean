/- DiscPlays' walk. No condition. -/
import Derived.Test.YtfebebjopjopcaaPc
import Derived.Test.YtfebebjopjopcaaOpA
namespace Go.Proofs.YtfebebjopjopcaaG
open Go.RowKit Go.Proofs.Ytfebebjopjopcaa.Sp Go.Proofs.Ytfebebjopjopcaa.QRs Go.Proofs.YtfebebjopjopcaaW.PrintWords
set_option linter.unusedVariables false
set_option linter.unusedSimpArgs false
theorem C_reads {w : World} {A : Option Addr} {n : Nat} {r : List Int} (h : Kd.C (Kd.int .i64) w A n r) : Reads w A n 1 (iv r) := by
  obtain ⟨h1, h2, h3⟩ := h
  refine ⟨by simp [iv, h1], fun e => ?_, fun ad had j u hj => ?_⟩
  · rcases Nat.eq_zero_or_pos n with q | q
    · exact q
    · obtain ⟨ad, e2, _⟩ := h3 q
      rw [e] at e2
      cases e2
  · unfold iv at hj
    rw [List.getElem?_map] at hj
    cases hp : r[j]? with
    | none => rw [hp] at hj; cases hj
    | some p =>
      rw [hp] at hj
      obtain rfl : Value.int .i64 p = u := by simpa using hj
      have hl := (List.getElem?_eq_some_iff.mp hp).1
      obtain ⟨ad2, e2, hc⟩ := h3 (by omega)
      obtain rfl : ad = ad2 := by rw [had] at e2; exact Option.some.inj e2
      obtain ⟨c, hl2, hR, hcell⟩ := hc j p hp
      have hR : c = [.int .i64 p] := hR
      have := hcell 0 (.int .i64 p) (by rw [hR]; rfl)
      have e3 : ad.add (j * 1 + 0) = ad.add j := by rw [Nat.mul_one, Nat.add_zero]
      have this : w.cell? (ad.add (j * 1 + 0)) = some (.int .i64 p) := this
      rwa [e3] at this
def xO (x : S40) (AL : Option Addr) (cl : Nat) : Obj := .cells #[.int .i64 x.f0, .int .i64 x.f1, .slice AL x.f2.length cl, .int .i64 x.f3.f0, .int .u8 x.f3.f1] 40 (0, 0)
def PlR (w : World) (gc gw : Nat) (node : Int) (l : List S40) (i : Value) (wr : World) : Prop := ∃ (k : Nat) (h o : Int), k ≤ l.length ∧ i = .int .i64 k ∧ Inv h o ∧ Holds w ((gw, rkO node h o) :: ((gc, ckO node h o) :: [])) wr
set_option maxRecDepth 100000 in
set_option maxHeartbeats 2000000 in
theorem plays_walk (node high : Int) (A : Option Addr) (c : Nat) (l : List S40) (w : World) (hl : Kd.C k40 w A l.length l) : Calls Try.prog 8 #[.int .u8 node, .int .i64 high, .slice A l.length c] w fun e w' => e = .returned (.bool true) ∧ Below w.heap.size w w' := by
  by_cases e1 : high < -1 ∨ 36028797018963967 < high
  · have HE := Lib.hid e1
    rcases e1 with e1 | e1
    · go_enter Try.func8, Try.ntmps8
      go_wp2_with fail
      refine (awake_calls w).mono ?_
      rintro e w1 ⟨rfl, hb⟩
      go_wp2_with fail
      refine (new_no node high w1 HE.out).mono ?_
      rintro e w2 ⟨rfl, rfl⟩
      go_wp2_with fail
      go_ret
      exact ⟨rfl, hb⟩
    · have e2 : ¬ high < -1 := by omega
      go_enter Try.func8, Try.ntmps8
      go_wp2_with fail
      refine (awake_calls w).mono ?_
      rintro e w1 ⟨rfl, hb⟩
      go_wp2_with fail
      refine (new_no node high w1 HE.out).mono ?_
      rintro e w2 ⟨rfl, rfl⟩
      go_wp2_with fail
      go_ret
      exact ⟨rfl, hb⟩
  have e2 : ¬ high < -1 := by omega
  have e3 : ¬ (36028797018963967 : Int) < high := by omega
  have HNY := Lib.hid (fun w1 => new_yes node high w1 (by omega) (by omega))
  have HINV := Lib.hid (show Inv high 0 from ⟨by omega, by omega, by omega, by omega⟩)
  clear e1
  by_cases e4 : (60 : Int) < (l.length : Int)
  · go_enter Try.func8, Try.ntmps8
    go_wp2_with fail
    refine (awake_calls w).mono ?_
    rintro e w1 ⟨rfl, hb⟩
    go_wp2_with fail
    refine (HNY.out w1).mono ?_
    rintro e w2 ⟨rfl, hw⟩
    rw [hw]
    clear hw w2
    go_wp2_with fail
    go_ret
    exact ⟨rfl, (Holds.of_below hb).alloc_ _ |>.below⟩
  have HL := Lib.hid hl
  clear hl
  go_enter Try.func8, Try.ntmps8
  go_wp2_with fail
  refine (awake_calls w).mono ?_
  rintro e w1 ⟨rfl, hb⟩
  have HH0 := Lib.hid (Holds.of_below hb)
  clear hb
  go_wp2_with fail
  refine (HNY.out w1).mono ?_
  rintro e w2 ⟨rfl, hw⟩
  have HH1 := Lib.hid (show Holds w [(w1.heap.size, ckO node high 0)] w2 by rw [hw]; exact HH0.out.alloc _)
  obtain ⟨gc, hgc⟩ : ∃ gc, gc = w1.heap.size := ⟨_, rfl⟩
  rw [← hgc] at HH1 ⊢
  clear hw hgc HH0 HNY
  go_wp2_with fail
  have HH2 := Lib.hid (show Holds w ((w2.heap.size, rkO node high 0) :: ((gc, ckO node high 0) :: [])) _ from HH1.out.alloc (rkO node high 0))
  obtain ⟨gw, hgw⟩ : ∃ gw, gw = w2.heap.size := ⟨_, rfl⟩
  rw [← hgw] at HH2 ⊢
  clear hgw HH1
  go_loopw [10] (fun i wr => PlR w gc gw node l i wr) (fun i _ => l.length - (intOf i).toNat)
  case atStart => exact ⟨0, high, 0, by omega, rfl, HINV.out, HH2.out⟩
  case round =>
    clear HH2 HINV e2 e3
    obtain ⟨k, h, o, hk, rfl, hinv, hH⟩ := hrel
    have HI := Lib.hid hinv; have HH := Lib.hid hH
    clear hinv hH
    by_cases hlt : k < l.length
    · obtain ⟨x, hx⟩ : ∃ x, l[k]? = some x := ⟨_, List.getElem?_eq_getElem hlt⟩
      obtain ⟨ad, hA, hcells⟩ := HL.out.2.2 (by omega)
      subst hA
      obtain ⟨cs, hcl, hK, hcell⟩ := hcells k x hx
      obtain ⟨AL, cl, rfl, hll, hCL⟩ := k40_open hK
      have HRD := Lib.hid (fun w' (hb : Below w.heap.size w w') => C_reads (Kd.C_below hCL hb))
      have cx : ∀ i u, #[Value.int .i64 x.f0, .int .i64 x.f1, .slice AL x.f2.length cl, .int .i64 x.f3.f0, .int .u8 x.f3.f1].toList[i]? = some u → w.cell? (ad.add (k * 5 + i)) = some u := hcell
      have up := fun i u hu => (HH.out.below.cell (World.block_lt_of_cell? w _ (cx i u hu))).trans (cx i u hu)
      have q0 := up 0 _ rfl; have q1 := up 1 _ rfl; have q2 := up 2 _ rfl; have q3 := up 3 _ rfl; have q4 := up 4 _ rfl
      rw [Nat.add_zero] at q0
      rw [add_field _ _ _ (by omega)] at q1 q2 q3 q4
      clear hcells hcl hK hcell hll hCL cx up hx
      by_cases e5 : (80 : Int) < (x.f2.length : Int)
      · go_wp2_with fail
        go_ret
        exact ⟨rfl, (HH.out.alloc_ _).below⟩
      have HX := Lib.hid (show Holds w ((wr.heap.size, xO x AL cl) :: ((gw, rkO node h o) :: ((gc, ckO node h o) :: []))) _ from HH.out.alloc (xO x AL cl))
      have p0 : _ = some (Value.int .i64 x.f0) := HX.out.cell 0
      have p1 : _ = some (Value.int .i64 x.f1) := HX.out.cell 1
      have p2 : _ = some (Value.slice AL x.f2.length cl) := HX.out.cell 2
      have p3 : _ = some (Value.int .i64 x.f3.f0) := HX.out.cell 3
      have p4 : _ = some (Value.int .u8 x.f3.f1) := HX.out.cell 4
      by_cases o0 : x.f0 = 0
      · have o0b : (x.f0 == 0) = true := by rw [beq_iff_eq]; exact o0
        have HO := Lib.hid o0
        clear o0
        go_wp2_with fail
        refine (cissue_calls gc node h o x.f1 w _ ((wr.heap.size, xO x AL cl) :: ((gw, rkO node h o) :: [])) HI.out (HX.out.perm (by classical rw [List.perm_iff_count]; intro a; simp only [List.count_append, List.count_cons, List.count_nil]; omega))).mono ?_
        rintro e w3 ⟨rfl, hH3⟩
        obtain ⟨T, hT⟩ : ∃ T, T = isT h o x.f1 := ⟨_, rfl⟩
        obtain ⟨nn, hnn⟩ : ∃ T, T = isN node h := ⟨_, rfl⟩
        obtain ⟨ee, hee⟩ : ∃ T, T = isE h := ⟨_, rfl⟩
        have HC2 := Lib.hid (rissue_calls gw node h o x.f1 w)
        rw [← hT, ← hnn, ← hee] at HC2 ⊢
        obtain ⟨h2, hh2⟩ : ∃ T, T = isH h o x.f1 := ⟨_, rfl⟩
        have HI2 := Lib.hid (show Inv h2 o by rw [hh2]; exact isH_inv h o x.f1 HI.out)
        rw [← hh2] at hH3 HC2
        have HX3 := Lib.hid (show Holds w ((wr.heap.size, xO x AL cl) :: ((gw, rkO node h o) :: ((gc, ckO node h2 o) :: []))) w3 from hH3.perm (by classical rw [List.perm_iff_count]; intro a; simp only [List.count_append, List.count_cons, List.count_nil]; omega))
        clear hH3 hT hnn hee hh2 p0 p1 p2 p3 p4 HX
        have HX4 := Lib.hid (HX3.out.alloc (.cells #[.int .i64 T, .int .u8 nn] 29))
        have p1 : _ = some (Value.int .i64 x.f1) := HX4.out.tail.cell 1
        go_wp2_with fail
        refine (HC2.out _ ((wr.heap.size, xO x AL cl) :: ((gc, ckO node h2 o) :: ((w3.heap.size, .cells #[.int .i64 T, .int .u8 nn] 29) :: []))) HI.out (HX4.out.perm (by classical rw [List.perm_iff_count]; intro a; simp only [List.count_append, List.count_cons, List.count_nil]; omega))).mono ?_
        rintro e w5 ⟨rfl, hH5⟩
        have HX5 := Lib.hid (show Holds w ((w3.heap.size, .cells #[.int .i64 T, .int .u8 nn] 29 (0, 0)) :: ((wr.heap.size, xO x AL cl) :: ((gw, rkO node h2 o) :: ((gc, ckO node h2 o) :: [])))) w5 from hH5.perm (by classical rw [List.perm_iff_count]; intro a; simp only [List.count_append, List.count_cons, List.count_nil]; omega))
        clear hH5 p1 HC2 HX4 HX3
        have HX6 := Lib.hid (HX5.out.alloc (.cells #[.int .i64 T, .int .u8 nn] 29))
        have a0 : _ = some (Value.int .i64 T) := HX6.out.tail.cell 0
        have a1 : _ = some (Value.int .u8 nn) := HX6.out.tail.cell 1
        have b0 : _ = some (Value.int .i64 T) := HX6.out.cell 0
        have b1 : _ = some (Value.int .u8 nn) := HX6.out.cell 1
        go_wp2_with fail
        have HW := Lib.hid (show Holds w ((wr.heap.size, xO x AL cl) :: ((gw, rkO node h2 o) :: ((gc, ckO node h2 o) :: []))) _ from HX6.out.tail.tail)
        clear a0 a1 b0 b1 HX6 HX5
        obtain ⟨rr, hrr⟩ : ∃ rr, rdT h2 o x.f1 = rr := ⟨_, rfl⟩
        have HRR := Lib.hid hrr
        clear hrr
        refine wp_region_own 31 (fun _ => []) (by kernel_rfl) (by kernel_rfl) (by kernel_rfl) (by kernel_rfl) (Nat.le_of_ble_eq_true (by kernel_rfl)) w (fun Ls hs => hs = ((wr.heap.size, xO x AL cl) :: ((gw, rkO node h2 o) :: ((gc, ckO node h2 o) :: [])))) (fun i v h => match i with | 0 => v = .bool true ∧ h = [] | 1 => v = .bool false ∧ h = [] | 2 => v = .bool false ∧ h = [] | 3 => v = .pointer (some ⟨gc, 0, none⟩) ∧ h = [] | 4 => v = .pointer (some ⟨wr.heap.size, 1, none⟩) ∧ h = [] | 5 => v = .int .i64 x.f1 ∧ h = [] | 6 => v = .int .i64 rr ∧ h = [] | 7 => v = .pointer (some ⟨gw, 0, none⟩) ∧ h = [] | 8 => v = .pointer (some ⟨wr.heap.size, 1, none⟩) ∧ h = [] | 9 => v = .int .i64 x.f1 ∧ h = [] | 10 => v = .int .i64 rr ∧ h = [] | 11 => v = .bool false ∧ h = [] | 12 => v = .bool false ∧ h = [] | 13 => v = .bool false ∧ h = [] | 14 => v = .pointer (some ⟨gc, 0, none⟩) ∧ h = [] | 15 => v = .int .i64 h2 ∧ h = [] | 16 => v = .pointer (some ⟨gw, 0, none⟩) ∧ h = [] | 17 => v = .pointer (some ⟨gw, 0, none⟩) ∧ h = [] | 18 => v = .pointer (some ⟨gw, 1, none⟩) ∧ h = [] | 19 => v = .int .i64 h2 ∧ h = [] | 20 => v = .bool false ∧ h = [] | 21 => v = .bool false ∧ h = [] | 22 => v = .bool false ∧ h = [] | 23 => v = .pointer (some ⟨gc, 0, none⟩) ∧ h = [] | 24 => v = .int .i64 o ∧ h = [] | 25 => v = .pointer (some ⟨gw, 0, none⟩) ∧ h = [] | 26 => v = .pointer (some ⟨gw, 0, none⟩) ∧ h = [] | 27 => v = .pointer (some ⟨gw, 2, none⟩) ∧ h = [] | 28 => v = .int .i64 o ∧ h = [] | 29 => v = .bool false ∧ h = [] | 30 => v = .bool false ∧ h = [] | _ => True) (((wr.heap.size, xO x AL cl) :: ((gw, rkO node h2 o) :: ((gc, ckO node h2 o) :: [])))) (rfl) (HW.out.drew) ?_ ?_
        · intro i o hi ho Ls f Hf hs R w1 hI hL hd hH
          simp only [fill, List.take_succ_cons, List.take_zero, Act.put, List.setIfInBounds_toArray, List.set_cons_zero, List.set_cons_succ]
          match i, hi with
          | 0, _ =>
            obtain rfl := Option.some.inj ho
            clear hd ho
            have hH : Holds w (hs ++ ([] ++ R)) w1 := hH
            subst hI
            unfold wpOp
            refine Or.inl ?_
            unfold Oper.wp
            go_simp
            exact OwnBy.mk _ _ _ rfl (rfl) (⟨rfl, rfl⟩) (hH)
          | 1, _ =>
            obtain rfl := Option.some.inj ho
            have e0 : f 0 = .bool true := (hd ⟨0, .data⟩ (by simp) rfl).2.1
            clear hd ho
            have hH : Holds w (hs ++ ([] ++ R)) w1 := hH
            subst hI
            unfold wpOp
            refine Or.inl ?_
            simp only [e0]
            unfold Oper.wp
            go_simp
            exact OwnBy.mk _ _ _ rfl (rfl) (⟨rfl, rfl⟩) (hH)
          | 2, _ =>
            obtain rfl := Option.some.inj ho
            have e1 : f 1 = .bool false := (hd ⟨1, .data⟩ (by simp) rfl).2.1
            clear hd ho
            have hH : Holds w (hs ++ ([] ++ R)) w1 := hH
            subst hI
            unfold wpOp
            refine Or.inl ?_
            simp only [e1]
            unfold Oper.wp
            go_simp
            exact OwnBy.mk _ _ _ rfl (rfl) (⟨rfl, rfl⟩) (hH)
          | 3, _ =>
            obtain rfl := Option.some.inj ho
            have e2 : f 2 = .bool false := (hd ⟨2, .guard⟩ (by simp) rfl).2.1
            clear hd ho
            have hH : Holds w (hs ++ ([] ++ R)) w1 := hH
            subst hI
            unfold wpOp
            simp only [e2]
            refine Or.inl ?_
            unfold Oper.wp
            go_simp
            exact OwnBy.mk _ _ _ rfl (rfl) (⟨rfl, rfl⟩) (hH)
          | 4, _ =>
            obtain rfl := Option.some.inj ho
            have e2 : f 2 = .bool false := (hd ⟨2, .guard⟩ (by simp) rfl).2.1
            clear hd ho
            have hH : Holds w (hs ++ ([] ++ R)) w1 := hH
            subst hI
            unfold wpOp
            simp only [e2]
            refine Or.inl ?_
            unfold Oper.wp
            go_simp
            exact OwnBy.mk _ _ _ rfl (rfl) (⟨rfl, rfl⟩) (hH)
          | 5, _ =>
            obtain rfl := Option.some.inj ho
            have e4 : f 4 = .pointer (some ⟨wr.heap.size, 1, none⟩) := (hd ⟨4, .data⟩ (by simp) rfl).2.1
            have e2 : f 2 = .bool false := (hd ⟨2, .guard⟩ (by simp) rfl).2.1
            clear hd ho
            have hH : Holds w (hs ++ ([] ++ R)) w1 := hH
            subst hI
            unfold wpOp
            simp only [e4, e2]
            refine Or.inl ?_
            unfold Oper.wp
            have q0 : w1.cell? ⟨wr.heap.size, 1, none⟩ = some (.int .i64 x.f1) := hH.cell 1
            go_simp
            exact OwnBy.mk _ _ _ rfl (rfl) (⟨rfl, rfl⟩) (hH)
          | 6, _ =>
            obtain rfl := Option.some.inj ho
            have e3 : f 3 = .pointer (some ⟨gc, 0, none⟩) := (hd ⟨3, .data⟩ (by simp) rfl).2.1
            have e5 : f 5 = .int .i64 x.f1 := (hd ⟨5, .data⟩ (by simp) rfl).2.1
            have e2 : f 2 = .bool false := (hd ⟨2, .guard⟩ (by simp) rfl).2.1
            clear hd ho
            have hH : Holds w (hs ++ ([] ++ R)) w1 := hH
            subst hI
            unfold wpOp
            simp only [e3, e5, e2]
            refine Or.inl ?_
            unfold Oper.wp
            have hB : IsClk w1 gc node h2 o := ((hH.perm (k := (gc, ckO node h2 o) :: ((wr.heap.size, xO x AL cl) :: ((gw, rkO node h2 o) :: R))) (by classical rw [List.perm_iff_count]; intro a; simp only [List.count_append, List.count_cons, List.count_nil]; omega))).get
            go_simp
            refine (read_calls gc node h2 o x.f1 w1 hB ⟨HI2.out.o0, HI2.out.o1⟩).mono ?_
            rintro e w3 ⟨rfl, rfl⟩
            rw [HRR.out]
            exact OwnBy.mk _ _ _ rfl (rfl) (⟨rfl, rfl⟩) (hH)
          | 7, _ =>
            obtain rfl := Option.some.inj ho
            have e2 : f 2 = .bool false := (hd ⟨2, .guard⟩ (by simp) rfl).2.1
            clear hd ho
            have hH : Holds w (hs ++ ([] ++ R)) w1 := hH
            subst hI
            unfold wpOp
            simp only [e2]
            refine Or.inl ?_
            unfold Oper.wp
            go_simp
            exact OwnBy.mk _ _ _ rfl (rfl) (⟨rfl, rfl⟩) (hH)
          | 8, _ =>
            obtain rfl := Option.some.inj ho
            have e2 : f 2 = .bool false := (hd ⟨2, .guard⟩ (by simp) rfl).2.1
            clear hd ho
            have hH : Holds w (hs ++ ([] ++ R)) w1 := hH
            subst hI
            unfold wpOp
            simp only [e2]
            refine Or.inl ?_
            unfold Oper.wp
            go_simp
            exact OwnBy.mk _ _ _ rfl (rfl) (⟨rfl, rfl⟩) (hH)
          | 9, _ =>
            obtain rfl := Option.some.inj ho
            have e8 : f 8 = .pointer (some ⟨wr.heap.size, 1, none⟩) := (hd ⟨8, .data⟩ (by simp) rfl).2.1
            have e2 : f 2 = .bool false := (hd ⟨2, .guard⟩ (by simp) rfl).2.1
            clear hd ho
            have hH : Holds w (hs ++ ([] ++ R)) w1 := hH
            subst hI
            unfold wpOp
            simp only [e8, e2]
            refine Or.inl ?_
            unfold Oper.wp
            have q0 : w1.cell? ⟨wr.heap.size, 1, none⟩ = some (.int .i64 x.f1) := hH.cell 1
            go_simp
            exact OwnBy.mk _ _ _ rfl (rfl) (⟨rfl, rfl⟩) (hH)
          | 10, _ =>
            obtain rfl := Option.some.inj ho
            have e7 : f 7 = .pointer (some ⟨gw, 0, none⟩) := (hd ⟨7, .data⟩ (by simp) rfl).2.1
            have e9 : f 9 = .int .i64 x.f1 := (hd ⟨9, .data⟩ (by simp) rfl).2.1
            have e2 : f 2 = .bool false := (hd ⟨2, .guard⟩ (by simp) rfl).2.1
            clear hd ho
            have hH : Holds w (hs ++ ([] ++ R)) w1 := hH
            subst hI
            unfold wpOp
            simp only [e7, e9, e2]
            refine Or.inl ?_
            unfold Oper.wp
            have hHp := (hH.perm (k := (gw, rkO node h2 o) :: ((wr.heap.size, xO x AL cl) :: ((gc, ckO node h2 o) :: R))) (by classical rw [List.perm_iff_count]; intro a; simp only [List.count_append, List.count_cons, List.count_nil]; omega))
            go_simp
            refine (rread_calls gw node h2 o x.f1 w w1 _ ⟨HI2.out.o0, HI2.out.o1⟩ hHp).mono ?_
            rintro e w3 ⟨rfl, hw⟩
            rw [hw, HRR.out]
            exact OwnBy.mk _ _ _ rfl (rfl) (⟨rfl, rfl⟩) (hH)
          | 11, _ =>
            obtain rfl := Option.some.inj ho
            have e6 : f 6 = .int .i64 rr := (hd ⟨6, .data⟩ (by simp) rfl).2.1
            have e10 : f 10 = .int .i64 rr := (hd ⟨10, .data⟩ (by simp) rfl).2.1
            have e2 : f 2 = .bool false := (hd ⟨2, .guard⟩ (by simp) rfl).2.1
            clear hd ho
            have hH : Holds w (hs ++ ([] ++ R)) w1 := hH
            subst hI
            unfold wpOp
            simp only [e6, e10, e2]
            refine Or.inl ?_
            unfold Oper.wp
            go_simp
            exact OwnBy.mk _ _ _ rfl (rfl) (⟨rfl, rfl⟩) (hH)
          | 12, _ =>
            obtain rfl := Option.some.inj ho
            have e2 : f 2 = .bool false := (hd ⟨2, .data⟩ (by simp) rfl).2.1
            have e11 : f 11 = .bool false := (hd ⟨11, .data⟩ (by simp) rfl).2.1
            clear hd ho
            have hH : Holds w (hs ++ ([] ++ R)) w1 := hH
            subst hI
            unfold wpOp
            refine Or.inl ?_
            simp only [e2, e11]
            unfold Oper.wp
            go_simp
            exact OwnBy.mk _ _ _ rfl (rfl) (⟨rfl, rfl⟩) (hH)
          | 13, _ =>
            obtain rfl := Option.some.inj ho
            have e12 : f 12 = .bool false := (hd ⟨12, .data⟩ (by simp) rfl).2.1
            clear hd ho
            have hH : Holds w (hs ++ ([] ++ R)) w1 := hH
            subst hI
            unfold wpOp
            refine Or.inl ?_
            simp only [e12]
            unfold Oper.wp
            go_simp
            exact OwnBy.mk _ _ _ rfl (rfl) (⟨rfl, rfl⟩) (hH)
          | 14, _ =>
            obtain rfl := Option.some.inj ho
            have e13 : f 13 = .bool false := (hd ⟨13, .guard⟩ (by simp) rfl).2.1
            clear hd ho
            have hH : Holds w (hs ++ ([] ++ R)) w1 := hH
            subst hI
            unfold wpOp
            simp only [e13]
            refine Or.inl ?_
            unfold Oper.wp
            go_simp
            exact OwnBy.mk _ _ _ rfl (rfl) (⟨rfl, rfl⟩) (hH)
          | 15, _ =>
            obtain rfl := Option.some.inj ho
            have e14 : f 14 = .pointer (some ⟨gc, 0, none⟩) := (hd ⟨14, .data⟩ (by simp) rfl).2.1
            have e13 : f 13 = .bool false := (hd ⟨13, .guard⟩ (by simp) rfl).2.1
            clear hd ho
            have hH : Holds w (hs ++ ([] ++ R)) w1 := hH
            subst hI
            unfold wpOp
            simp only [e14, e13]
            refine Or.inl ?_
            unfold Oper.wp
            have hB : IsClk w1 gc node h2 o := ((hH.perm (k := (gc, ckO node h2 o) :: ((wr.heap.size, xO x AL cl) :: ((gw, rkO node h2 o) :: R))) (by classical rw [List.perm_iff_count]; intro a; simp only [List.count_append, List.count_cons, List.count_nil]; omega))).get
            go_simp
            refine (high_calls gc node h2 o w1 hB).mono ?_
            rintro e w3 ⟨rfl, rfl⟩
            exact OwnBy.mk _ _ _ rfl (rfl) (⟨rfl, rfl⟩) (hH)
          | 16, _ =>
            obtain rfl := Option.some.inj ho
            have e13 : f 13 = .bool false := (hd ⟨13, .guard⟩ (by simp) rfl).2.1
            clear hd ho
            have hH : Holds w (hs ++ ([] ++ R)) w1 := hH
            subst hI
            unfold wpOp
            simp only [e13]
            refine Or.inl ?_
            unfold Oper.wp
            go_simp
            exact OwnBy.mk _ _ _ rfl (rfl) (⟨rfl, rfl⟩) (hH)
          | 17, _ =>
            obtain rfl := Option.some.inj ho
            have e16 : f 16 = .pointer (some ⟨gw, 0, none⟩) := (hd ⟨16, .data⟩ (by simp) rfl).2.1
            have e13 : f 13 = .bool false := (hd ⟨13, .guard⟩ (by simp) rfl).2.1
            clear hd ho
            have hH : Holds w (hs ++ ([] ++ R)) w1 := hH
            subst hI
            unfold wpOp
            simp only [e16, e13]
            refine Or.inl ?_
            unfold Oper.wp
            go_simp
            exact OwnBy.mk _ _ _ rfl (rfl) (⟨rfl, rfl⟩) (hH)
          | 18, _ =>
            obtain rfl := Option.some.inj ho
            have e17 : f 17 = .pointer (some ⟨gw, 0, none⟩) := (hd ⟨17, .data⟩ (by simp) rfl).2.1
            have e13 : f 13 = .bool false := (hd ⟨13, .guard⟩ (by simp) rfl).2.1
            clear hd ho
            have hH : Holds w (hs ++ ([] ++ R)) w1 := hH
            subst hI
            unfold wpOp
            simp only [e17, e13]
            refine Or.inl ?_
            unfold Oper.wp
            go_simp
            exact OwnBy.mk _ _ _ rfl (rfl) (⟨rfl, rfl⟩) (hH)
          | 19, _ =>
            obtain rfl := Option.some.inj ho
            have e18 : f 18 = .pointer (some ⟨gw, 1, none⟩) := (hd ⟨18, .data⟩ (by simp) rfl).2.1
            have e13 : f 13 = .bool false := (hd ⟨13, .guard⟩ (by simp) rfl).2.1
            clear hd ho
            have hH : Holds w (hs ++ ([] ++ R)) w1 := hH
            subst hI
            unfold wpOp
            simp only [e18, e13]
            refine Or.inl ?_
            unfold Oper.wp
            have q0 : w1.cell? ⟨gw, 1, none⟩ = some (.int .i64 h2) := ((hH.perm (k := (gw, rkO node h2 o) :: ((wr.heap.size, xO x AL cl) :: ((gc, ckO node h2 o) :: R))) (by classical rw [List.perm_iff_count]; intro a; simp only [List.count_append, List.count_cons, List.count_nil]; omega))).cell 1
            go_simp
            exact OwnBy.mk _ _ _ rfl (rfl) (⟨rfl, rfl⟩) (hH)
          | 20, _ =>
            obtain rfl := Option.some.inj ho
            have e15 : f 15 = .int .i64 h2 := (hd ⟨15, .data⟩ (by simp) rfl).2.1
            have e19 : f 19 = .int .i64 h2 := (hd ⟨19, .data⟩ (by simp) rfl).2.1
            have e13 : f 13 = .bool false := (hd ⟨13, .guard⟩ (by simp) rfl).2.1
            clear hd ho
            have hH : Holds w (hs ++ ([] ++ R)) w1 := hH
            subst hI
            unfold wpOp
            simp only [e15, e19, e13]
            refine Or.inl ?_
            unfold Oper.wp
            go_simp
            exact OwnBy.mk _ _ _ rfl (rfl) (⟨rfl, rfl⟩) (hH)
          | 21, _ =>
            obtain rfl := Option.some.inj ho
            have e13 : f 13 = .bool false := (hd ⟨13, .data⟩ (by simp) rfl).2.1
            have e20 : f 20 = .bool false := (hd ⟨20, .data⟩ (by simp) rfl).2.1
            clear hd ho
            have hH : Holds w (hs ++ ([] ++ R)) w1 := hH
            subst hI
            unfold wpOp
            refine Or.inl ?_
            simp only [e13, e20]
            unfold Oper.wp
            go_simp
            exact OwnBy.mk _ _ _ rfl (rfl) (⟨rfl, rfl⟩) (hH)
          | 22, _ =>
            obtain rfl := Option.some.inj ho
            have e21 : f 21 = .bool false := (hd ⟨21, .data⟩ (by simp) rfl).2.1
            clear hd ho
            have hH : Holds w (hs ++ ([] ++ R)) w1 := hH
            subst hI
            unfold wpOp
            refine Or.inl ?_
            simp only [e21]
            unfold Oper.wp
            go_simp
            exact OwnBy.mk _ _ _ rfl (rfl) (⟨rfl, rfl⟩) (hH)
          | 23, _ =>
            obtain rfl := Option.some.inj ho
            have e22 : f 22 = .bool false := (hd ⟨22, .guard⟩ (by simp) rfl).2.1
            clear hd ho
            have hH : Holds w (hs ++ ([] ++ R)) w1 := hH
            subst hI
            unfold wpOp
            simp only [e22]
            refine Or.inl ?_
            unfold Oper.wp
            go_simp
            exact OwnBy.mk _ _ _ rfl (rfl) (⟨rfl, rfl⟩) (hH)
          | 24, _ =>
            obtain rfl := Option.some.inj ho
            have e23 : f 23 = .pointer (some ⟨gc, 0, none⟩) := (hd ⟨23, .data⟩ (by simp) rfl).2.1
            have e22 : f 22 = .bool false := (hd ⟨22, .guard⟩ (by simp) rfl).2.1
            clear hd ho
            have hH : Holds w (hs ++ ([] ++ R)) w1 := hH
            subst hI
            unfold wpOp
            simp only [e23, e22]
            refine Or.inl ?_
            unfold Oper.wp
            have hB : IsB w1 gc #[.int .u8 node, .int .i64 h2, .int .i64 o] 49 := ((hH.perm (k := (gc, ckO node h2 o) :: ((wr.heap.size, xO x AL cl) :: ((gw, rkO node h2 o) :: R))) (by classical rw [List.perm_iff_count]; intro a; simp only [List.count_append, List.count_cons, List.count_nil]; omega))).get
            go_simp
            refine (offset_calls gc node h2 o w1 hB).mono ?_
            rintro e w3 ⟨rfl, rfl⟩
            exact OwnBy.mk _ _ _ rfl (rfl) (⟨rfl, rfl⟩) (hH)
          | 25, _ =>
            obtain rfl := Option.some.inj ho
            have e22 : f 22 = .bool false := (hd ⟨22, .guard⟩ (by simp) rfl).2.1
            clear hd ho
            have hH : Holds w (hs ++ ([] ++ R)) w1 := hH
            subst hI
            unfold wpOp
            simp only [e22]
            refine Or.inl ?_
            unfold Oper.wp
            go_simp
            exact OwnBy.mk _ _ _ rfl (rfl) (⟨rfl, rfl⟩) (hH)
          | 26, _ =>
            obtain rfl := Option.some.inj ho
            have e25 : f 25 = .pointer (some ⟨gw, 0, none⟩) := (hd ⟨25, .data⟩ (by simp) rfl).2.1
            have e22 : f 22 = .bool false := (hd ⟨22, .guard⟩ (by simp) rfl).2.1
            clear hd ho
            have hH : Holds w (hs ++ ([] ++ R)) w1 := hH
            subst hI
            unfold wpOp
            simp only [e25, e22]
            refine Or.inl ?_
            unfold Oper.wp
            go_simp
            exact OwnBy.mk _ _ _ rfl (rfl) (⟨rfl, rfl⟩) (hH)
          | 27, _ =>
            obtain rfl := Option.some.inj ho
            have e26 : f 26 = .pointer (some ⟨gw, 0, none⟩) := (hd ⟨26, .data⟩ (by simp) rfl).2.1
            have e22 : f 22 = .bool false := (hd ⟨22, .guard⟩ (by simp) rfl).2.1
            clear hd ho
            have hH : Holds w (hs ++ ([] ++ R)) w1 := hH
            subst hI
            unfold wpOp
            simp only [e26, e22]
            refine Or.inl ?_
            unfold Oper.wp
            go_simp
            exact OwnBy.mk _ _ _ rfl (rfl) (⟨rfl, rfl⟩) (hH)
          | 28, _ =>
            obtain rfl := Option.some.inj ho
            have e27 : f 27 = .pointer (some ⟨gw, 2, none⟩) := (hd ⟨27, .data⟩ (by simp) rfl).2.1
            have e22 : f 22 = .bool false := (hd ⟨22, .guard⟩ (by simp) rfl).2.1
            clear hd ho
            have hH : Holds w (hs ++ ([] ++ R)) w1 := hH
            subst hI
            unfold wpOp
            simp only [e27, e22]
            refine Or.inl ?_
            unfold Oper.wp
            have q0 : w1.cell? ⟨gw, 2, none⟩ = some (.int .i64 o) := ((hH.perm (k := (gw, rkO node h2 o) :: ((wr.heap.size, xO x AL cl) :: ((gc, ckO node h2 o) :: R))) (by classical rw [List.perm_iff_count]; intro a; simp only [List.count_append, List.count_cons, List.count_nil]; omega))).cell 2
            go_simp
            exact OwnBy.mk _ _ _ rfl (rfl) (⟨rfl, rfl⟩) (hH)
          | 29, _ =>
            obtain rfl := Option.some.inj ho
            have e24 : f 24 = .int .i64 o := (hd ⟨24, .data⟩ (by simp) rfl).2.1
            have e28 : f 28 = .int .i64 o := (hd ⟨28, .data⟩ (by simp) rfl).2.1
            have e22 : f 22 = .bool false := (hd ⟨22, .guard⟩ (by simp) rfl).2.1
            clear hd ho
            have hH : Holds w (hs ++ ([] ++ R)) w1 := hH
            subst hI
            unfold wpOp
            simp only [e24, e28, e22]
            refine Or.inl ?_
            unfold Oper.wp
            go_simp
            exact OwnBy.mk _ _ _ rfl (rfl) (⟨rfl, rfl⟩) (hH)
          | 30, _ =>
            obtain rfl := Option.some.inj ho
            have e22 : f 22 = .bool false := (hd ⟨22, .data⟩ (by simp) rfl).2.1
            have e29 : f 29 = .bool false := (hd ⟨29, .data⟩ (by simp) rfl).2.1
            clear hd ho
            have hH : Holds w (hs ++ ([] ++ R)) w1 := hH
            subst hI
            unfold wpOp
            refine Or.inl ?_
            simp only [e22, e29]
            unfold Oper.wp
            go_simp
            exact OwnBy.mk _ _ _ rfl (rfl) (⟨rfl, rfl⟩) (hH)
          | _ + 31, h31 => exact absurd h31 (by omega)
        · intro Ls f Hf hs w1 hI hL hV hH
          have e0 : f 0 = .bool true := (hV 0 (by decide)).1
          have e1 : f 1 = .bool false := (hV 1 (by decide)).1
          have e2 : f 2 = .bool false := (hV 2 (by decide)).1
          have e3 : f 3 = .pointer (some ⟨gc, 0, none⟩) := (hV 3 (by decide)).1
          have e4 : f 4 = .pointer (some ⟨wr.heap.size, 1, none⟩) := (hV 4 (by decide)).1
          have e5 : f 5 = .int .i64 x.f1 := (hV 5 (by decide)).1
          have e6 : f 6 = .int .i64 rr := (hV 6 (by decide)).1
          have e7 : f 7 = .pointer (some ⟨gw, 0, none⟩) := (hV 7 (by decide)).1
          have e8 : f 8 = .pointer (some ⟨wr.heap.size, 1, none⟩) := (hV 8 (by decide)).1
          have e9 : f 9 = .int .i64 x.f1 := (hV 9 (by decide)).1
          have e10 : f 10 = .int .i64 rr := (hV 10 (by decide)).1
          have e11 : f 11 = .bool false := (hV 11 (by decide)).1
          have e12 : f 12 = .bool false := (hV 12 (by decide)).1
          have e13 : f 13 = .bool false := (hV 13 (by decide)).1
          have e14 : f 14 = .pointer (some ⟨gc, 0, none⟩) := (hV 14 (by decide)).1
          have e15 : f 15 = .int .i64 h2 := (hV 15 (by decide)).1
          have e16 : f 16 = .pointer (some ⟨gw, 0, none⟩) := (hV 16 (by decide)).1
          have e17 : f 17 = .pointer (some ⟨gw, 0, none⟩) := (hV 17 (by decide)).1
          have e18 : f 18 = .pointer (some ⟨gw, 1, none⟩) := (hV 18 (by decide)).1
          have e19 : f 19 = .int .i64 h2 := (hV 19 (by decide)).1
          have e20 : f 20 = .bool false := (hV 20 (by decide)).1
          have e21 : f 21 = .bool false := (hV 21 (by decide)).1
          have e22 : f 22 = .bool false := (hV 22 (by decide)).1
          have e23 : f 23 = .pointer (some ⟨gc, 0, none⟩) := (hV 23 (by decide)).1
          have e24 : f 24 = .int .i64 o := (hV 24 (by decide)).1
          have e25 : f 25 = .pointer (some ⟨gw, 0, none⟩) := (hV 25 (by decide)).1
          have e26 : f 26 = .pointer (some ⟨gw, 0, none⟩) := (hV 26 (by decide)).1
          have e27 : f 27 = .pointer (some ⟨gw, 2, none⟩) := (hV 27 (by decide)).1
          have e28 : f 28 = .int .i64 o := (hV 28 (by decide)).1
          have e29 : f 29 = .bool false := (hV 29 (by decide)).1
          have e30 : f 30 = .bool false := (hV 30 (by decide)).1
          clear hV
          have hH : Holds w (hs ++ []) w1 := hH
          simp only [fill, List.take_succ_cons, List.take_zero, List.drop_succ_cons, List.drop_zero, Act.put, List.setIfInBounds_toArray, List.set_cons_zero, List.set_cons_succ, e0, e1, e2, e3, e4, e5, e6, e7, e8, e9, e10, e11, e12, e13, e14, e15, e16, e17, e18, e19, e20, e21, e22, e23, e24, e25, e26, e27, e28, e29, e30]
          subst hI
          have HF := Lib.hid (show Holds w ((gw, rkO node h2 o) :: ((gc, ckO node h2 o) :: [])) w1 from by have h9 := hH; simp only [List.append_nil, List.cons_append, List.nil_append] at h9; exact h9.tail)
          clear hH hL
          go_wp2_with fail
          exact ⟨⟨k + 1, h2, o, by omega, by simp, HI2.out, HF.out⟩, by simp [intOf]; omega⟩
      by_cases o1 : x.f0 = 1
      · have o0b : (x.f0 == 0) = false := by rw [beq_eq_false_iff_ne]; exact o0
        have o1b : (x.f0 == 1) = true := by rw [beq_iff_eq]; exact o1
        have HO := Lib.hid o1
        clear o0 o1
        obtain ⟨o2, ho2⟩ : ∃ T, T = smI x.f2 o := ⟨_, rfl⟩
        have HI2 := Lib.hid (show Inv h o2 by rw [ho2]; exact smI_inv x.f2 h o HI.out)
        have HO2 := Lib.hid ho2
        clear ho2
        go_wp2_with fail
        clear p0 p1 p2 p3 p4
        refine wp_region_own 9 (fun _ => []) (by kernel_rfl) (by kernel_rfl) (by kernel_rfl) (by kernel_rfl) (Nat.le_of_ble_eq_true (by kernel_rfl)) w (fun Ls hs => hs = ((wr.heap.size, xO x AL cl) :: ((gw, rkO node h (if Ls 7 = true then o2 else o)) :: ((gc, ckO node h (if Ls 3 = true then o2 else o)) :: [])))) (fun i v h => match i with | 0 => v = .pointer (some ⟨gc, 0, none⟩) ∧ h = [] | 1 => v = .pointer (some ⟨wr.heap.size, 2, none⟩) ∧ h = [] | 2 => v = .slice AL x.f2.length cl ∧ h = [] | 3 => v = .int .i64 o2 ∧ h = [] | 4 => v = .pointer (some ⟨gw, 0, none⟩) ∧ h = [] | 5 => v = .pointer (some ⟨wr.heap.size, 2, none⟩) ∧ h = [] | 6 => v = .slice AL x.f2.length cl ∧ h = [] | 7 => v = .int .i64 o2 ∧ h = [] | 8 => v = .bool true ∧ h = [] | _ => True) (((wr.heap.size, xO x AL cl) :: ((gw, rkO node h o) :: ((gc, ckO node h o) :: [])))) (rfl) (HX.out.drew) ?_ ?_
        · intro i o hi ho Ls f Hf hs R w1 hI hL hd hH
          simp only [fill, List.take_succ_cons, List.take_zero, Act.put, List.setIfInBounds_toArray, List.set_cons_zero, List.set_cons_succ]
          match i, hi with
          | 0, _ =>
            obtain rfl := Option.some.inj ho
            clear hd ho
            have hH : Holds w (hs ++ ([] ++ R)) w1 := hH
            subst hI
            unfold wpOp
            refine Or.inl ?_
            unfold Oper.wp
            go_simp
            exact OwnBy.mk _ _ _ rfl (rfl) (⟨rfl, rfl⟩) (hH)
          | 1, _ =>
            obtain rfl := Option.some.inj ho
            clear hd ho
            have hH : Holds w (hs ++ ([] ++ R)) w1 := hH
            subst hI
            unfold wpOp
            refine Or.inl ?_
            unfold Oper.wp
            go_simp
            exact OwnBy.mk _ _ _ rfl (rfl) (⟨rfl, rfl⟩) (hH)
          | 2, _ =>
            obtain rfl := Option.some.inj ho
            have e1 : f 1 = .pointer (some ⟨wr.heap.size, 2, none⟩) := (hd ⟨1, .data⟩ (by simp) rfl).2.1
            clear hd ho
            have hH : Holds w (hs ++ ([] ++ R)) w1 := hH
            subst hI
            unfold wpOp
            refine Or.inl ?_
            simp only [e1]
            unfold Oper.wp
            have q0 : w1.cell? ⟨wr.heap.size, 2, none⟩ = some (.slice AL x.f2.length cl) := hH.cell 2
            go_simp
            exact OwnBy.mk _ _ _ rfl (rfl) (⟨rfl, rfl⟩) (hH)
          | 3, _ =>
            obtain rfl := Option.some.inj ho
            have e0 : f 0 = .pointer (some ⟨gc, 0, none⟩) := (hd ⟨0, .data⟩ (by simp) rfl).2.1
            have e2 : f 2 = .slice AL x.f2.length cl := (hd ⟨2, .data⟩ (by simp) rfl).2.1
            clear hd ho
            have hH : Holds w (hs ++ ([] ++ R)) w1 := hH
            subst hI
            unfold wpOp
            refine Or.inl ?_
            simp only [e0, e2]
            unfold Oper.wp
            simp only [hL, Bool.false_eq_true, if_false] at hH
            have hHp := hH.perm (k := (gc, ckO node h o) :: ((wr.heap.size, xO x AL cl) :: ((gw, rkO node h (if Ls 7 = true then o2 else o)) :: R))) (by classical rw [List.perm_iff_count]; intro a; simp only [List.count_append, List.count_cons, List.count_nil]; omega)
            go_simp
            refine (csample_calls gc node h o AL cl x.f2 w w1 _ (HRD.out w1 hH.below) hHp).mono ?_
            rintro e w3 ⟨rfl, hH3⟩
            rw [← HO2.out] at hH3 ⊢
            exact OwnBy.mk _ [] ((wr.heap.size, xO x AL cl) :: ((gw, rkO node h (if Ls 7 = true then o2 else o)) :: ((gc, ckO node h o2) :: []))) rfl rfl ⟨rfl, rfl⟩ (hH3.perm (by classical rw [List.perm_iff_count]; intro a; simp only [List.count_append, List.count_cons, List.count_nil]; omega))
          | 4, _ =>
            obtain rfl := Option.some.inj ho
            clear hd ho
            have hH : Holds w (hs ++ ([] ++ R)) w1 := hH
            subst hI
            unfold wpOp
            refine Or.inl ?_
            unfold Oper.wp
            go_simp
            exact OwnBy.mk _ _ _ rfl (rfl) (⟨rfl, rfl⟩) (hH)
          | 5, _ =>
            obtain rfl := Option.some.inj ho
            clear hd ho
            have hH : Holds w (hs ++ ([] ++ R)) w1 := hH
            subst hI
            unfold wpOp
            refine Or.inl ?_
            unfold Oper.wp
            go_simp
            exact OwnBy.mk _ _ _ rfl (rfl) (⟨rfl, rfl⟩) (hH)
          | 6, _ =>
            obtain rfl := Option.some.inj ho
            have e5 : f 5 = .pointer (some ⟨wr.heap.size, 2, none⟩) := (hd ⟨5, .data⟩ (by simp) rfl).2.1
            clear hd ho
            have hH : Holds w (hs ++ ([] ++ R)) w1 := hH
            subst hI
            unfold wpOp
            refine Or.inl ?_
            simp only [e5]
            unfold Oper.wp
            have q0 : w1.cell? ⟨wr.heap.size, 2, none⟩ = some (.slice AL x.f2.length cl) := hH.cell 2
            go_simp
            exact OwnBy.mk _ _ _ rfl (rfl) (⟨rfl, rfl⟩) (hH)
          | 7, _ =>
            obtain rfl := Option.some.inj ho
            have e4 : f 4 = .pointer (some ⟨gw, 0, none⟩) := (hd ⟨4, .data⟩ (by simp) rfl).2.1
            have e6 : f 6 = .slice AL x.f2.length cl := (hd ⟨6, .data⟩ (by simp) rfl).2.1
            clear hd ho
            have hH : Holds w (hs ++ ([] ++ R)) w1 := hH
            subst hI
            unfold wpOp
            refine Or.inl ?_
            simp only [e4, e6]
            unfold Oper.wp
            simp only [hL, Bool.false_eq_true, if_false] at hH
            have hHp := hH.perm (k := (gw, rkO node h o) :: ((wr.heap.size, xO x AL cl) :: ((gc, ckO node h (if Ls 3 = true then o2 else o)) :: R))) (by classical rw [List.perm_iff_count]; intro a; simp only [List.count_append, List.count_cons, List.count_nil]; omega)
            go_simp
            refine (rsample_calls gw node h o AL cl x.f2 w w1 _ (fun w2 H2 => HRD.out w2 H2.below) hHp).mono ?_
            rintro e w3 ⟨rfl, hH3⟩
            rw [← HO2.out] at hH3 ⊢
            exact OwnBy.mk _ [] ((wr.heap.size, xO x AL cl) :: ((gw, rkO node h o2) :: ((gc, ckO node h (if Ls 3 = true then o2 else o)) :: []))) rfl rfl ⟨rfl, rfl⟩ (hH3.perm (by classical rw [List.perm_iff_count]; intro a; simp only [List.count_append, List.count_cons, List.count_nil]; omega))
          | 8, _ =>
            obtain rfl := Option.some.inj ho
            have e3 : f 3 = .int .i64 o2 := (hd ⟨3, .data⟩ (by simp) rfl).2.1
            have e7 : f 7 = .int .i64 o2 := (hd ⟨7, .data⟩ (by simp) rfl).2.1
            clear hd ho
            have hH : Holds w (hs ++ ([] ++ R)) w1 := hH
            subst hI
            unfold wpOp
            refine Or.inl ?_
            simp only [e3, e7]
            unfold Oper.wp
            go_simp
            exact OwnBy.mk _ _ _ rfl (rfl) (⟨rfl, rfl⟩) (hH)
        · intro Ls f Hf hs w1 hI hL hV hH
          have e0 : f 0 = .pointer (some ⟨gc, 0, none⟩) := (hV 0 (by decide)).1
          have e1 : f 1 = .pointer (some ⟨wr.heap.size, 2, none⟩) := (hV 1 (by decide)).1
          have e2 : f 2 = .slice AL x.f2.length cl := (hV 2 (by decide)).1
          have e3 : f 3 = .int .i64 o2 := (hV 3 (by decide)).1
          have e4 : f 4 = .pointer (some ⟨gw, 0, none⟩) := (hV 4 (by decide)).1
          have e5 : f 5 = .pointer (some ⟨wr.heap.size, 2, none⟩) := (hV 5 (by decide)).1
          have e6 : f 6 = .slice AL x.f2.length cl := (hV 6 (by decide)).1
          have e7 : f 7 = .int .i64 o2 := (hV 7 (by decide)).1
          have e8 : f 8 = .bool true := (hV 8 (by decide)).1
          clear hV
          have hH : Holds w (hs ++ []) w1 := hH
          simp only [fill, List.take_succ_cons, List.take_zero, List.drop_succ_cons, List.drop_zero, Act.put, List.setIfInBounds_toArray, List.set_cons_zero, List.set_cons_succ, e0, e1, e2, e3, e4, e5, e6, e7, e8]
          subst hI
          simp only [hL 3 (by decide), hL 7 (by decide), if_true] at hH
          have HW := Lib.hid (show Holds w ((wr.heap.size, xO x AL cl) :: ((gw, rkO node h o2) :: ((gc, ckO node h o2) :: []))) w1 from by have h9 := hH; simp only [List.append_nil] at h9; exact h9)
          clear hH hL
          go_wp2_with fail
          obtain ⟨h2, hh2⟩ : ∃ T, T = h := ⟨_, rfl⟩
          have HI3 := Lib.hid (show Inv h2 o2 by rw [hh2]; exact HI2.out)
          have HW2 := Lib.hid (show Holds w ((wr.heap.size, xO x AL cl) :: ((gw, rkO node h2 o2) :: ((gc, ckO node h2 o2) :: []))) w1 from by rw [hh2]; exact HW.out)
          clear hh2 HI2 HW
          have HI2 := HI3; have HW := HW2
          clear HI3 HW2
          obtain ⟨rr, hrr⟩ : ∃ rr, rdT h2 o2 x.f1 = rr := ⟨_, rfl⟩
          have HRR := Lib.hid hrr
          clear hrr
          refine wp_region_own 31 (fun _ => []) (by kernel_rfl) (by kernel_rfl) (by kernel_rfl) (by kernel_rfl) (Nat.le_of_ble_eq_true (by kernel_rfl)) w (fun Ls hs => hs = ((wr.heap.size, xO x AL cl) :: ((gw, rkO node h2 o2) :: ((gc, ckO node h2 o2) :: [])))) (fun i v h => match i with | 0 => v = .bool true ∧ h = [] | 1 => v = .bool false ∧ h = [] | 2 => v = .bool false ∧ h = [] | 3 => v = .pointer (some ⟨gc, 0, none⟩) ∧ h = [] | 4 => v = .pointer (some ⟨wr.heap.size, 1, none⟩) ∧ h = [] | 5 => v = .int .i64 x.f1 ∧ h = [] | 6 => v = .int .i64 rr ∧ h = [] | 7 => v = .pointer (some ⟨gw, 0, none⟩) ∧ h = [] | 8 => v = .pointer (some ⟨wr.heap.size, 1, none⟩) ∧ h = [] | 9 => v = .int .i64 x.f1 ∧ h = [] | 10 => v = .int .i64 rr ∧ h = [] | 11 => v = .bool false ∧ h = [] | 12 => v = .bool false ∧ h = [] | 13 => v = .bool false ∧ h = [] | 14 => v = .pointer (some ⟨gc, 0, none⟩) ∧ h = [] | 15 => v = .int .i64 h2 ∧ h = [] | 16 => v = .pointer (some ⟨gw, 0, none⟩) ∧ h = [] | 17 => v = .pointer (some ⟨gw, 0, none⟩) ∧ h = [] | 18 => v = .pointer (some ⟨gw, 1, none⟩) ∧ h = [] | 19 => v = .int .i64 h2 ∧ h = [] | 20 => v = .bool false ∧ h = [] | 21 => v = .bool false ∧ h = [] | 22 => v = .bool false ∧ h = [] | 23 => v = .pointer (some ⟨gc, 0, none⟩) ∧ h = [] | 24 => v = .int .i64 o2 ∧ h = [] | 25 => v = .pointer (some ⟨gw, 0, none⟩) ∧ h = [] | 26 => v = .pointer (some ⟨gw, 0, none⟩) ∧ h = [] | 27 => v = .pointer (some ⟨gw, 2, none⟩) ∧ h = [] | 28 => v = .int .i64 o2 ∧ h = [] | 29 => v = .bool false ∧ h = [] | 30 => v = .bool false ∧ h = [] | _ => True) (((wr.heap.size, xO x AL cl) :: ((gw, rkO node h2 o2) :: ((gc, ckO node h2 o2) :: [])))) (rfl) (HW.out.drew) ?_ ?_
          · intro i o hi ho Ls f Hf hs R w1 hI hL hd hH
            simp only [fill, List.take_succ_cons, List.take_zero, Act.put, List.setIfInBounds_toArray, List.set_cons_zero, List.set_cons_succ]
            match i, hi with
            | 0, _ =>
              obtain rfl := Option.some.inj ho
              clear hd ho
              have hH : Holds w (hs ++ ([] ++ R)) w1 := hH
              subst hI
              unfold wpOp
              refine Or.inl ?_
              unfold Oper.wp
              go_simp
              exact OwnBy.mk _ _ _ rfl (rfl) (⟨rfl, rfl⟩) (hH)
            | 1, _ =>
              obtain rfl := Option.some.inj ho
              have e0 : f 0 = .bool true := (hd ⟨0, .data⟩ (by simp) rfl).2.1
              clear hd ho
              have hH : Holds w (hs ++ ([] ++ R)) w1 := hH
              subst hI
              unfold wpOp
              refine Or.inl ?_
              simp only [e0]
              unfold Oper.wp
              go_simp
              exact OwnBy.mk _ _ _ rfl (rfl) (⟨rfl, rfl⟩) (hH)
            | 2, _ =>
              obtain rfl := Option.some.inj ho
              have e1 : f 1 = .bool false := (hd ⟨1, .data⟩ (by simp) rfl).2.1
              clear hd ho
              have hH : Holds w (hs ++ ([] ++ R)) w1 := hH
              subst hI
              unfold wpOp
              refine Or.inl ?_
              simp only [e1]
              unfold Oper.wp
              go_simp
              exact OwnBy.mk _ _ _ rfl (rfl) (⟨rfl, rfl⟩) (hH)
            | 3, _ =>
              obtain rfl := Option.some.inj ho
              have e2 : f 2 = .bool false := (hd ⟨2, .guard⟩ (by simp) rfl).2.1
              clear hd ho
              have hH : Holds w (hs ++ ([] ++ R)) w1 := hH
              subst hI
              unfold wpOp
              simp only [e2]
              refine Or.inl ?_
              unfold Oper.wp
              go_simp
              exact OwnBy.mk _ _ _ rfl (rfl) (⟨rfl, rfl⟩) (hH)
            | 4, _ =>
              obtain rfl := Option.some.inj ho
              have e2 : f 2 = .bool false := (hd ⟨2, .guard⟩ (by simp) rfl).2.1
              clear hd ho
              have hH : Holds w (hs ++ ([] ++ R)) w1 := hH
              subst hI
              unfold wpOp
              simp only [e2]
              refine Or.inl ?_
              unfold Oper.wp
              go_simp
              exact OwnBy.mk _ _ _ rfl (rfl) (⟨rfl, rfl⟩) (hH)
            | 5, _ =>
              obtain rfl := Option.some.inj ho
              have e4 : f 4 = .pointer (some ⟨wr.heap.size, 1, none⟩) := (hd ⟨4, .data⟩ (by simp) rfl).2.1
              have e2 : f 2 = .bool false := (hd ⟨2, .guard⟩ (by simp) rfl).2.1
              clear hd ho
              have hH : Holds w (hs ++ ([] ++ R)) w1 := hH
              subst hI
              unfold wpOp
              simp only [e4, e2]
              refine Or.inl ?_
              unfold Oper.wp
              have q0 : w1.cell? ⟨wr.heap.size, 1, none⟩ = some (.int .i64 x.f1) := hH.cell 1
              go_simp
              exact OwnBy.mk _ _ _ rfl (rfl) (⟨rfl, rfl⟩) (hH)
            | 6, _ =>
              obtain rfl := Option.some.inj ho
              have e3 : f 3 = .pointer (some ⟨gc, 0, none⟩) := (hd ⟨3, .data⟩ (by simp) rfl).2.1
              have e5 : f 5 = .int .i64 x.f1 := (hd ⟨5, .data⟩ (by simp) rfl).2.1
              have e2 : f 2 = .bool false := (hd ⟨2, .guard⟩ (by simp) rfl).2.1
              clear hd ho
              have hH : Holds w (hs ++ ([] ++ R)) w1 := hH
              subst hI
              unfold wpOp
              simp only [e3, e5, e2]
              refine Or.inl ?_
              unfold Oper.wp
              have hB : IsClk w1 gc node h2 o2 := ((hH.perm (k := (gc, ckO node h2 o2) :: ((wr.heap.size, xO x AL cl) :: ((gw, rkO node h2 o2) :: R))) (by classical rw [List.perm_iff_count]; intro a; simp only [List.count_append, List.count_cons, List.count_nil]; omega))).get
              go_simp
              refine (read_calls gc node h2 o2 x.f1 w1 hB ⟨HI2.out.o0, HI2.out.o1⟩).mono ?_
              rintro e w3 ⟨rfl, rfl⟩
              rw [HRR.out]
              exact OwnBy.mk _ _ _ rfl (rfl) (⟨rfl, rfl⟩) (hH)
            | 7, _ =>
              obtain rfl := Option.some.inj ho
              have e2 : f 2 = .bool false := (hd ⟨2, .guard⟩ (by simp) rfl).2.1
              clear hd ho
              have hH : Holds w (hs ++ ([] ++ R)) w1 := hH
              subst hI
              unfold wpOp
              simp only [e2]
              refine Or.inl ?_
              unfold Oper.wp
              go_simp
              exact OwnBy.mk _ _ _ rfl (rfl) (⟨rfl, rfl⟩) (hH)
            | 8, _ =>
              obtain rfl := Option.some.inj ho
              have e2 : f 2 = .bool false := (hd ⟨2, .guard⟩ (by simp) rfl).2.1
              clear hd ho
              have hH : Holds w (hs ++ ([] ++ R)) w1 := hH
              subst hI
              unfold wpOp
              simp only [e2]
              refine Or.inl ?_
              unfold Oper.wp
              go_simp
              exact OwnBy.mk _ _ _ rfl (rfl) (⟨rfl, rfl⟩) (hH)
            | 9, _ =>
              obtain rfl := Option.some.inj ho
              have e8 : f 8 = .pointer (some ⟨wr.heap.size, 1, none⟩) := (hd ⟨8, .data⟩ (by simp) rfl).2.1
              have e2 : f 2 = .bool false := (hd ⟨2, .guard⟩ (by simp) rfl).2.1
              clear hd ho
              have hH : Holds w (hs ++ ([] ++ R)) w1 := hH
              subst hI
              unfold wpOp
              simp only [e8, e2]
              refine Or.inl ?_
              unfold Oper.wp
              have q0 : w1.cell? ⟨wr.heap.size, 1, none⟩ = some (.int .i64 x.f1) := hH.cell 1
              go_simp
              exact OwnBy.mk _ _ _ rfl (rfl) (⟨rfl, rfl⟩) (hH)
            | 10, _ =>
              obtain rfl := Option.some.inj ho
              have e7 : f 7 = .pointer (some ⟨gw, 0, none⟩) := (hd ⟨7, .data⟩ (by simp) rfl).2.1
              have e9 : f 9 = .int .i64 x.f1 := (hd ⟨9, .data⟩ (by simp) rfl).2.1
              have e2 : f 2 = .bool false := (hd ⟨2, .guard⟩ (by simp) rfl).2.1
              clear hd ho
              have hH : Holds w (hs ++ ([] ++ R)) w1 := hH
              subst hI
              unfold wpOp
              simp only [e7, e9, e2]
              refine Or.inl ?_
              unfold Oper.wp
              have hHp := (hH.perm (k := (gw, rkO node h2 o2) :: ((wr.heap.size, xO x AL cl) :: ((gc, ckO node h2 o2) :: R))) (by classical rw [List.perm_iff_count]; intro a; simp only [List.count_append, List.count_cons, List.count_nil]; omega))
              go_simp
              refine (rread_calls gw node h2 o2 x.f1 w w1 _ ⟨HI2.out.o0, HI2.out.o1⟩ hHp).mono ?_
              rintro e w3 ⟨rfl, hw⟩
              rw [hw, HRR.out]
              exact OwnBy.mk _ _ _ rfl (rfl) (⟨rfl, rfl⟩) (hH)
            | 11, _ =>
              obtain rfl := Option.some.inj ho
              have e6 : f 6 = .int .i64 rr := (hd ⟨6, .data⟩ (by simp) rfl).2.1
              have e10 : f 10 = .int .i64 rr := (hd ⟨10, .data⟩ (by simp) rfl).2.1
              have e2 : f 2 = .bool false := (hd ⟨2, .guard⟩ (by simp) rfl).2.1
              clear hd ho
              have hH : Holds w (hs ++ ([] ++ R)) w1 := hH
              subst hI
              unfold wpOp
              simp only [e6, e10, e2]
              refine Or.inl ?_
              unfold Oper.wp
              go_simp
              exact OwnBy.mk _ _ _ rfl (rfl) (⟨rfl, rfl⟩) (hH)
            | 12, _ =>
              obtain rfl := Option.some.inj ho
              have e2 : f 2 = .bool false := (hd ⟨2, .data⟩ (by simp) rfl).2.1
              have e11 : f 11 = .bool false := (hd ⟨11, .data⟩ (by simp) rfl).2.1
              clear hd ho
              have hH : Holds w (hs ++ ([] ++ R)) w1 := hH
              subst hI
              unfold wpOp
              refine Or.inl ?_
              simp only [e2, e11]
              unfold Oper.wp
              go_simp
              exact OwnBy.mk _ _ _ rfl (rfl) (⟨rfl, rfl⟩) (hH)
            | 13, _ =>
              obtain rfl := Option.some.inj ho
              have e12 : f 12 = .bool false := (hd ⟨12, .data⟩ (by simp) rfl).2.1
              clear hd ho
              have hH : Holds w (hs ++ ([] ++ R)) w1 := hH
              subst hI
              unfold wpOp
              refine Or.inl ?_
              simp only [e12]
              unfold Oper.wp
              go_simp
              exact OwnBy.mk _ _ _ rfl (rfl) (⟨rfl, rfl⟩) (hH)
            | 14, _ =>
              obtain rfl := Option.some.inj ho
              have e13 : f 13 = .bool false := (hd ⟨13, .guard⟩ (by simp) rfl).2.1
              clear hd ho
              have hH : Holds w (hs ++ ([] ++ R)) w1 := hH
              subst hI
              unfold wpOp
              simp only [e13]
              refine Or.inl ?_
              unfold Oper.wp
              go_simp
              exact OwnBy.mk _ _ _ rfl (rfl) (⟨rfl, rfl⟩) (hH)
            | 15, _ =>
              obtain rfl := Option.some.inj ho
              have e14 : f 14 = .pointer (some ⟨gc, 0, none⟩) := (hd ⟨14, .data⟩ (by simp) rfl).2.1
              have e13 : f 13 = .bool false := (hd ⟨13, .guard⟩ (by simp) rfl).2.1
              clear hd ho
              have hH : Holds w (hs ++ ([] ++ R)) w1 := hH
              subst hI
              unfold wpOp
              simp only [e14, e13]
              refine Or.inl ?_
              unfold Oper.wp
              have hB : IsClk w1 gc node h2 o2 := ((hH.perm (k := (gc, ckO node h2 o2) :: ((wr.heap.size, xO x AL cl) :: ((gw, rkO node h2 o2) :: R))) (by classical rw [List.perm_iff_count]; intro a; simp only [List.count_append, List.count_cons, List.count_nil]; omega))).get
              go_simp
              refine (high_calls gc node h2 o2 w1 hB).mono ?_
              rintro e w3 ⟨rfl, rfl⟩
              exact OwnBy.mk _ _ _ rfl (rfl) (⟨rfl, rfl⟩) (hH)
            | 16, _ =>
              obtain rfl := Option.some.inj ho
              have e13 : f 13 = .bool false := (hd ⟨13, .guard⟩ (by simp) rfl).2.1
              clear hd ho
              have hH : Holds w (hs ++ ([] ++ R)) w1 := hH
              subst hI
              unfold wpOp
              simp only [e13]
              refine Or.inl ?_
              unfold Oper.wp
              go_simp
              exact OwnBy.mk _ _ _ rfl (rfl) (⟨rfl, rfl⟩) (hH)
            | 17, _ =>
              obtain rfl := Option.some.inj ho
              have e16 : f 16 = .pointer (some ⟨gw, 0, none⟩) := (hd ⟨16, .data⟩ (by simp) rfl).2.1
              have e13 : f 13 = .bool false := (hd ⟨13, .guard⟩ (by simp) rfl).2.1
              clear hd ho
              have hH : Holds w (hs ++ ([] ++ R)) w1 := hH
              subst hI
              unfold wpOp
              simp only [e16, e13]
              refine Or.inl ?_
              unfold Oper.wp
              go_simp
              exact OwnBy.mk _ _ _ rfl (rfl) (⟨rfl, rfl⟩) (hH)
            | 18, _ =>
              obtain rfl := Option.some.inj ho
              have e17 : f 17 = .pointer (some ⟨gw, 0, none⟩) := (hd ⟨17, .data⟩ (by simp) rfl).2.1
              have e13 : f 13 = .bool false := (hd ⟨13, .guard⟩ (by simp) rfl).2.1
              clear hd ho
              have hH : Holds w (hs ++ ([] ++ R)) w1 := hH
              subst hI
              unfold wpOp
              simp only [e17, e13]
              refine Or.inl ?_
              unfold Oper.wp
              go_simp
              exact OwnBy.mk _ _ _ rfl (rfl) (⟨rfl, rfl⟩) (hH)
            | 19, _ =>
              obtain rfl := Option.some.inj ho
              have e18 : f 18 = .pointer (some ⟨gw, 1, none⟩) := (hd ⟨18, .data⟩ (by simp) rfl).2.1
              have e13 : f 13 = .bool false := (hd ⟨13, .guard⟩ (by simp) rfl).2.1
              clear hd ho
              have hH : Holds w (hs ++ ([] ++ R)) w1 := hH
              subst hI
              unfold wpOp
              simp only [e18, e13]
              refine Or.inl ?_
              unfold Oper.wp
              have q0 : w1.cell? ⟨gw, 1, none⟩ = some (.int .i64 h2) := ((hH.perm (k := (gw, rkO node h2 o2) :: ((wr.heap.size, xO x AL cl) :: ((gc, ckO node h2 o2) :: R))) (by classical rw [List.perm_iff_count]; intro a; simp only [List.count_append, List.count_cons, List.count_nil]; omega))).cell 1
              go_simp
              exact OwnBy.mk _ _ _ rfl (rfl) (⟨rfl, rfl⟩) (hH)
            | 20, _ =>
              obtain rfl := Option.some.inj ho
              have e15 : f 15 = .int .i64 h2 := (hd ⟨15, .data⟩ (by simp) rfl).2.1
              have e19 : f 19 = .int .i64 h2 := (hd ⟨19, .data⟩ (by simp) rfl).2.1
              have e13 : f 13 = .bool false := (hd ⟨13, .guard⟩ (by simp) rfl).2.1
              clear hd ho
              have hH : Holds w (hs ++ ([] ++ R)) w1 := hH
              subst hI
              unfold wpOp
              simp only [e15, e19, e13]
              refine Or.inl ?_
              unfold Oper.wp
              go_simp
              exact OwnBy.mk _ _ _ rfl (rfl) (⟨rfl, rfl⟩) (hH)
            | 21, _ =>
              obtain rfl := Option.some.inj ho
              have e13 : f 13 = .bool false := (hd ⟨13, .data⟩ (by simp) rfl).2.1
              have e20 : f 20 = .bool false := (hd ⟨20, .data⟩ (by simp) rfl).2.1
              clear hd ho
              have hH : Holds w (hs ++ ([] ++ R)) w1 := hH
              subst hI
              unfold wpOp
              refine Or.inl ?_
              simp only [e13, e20]
              unfold Oper.wp
              go_simp
              exact OwnBy.mk _ _ _ rfl (rfl) (⟨rfl, rfl⟩) (hH)
            | 22, _ =>
              obtain rfl := Option.some.inj ho
              have e21 : f 21 = .bool false := (hd ⟨21, .data⟩ (by simp) rfl).2.1
              clear hd ho
              have hH : Holds w (hs ++ ([] ++ R)) w1 := hH
              subst hI
              unfold wpOp
              refine Or.inl ?_
              simp only [e21]
              unfold Oper.wp
              go_simp
              exact OwnBy.mk _ _ _ rfl (rfl) (⟨rfl, rfl⟩) (hH)
            | 23, _ =>
              obtain rfl := Option.some.inj ho
              have e22 : f 22 = .bool false := (hd ⟨22, .guard⟩ (by simp) rfl).2.1
              clear hd ho
              have hH : Holds w (hs ++ ([] ++ R)) w1 := hH
              subst hI
              unfold wpOp
              simp only [e22]
              refine Or.inl ?_
              unfold Oper.wp
              go_simp
              exact OwnBy.mk _ _ _ rfl (rfl) (⟨rfl, rfl⟩) (hH)
            | 24, _ =>
              obtain rfl := Option.some.inj ho
              have e23 : f 23 = .pointer (some ⟨gc, 0, none⟩) := (hd ⟨23, .data⟩ (by simp) rfl).2.1
              have e22 : f 22 = .bool false := (hd ⟨22, .guard⟩ (by simp) rfl).2.1
              clear hd ho
              have hH : Holds w (hs ++ ([] ++ R)) w1 := hH
              subst hI
              unfold wpOp
              simp only [e23, e22]
              refine Or.inl ?_
              unfold Oper.wp
              have hB : IsB w1 gc #[.int .u8 node, .int .i64 h2, .int .i64 o2] 49 := ((hH.perm (k := (gc, ckO node h2 o2) :: ((wr.heap.size, xO x AL cl) :: ((gw, rkO node h2 o2) :: R))) (by classical rw [List.perm_iff_count]; intro a; simp only [List.count_append, List.count_cons, List.count_nil]; omega))).get
              go_simp
              refine (offset_calls gc node h2 o2 w1 hB).mono ?_
              rintro e w3 ⟨rfl, rfl⟩
              exact OwnBy.mk _ _ _ rfl (rfl) (⟨rfl, rfl⟩) (hH)
            | 25, _ =>
              obtain rfl := Option.some.inj ho
              have e22 : f 22 = .bool false := (hd ⟨22, .guard⟩ (by simp) rfl).2.1
              clear hd ho
              have hH : Holds w (hs ++ ([] ++ R)) w1 := hH
              subst hI
              unfold wpOp
              simp only [e22]
              refine Or.inl ?_
              unfold Oper.wp
              go_simp
              exact OwnBy.mk _ _ _ rfl (rfl) (⟨rfl, rfl⟩) (hH)
            | 26, _ =>
              obtain rfl := Option.some.inj ho
              have e25 : f 25 = .pointer (some ⟨gw, 0, none⟩) := (hd ⟨25, .data⟩ (by simp) rfl).2.1
              have e22 : f 22 = .bool false := (hd ⟨22, .guard⟩ (by simp) rfl).2.1
              clear hd ho
              have hH : Holds w (hs ++ ([] ++ R)) w1 := hH
              subst hI
              unfold wpOp
              simp only [e25, e22]
              refine Or.inl ?_
              unfold Oper.wp
              go_simp
              exact OwnBy.mk _ _ _ rfl (rfl) (⟨rfl, rfl⟩) (hH)
            | 27, _ =>
              obtain rfl := Option.some.inj ho
              have e26 : f 26 = .pointer (some ⟨gw, 0, none⟩) := (hd ⟨26, .data⟩ (by simp) rfl).2.1
              have e22 : f 22 = .bool false := (hd ⟨22, .guard⟩ (by simp) rfl).2.1
              clear hd ho
              have hH : Holds w (hs ++ ([] ++ R)) w1 := hH
              subst hI
              unfold wpOp
              simp only [e26, e22]
              refine Or.inl ?_
              unfold Oper.wp
              go_simp
              exact OwnBy.mk _ _ _ rfl (rfl) (⟨rfl, rfl⟩) (hH)
            | 28, _ =>
              obtain rfl := Option.some.inj ho
              have e27 : f 27 = .pointer (some ⟨gw, 2, none⟩) := (hd ⟨27, .data⟩ (by simp) rfl).2.1
              have e22 : f 22 = .bool false := (hd ⟨22, .guard⟩ (by simp) rfl).2.1
              clear hd ho
              have hH : Holds w (hs ++ ([] ++ R)) w1 := hH
              subst hI
              unfold wpOp
              simp only [e27, e22]
              refine Or.inl ?_
              unfold Oper.wp
              have q0 : w1.cell? ⟨gw, 2, none⟩ = some (.int .i64 o2) := ((hH.perm (k := (gw, rkO node h2 o2) :: ((wr.heap.size, xO x AL cl) :: ((gc, ckO node h2 o2) :: R))) (by classical rw [List.perm_iff_count]; intro a; simp only [List.count_append, List.count_cons, List.count_nil]; omega))).cell 2
              go_simp
              exact OwnBy.mk _ _ _ rfl (rfl) (⟨rfl, rfl⟩) (hH)
            | 29, _ =>
              obtain rfl := Option.some.inj ho
              have e24 : f 24 = .int .i64 o2 := (hd ⟨24, .data⟩ (by simp) rfl).2.1
              have e28 : f 28 = .int .i64 o2 := (hd ⟨28, .data⟩ (by simp) rfl).2.1
              have e22 : f 22 = .bool false := (hd ⟨22, .guard⟩ (by simp) rfl).2.1
              clear hd ho
              have hH : Holds w (hs ++ ([] ++ R)) w1 := hH
              subst hI
              unfold wpOp
              simp only [e24, e28, e22]
              refine Or.inl ?_
              unfold Oper.wp
              go_simp
              exact OwnBy.mk _ _ _ rfl (rfl) (⟨rfl, rfl⟩) (hH)
            | 30, _ =>
              obtain rfl := Option.some.inj ho
              have e22 : f 22 = .bool false := (hd ⟨22, .data⟩ (by simp) rfl).2.1
              have e29 : f 29 = .bool false := (hd ⟨29, .data⟩ (by simp) rfl).2.1
              clear hd ho
              have hH : Holds w (hs ++ ([] ++ R)) w1 := hH
              subst hI
              unfold wpOp
              refine Or.inl ?_
              simp only [e22, e29]
              unfold Oper.wp
              go_simp
              exact OwnBy.mk _ _ _ rfl (rfl) (⟨rfl, rfl⟩) (hH)
            | _ + 31, h31 => exact absurd h31 (by omega)
          · intro Ls f Hf hs w1 hI hL hV hH
            have e0 : f 0 = .bool true := (hV 0 (by decide)).1
            have e1 : f 1 = .bool false := (hV 1 (by decide)).1
            have e2 : f 2 = .bool false := (hV 2 (by decide)).1
            have e3 : f 3 = .pointer (some ⟨gc, 0, none⟩) := (hV 3 (by decide)).1
            have e4 : f 4 = .pointer (some ⟨wr.heap.size, 1, none⟩) := (hV 4 (by decide)).1
            have e5 : f 5 = .int .i64 x.f1 := (hV 5 (by decide)).1
            have e6 : f 6 = .int .i64 rr := (hV 6 (by decide)).1
            have e7 : f 7 = .pointer (some ⟨gw, 0, none⟩) := (hV 7 (by decide)).1
            have e8 : f 8 = .pointer (some ⟨wr.heap.size, 1, none⟩) := (hV 8 (by decide)).1
            have e9 : f 9 = .int .i64 x.f1 := (hV 9 (by decide)).1
            have e10 : f 10 = .int .i64 rr := (hV 10 (by decide)).1
            have e11 : f 11 = .bool false := (hV 11 (by decide)).1
            have e12 : f 12 = .bool false := (hV 12 (by decide)).1
            have e13 : f 13 = .bool false := (hV 13 (by decide)).1
            have e14 : f 14 = .pointer (some ⟨gc, 0, none⟩) := (hV 14 (by decide)).1
            have e15 : f 15 = .int .i64 h2 := (hV 15 (by decide)).1
            have e16 : f 16 = .pointer (some ⟨gw, 0, none⟩) := (hV 16 (by decide)).1
            have e17 : f 17 = .pointer (some ⟨gw, 0, none⟩) := (hV 17 (by decide)).1
            have e18 : f 18 = .pointer (some ⟨gw, 1, none⟩) := (hV 18 (by decide)).1
            have e19 : f 19 = .int .i64 h2 := (hV 19 (by decide)).1
            have e20 : f 20 = .bool false := (hV 20 (by decide)).1
            have e21 : f 21 = .bool false := (hV 21 (by decide)).1
            have e22 : f 22 = .bool false := (hV 22 (by decide)).1
            have e23 : f 23 = .pointer (some ⟨gc, 0, none⟩) := (hV 23 (by decide)).1
            have e24 : f 24 = .int .i64 o2 := (hV 24 (by decide)).1
            have e25 : f 25 = .pointer (some ⟨gw, 0, none⟩) := (hV 25 (by decide)).1
            have e26 : f 26 = .pointer (some ⟨gw, 0, none⟩) := (hV 26 (by decide)).1
            have e27 : f 27 = .pointer (some ⟨gw, 2, none⟩) := (hV 27 (by decide)).1
            have e28 : f 28 = .int .i64 o2 := (hV 28 (by decide)).1
            have e29 : f 29 = .bool false := (hV 29 (by decide)).1
            have e30 : f 30 = .bool false := (hV 30 (by decide)).1
            clear hV
            have hH : Holds w (hs ++ []) w1 := hH
            simp only [fill, List.take_succ_cons, List.take_zero, List.drop_succ_cons, List.drop_zero, Act.put, List.setIfInBounds_toArray, List.set_cons_zero, List.set_cons_succ, e0, e1, e2, e3, e4, e5, e6, e7, e8, e9, e10, e11, e12, e13, e14, e15, e16, e17, e18, e19, e20, e21, e22, e23, e24, e25, e26, e27, e28, e29, e30]
            subst hI
            have HF := Lib.hid (show Holds w ((gw, rkO node h2 o2) :: ((gc, ckO node h2 o2) :: [])) w1 from by have h9 := hH; simp only [List.append_nil, List.cons_append, List.nil_append] at h9; exact h9.tail)
            clear hH hL
            go_wp2_with fail
            exact ⟨⟨k + 1, h2, o2, by omega, by simp, HI2.out, HF.out⟩, by simp [intOf]; omega⟩
  
      · have o0b : (x.f0 == 0) = false := by rw [beq_eq_false_iff_ne]; exact o0
        have o1b : (x.f0 == 1) = false := by rw [beq_eq_false_iff_ne]; exact o1
        clear o0 o1
        obtain ⟨h2, hh2⟩ : ∃ T, T = seeH x.f3.f0 h := ⟨_, rfl⟩
        obtain ⟨bb, hbb⟩ : ∃ T, T = seeB x.f3.f0 h := ⟨_, rfl⟩
        have HI2 := Lib.hid (show Inv h2 o by rw [hh2]; exact seeH_inv h o x.f3.f0 HI.out)
        have HH2 := Lib.hid hh2; have HBB := Lib.hid hbb
        clear hh2 hbb
        go_wp2_with fail
        clear p0 p1 p2 p3 p4
        refine wp_region_own 9 (fun _ => []) (by kernel_rfl) (by kernel_rfl) (by kernel_rfl) (by kernel_rfl) (Nat.le_of_ble_eq_true (by kernel_rfl)) w (fun Ls hs => hs = ((wr.heap.size, xO x AL cl) :: ((gw, rkO node (if Ls 7 = true then h2 else h) o) :: ((gc, ckO node (if Ls 3 = true then h2 else h) o) :: [])))) (fun i v h => match i with | 0 => v = .pointer (some ⟨gc, 0, none⟩) ∧ h = [] | 1 => v = .pointer (some ⟨wr.heap.size, 3, none⟩) ∧ h = [] | 2 => v = .agg #[.int .i64 x.f3.f0, .int .u8 x.f3.f1] ∧ h = [] | 3 => v = .bool bb ∧ h = [] | 4 => v = .pointer (some ⟨gw, 0, none⟩) ∧ h = [] | 5 => v = .pointer (some ⟨wr.heap.size, 3, none⟩) ∧ h = [] | 6 => v = .agg #[.int .i64 x.f3.f0, .int .u8 x.f3.f1] ∧ h = [] | 7 => v = .bool bb ∧ h = [] | 8 => v = .bool true ∧ h = [] | _ => True) (((wr.heap.size, xO x AL cl) :: ((gw, rkO node h o) :: ((gc, ckO node h o) :: [])))) (rfl) (HX.out.drew) ?_ ?_
        · intro i o hi ho Ls f Hf hs R w1 hI hL hd hH
          simp only [fill, List.take_succ_cons, List.take_zero, Act.put, List.setIfInBounds_toArray, List.set_cons_zero, List.set_cons_succ]
          match i, hi with
          | 0, _ =>
            obtain rfl := Option.some.inj ho
            clear hd ho
            have hH : Holds w (hs ++ ([] ++ R)) w1 := hH
            subst hI
            unfold wpOp
            refine Or.inl ?_
            unfold Oper.wp
            go_simp
            exact OwnBy.mk _ _ _ rfl (rfl) (⟨rfl, rfl⟩) (hH)
          | 1, _ =>
            obtain rfl := Option.some.inj ho
            clear hd ho
            have hH : Holds w (hs ++ ([] ++ R)) w1 := hH
            subst hI
            unfold wpOp
            refine Or.inl ?_
            unfold Oper.wp
            go_simp
            exact OwnBy.mk _ _ _ rfl (rfl) (⟨rfl, rfl⟩) (hH)
          | 2, _ =>
            obtain rfl := Option.some.inj ho
            have e1 : f 1 = .pointer (some ⟨wr.heap.size, 3, none⟩) := (hd ⟨1, .data⟩ (by simp) rfl).2.1
            clear hd ho
            have hH : Holds w (hs ++ ([] ++ R)) w1 := hH
            subst hI
            unfold wpOp
            refine Or.inl ?_
            simp only [e1]
            unfold Oper.wp
            have q0 : w1.cell? ⟨wr.heap.size, 3, none⟩ = some (.int .i64 x.f3.f0) := hH.cell 3
            have q1 : w1.cell? ⟨wr.heap.size, 4, none⟩ = some (.int .u8 x.f3.f1) := hH.cell 4
            go_simp
            exact OwnBy.mk _ _ _ rfl (rfl) (⟨rfl, rfl⟩) (hH)
          | 3, _ =>
            obtain rfl := Option.some.inj ho
            have e0 : f 0 = .pointer (some ⟨gc, 0, none⟩) := (hd ⟨0, .data⟩ (by simp) rfl).2.1
            have e2 : f 2 = .agg #[.int .i64 x.f3.f0, .int .u8 x.f3.f1] := (hd ⟨2, .data⟩ (by simp) rfl).2.1
            clear hd ho
            have hH : Holds w (hs ++ ([] ++ R)) w1 := hH
            subst hI
            unfold wpOp
            refine Or.inl ?_
            simp only [e0, e2]
            unfold Oper.wp
            simp only [hL, Bool.false_eq_true, if_false] at hH
            have hHp := hH.perm (k := (gc, ckO node h o) :: ((wr.heap.size, xO x AL cl) :: ((gw, rkO node (if Ls 7 = true then h2 else h) o) :: R))) (by classical rw [List.perm_iff_count]; intro a; simp only [List.count_append, List.count_cons, List.count_nil]; omega)
            go_simp
            refine (csee_calls gc node h o x.f3.f0 x.f3.f1 w w1 _ hHp).mono ?_
            rintro e w3 ⟨rfl, hH3⟩
            rw [← HH2.out] at hH3
            rw [← HBB.out]
            exact OwnBy.mk _ [] ((wr.heap.size, xO x AL cl) :: ((gw, rkO node (if Ls 7 = true then h2 else h) o) :: ((gc, ckO node h2 o) :: []))) rfl rfl ⟨rfl, rfl⟩ (hH3.perm (by classical rw [List.perm_iff_count]; intro a; simp only [List.count_append, List.count_cons, List.count_nil]; omega))
          | 4, _ =>
            obtain rfl := Option.some.inj ho
            clear hd ho
            have hH : Holds w (hs ++ ([] ++ R)) w1 := hH
            subst hI
            unfold wpOp
            refine Or.inl ?_
            unfold Oper.wp
            go_simp
            exact OwnBy.mk _ _ _ rfl (rfl) (⟨rfl, rfl⟩) (hH)
          | 5, _ =>
            obtain rfl := Option.some.inj ho
            clear hd ho
            have hH : Holds w (hs ++ ([] ++ R)) w1 := hH
            subst hI
            unfold wpOp
            refine Or.inl ?_
            unfold Oper.wp
            go_simp
            exact OwnBy.mk _ _ _ rfl (rfl) (⟨rfl, rfl⟩) (hH)
          | 6, _ =>
            obtain rfl := Option.some.inj ho
            have e5 : f 5 = .pointer (some ⟨wr.heap.size, 3, none⟩) := (hd ⟨5, .data⟩ (by simp) rfl).2.1
            clear hd ho
            have hH : Holds w (hs ++ ([] ++ R)) w1 := hH
            subst hI
            unfold wpOp
            refine Or.inl ?_
            simp only [e5]
            unfold Oper.wp
            have q0 : w1.cell? ⟨wr.heap.size, 3, none⟩ = some (.int .i64 x.f3.f0) := hH.cell 3
            have q1 : w1.cell? ⟨wr.heap.size, 4, none⟩ = some (.int .u8 x.f3.f1) := hH.cell 4
            go_simp
            exact OwnBy.mk _ _ _ rfl (rfl) (⟨rfl, rfl⟩) (hH)
          | 7, _ =>
            obtain rfl := Option.some.inj ho
            have e4 : f 4 = .pointer (some ⟨gw, 0, none⟩) := (hd ⟨4, .data⟩ (by simp) rfl).2.1
            have e6 : f 6 = .agg #[.int .i64 x.f3.f0, .int .u8 x.f3.f1] := (hd ⟨6, .data⟩ (by simp) rfl).2.1
            clear hd ho
            have hH : Holds w (hs ++ ([] ++ R)) w1 := hH
            subst hI
            unfold wpOp
            refine Or.inl ?_
            simp only [e4, e6]
            unfold Oper.wp
            simp only [hL, Bool.false_eq_true, if_false] at hH
            have hHp := hH.perm (k := (gw, rkO node h o) :: ((wr.heap.size, xO x AL cl) :: ((gc, ckO node (if Ls 3 = true then h2 else h) o) :: R))) (by classical rw [List.perm_iff_count]; intro a; simp only [List.count_append, List.count_cons, List.count_nil]; omega)
            go_simp
            refine (rsee_calls gw node h o x.f3.f0 x.f3.f1 w w1 _ hHp).mono ?_
            rintro e w3 ⟨rfl, hH3⟩
            rw [← HH2.out] at hH3
            rw [← HBB.out]
            exact OwnBy.mk _ [] ((wr.heap.size, xO x AL cl) :: ((gw, rkO node h2 o) :: ((gc, ckO node (if Ls 3 = true then h2 else h) o) :: []))) rfl rfl ⟨rfl, rfl⟩ (hH3.perm (by classical rw [List.perm_iff_count]; intro a; simp only [List.count_append, List.count_cons, List.count_nil]; omega))
          | 8, _ =>
            obtain rfl := Option.some.inj ho
            have e3 : f 3 = .bool bb := (hd ⟨3, .data⟩ (by simp) rfl).2.1
            have e7 : f 7 = .bool bb := (hd ⟨7, .data⟩ (by simp) rfl).2.1
            clear hd ho
            have hH : Holds w (hs ++ ([] ++ R)) w1 := hH
            subst hI
            unfold wpOp
            refine Or.inl ?_
            simp only [e3, e7]
            unfold Oper.wp
            go_simp
            exact OwnBy.mk _ _ _ rfl (rfl) (⟨rfl, rfl⟩) (hH)
        · intro Ls f Hf hs w1 hI hL hV hH
          have e0 : f 0 = .pointer (some ⟨gc, 0, none⟩) := (hV 0 (by decide)).1
          have e1 : f 1 = .pointer (some ⟨wr.heap.size, 3, none⟩) := (hV 1 (by decide)).1
          have e2 : f 2 = .agg #[.int .i64 x.f3.f0, .int .u8 x.f3.f1] := (hV 2 (by decide)).1
          have e3 : f 3 = .bool bb := (hV 3 (by decide)).1
          have e4 : f 4 = .pointer (some ⟨gw, 0, none⟩) := (hV 4 (by decide)).1
          have e5 : f 5 = .pointer (some ⟨wr.heap.size, 3, none⟩) := (hV 5 (by decide)).1
          have e6 : f 6 = .agg #[.int .i64 x.f3.f0, .int .u8 x.f3.f1] := (hV 6 (by decide)).1
          have e7 : f 7 = .bool bb := (hV 7 (by decide)).1
          have e8 : f 8 = .bool true := (hV 8 (by decide)).1
          clear hV
          have hH : Holds w (hs ++ []) w1 := hH
          simp only [fill, List.take_succ_cons, List.take_zero, List.drop_succ_cons, List.drop_zero, Act.put, List.setIfInBounds_toArray, List.set_cons_zero, List.set_cons_succ, e0, e1, e2, e3, e4, e5, e6, e7, e8]
          subst hI
          simp only [hL 3 (by decide), hL 7 (by decide), if_true] at hH
          have HW := Lib.hid (show Holds w ((wr.heap.size, xO x AL cl) :: ((gw, rkO node h2 o) :: ((gc, ckO node h2 o) :: []))) w1 from by have h9 := hH; simp only [List.append_nil] at h9; exact h9)
          clear hH hL
          go_wp2_with fail
          obtain ⟨rr, hrr⟩ : ∃ rr, rdT h2 o x.f1 = rr := ⟨_, rfl⟩
          have HRR := Lib.hid hrr
          clear hrr
          refine wp_region_own 31 (fun _ => []) (by kernel_rfl) (by kernel_rfl) (by kernel_rfl) (by kernel_rfl) (Nat.le_of_ble_eq_true (by kernel_rfl)) w (fun Ls hs => hs = ((wr.heap.size, xO x AL cl) :: ((gw, rkO node h2 o) :: ((gc, ckO node h2 o) :: [])))) (fun i v h => match i with | 0 => v = .bool true ∧ h = [] | 1 => v = .bool false ∧ h = [] | 2 => v = .bool false ∧ h = [] | 3 => v = .pointer (some ⟨gc, 0, none⟩) ∧ h = [] | 4 => v = .pointer (some ⟨wr.heap.size, 1, none⟩) ∧ h = [] | 5 => v = .int .i64 x.f1 ∧ h = [] | 6 => v = .int .i64 rr ∧ h = [] | 7 => v = .pointer (some ⟨gw, 0, none⟩) ∧ h = [] | 8 => v = .pointer (some ⟨wr.heap.size, 1, none⟩) ∧ h = [] | 9 => v = .int .i64 x.f1 ∧ h = [] | 10 => v = .int .i64 rr ∧ h = [] | 11 => v = .bool false ∧ h = [] | 12 => v = .bool false ∧ h = [] | 13 => v = .bool false ∧ h = [] | 14 => v = .pointer (some ⟨gc, 0, none⟩) ∧ h = [] | 15 => v = .int .i64 h2 ∧ h = [] | 16 => v = .pointer (some ⟨gw, 0, none⟩) ∧ h = [] | 17 => v = .pointer (some ⟨gw, 0, none⟩) ∧ h = [] | 18 => v = .pointer (some ⟨gw, 1, none⟩) ∧ h = [] | 19 => v = .int .i64 h2 ∧ h = [] | 20 => v = .bool false ∧ h = [] | 21 => v = .bool false ∧ h = [] | 22 => v = .bool false ∧ h = [] | 23 => v = .pointer (some ⟨gc, 0, none⟩) ∧ h = [] | 24 => v = .int .i64 o ∧ h = [] | 25 => v = .pointer (some ⟨gw, 0, none⟩) ∧ h = [] | 26 => v = .pointer (some ⟨gw, 0, none⟩) ∧ h = [] | 27 => v = .pointer (some ⟨gw, 2, none⟩) ∧ h = [] | 28 => v = .int .i64 o ∧ h = [] | 29 => v = .bool false ∧ h = [] | 30 => v = .bool false ∧ h = [] | _ => True) (((wr.heap.size, xO x AL cl) :: ((gw, rkO node h2 o) :: ((gc, ckO node h2 o) :: [])))) (rfl) (HW.out.drew) ?_ ?_
          · intro i o hi ho Ls f Hf hs R w1 hI hL hd hH
            simp only [fill, List.take_succ_cons, List.take_zero, Act.put, List.setIfInBounds_toArray, List.set_cons_zero, List.set_cons_succ]
            match i, hi with
            | 0, _ =>
              obtain rfl := Option.some.inj ho
              clear hd ho
              have hH : Holds w (hs ++ ([] ++ R)) w1 := hH
              subst hI
              unfold wpOp
              refine Or.inl ?_
              unfold Oper.wp
              go_simp
              exact OwnBy.mk _ _ _ rfl (rfl) (⟨rfl, rfl⟩) (hH)
            | 1, _ =>
              obtain rfl := Option.some.inj ho
              have e0 : f 0 = .bool true := (hd ⟨0, .data⟩ (by simp) rfl).2.1
              clear hd ho
              have hH : Holds w (hs ++ ([] ++ R)) w1 := hH
              subst hI
              unfold wpOp
              refine Or.inl ?_
              simp only [e0]
              unfold Oper.wp
              go_simp
              exact OwnBy.mk _ _ _ rfl (rfl) (⟨rfl, rfl⟩) (hH)
            | 2, _ =>
              obtain rfl := Option.some.inj ho
              have e1 : f 1 = .bool false := (hd ⟨1, .data⟩ (by simp) rfl).2.1
              clear hd ho
              have hH : Holds w (hs ++ ([] ++ R)) w1 := hH
              subst hI
              unfold wpOp
              refine Or.inl ?_
              simp only [e1]
              unfold Oper.wp
              go_simp
              exact OwnBy.mk _ _ _ rfl (rfl) (⟨rfl, rfl⟩) (hH)
            | 3, _ =>
              obtain rfl := Option.some.inj ho
              have e2 : f 2 = .bool false := (hd ⟨2, .guard⟩ (by simp) rfl).2.1
              clear hd ho
              have hH : Holds w (hs ++ ([] ++ R)) w1 := hH
              subst hI
              unfold wpOp
              simp only [e2]
              refine Or.inl ?_
              unfold Oper.wp
              go_simp
              exact OwnBy.mk _ _ _ rfl (rfl) (⟨rfl, rfl⟩) (hH)
            | 4, _ =>
              obtain rfl := Option.some.inj ho
              have e2 : f 2 = .bool false := (hd ⟨2, .guard⟩ (by simp) rfl).2.1
              clear hd ho
              have hH : Holds w (hs ++ ([] ++ R)) w1 := hH
              subst hI
              unfold wpOp
              simp only [e2]
              refine Or.inl ?_
              unfold Oper.wp
              go_simp
              exact OwnBy.mk _ _ _ rfl (rfl) (⟨rfl, rfl⟩) (hH)
            | 5, _ =>
              obtain rfl := Option.some.inj ho
              have e4 : f 4 = .pointer (some ⟨wr.heap.size, 1, none⟩) := (hd ⟨4, .data⟩ (by simp) rfl).2.1
              have e2 : f 2 = .bool false := (hd ⟨2, .guard⟩ (by simp) rfl).2.1
              clear hd ho
              have hH : Holds w (hs ++ ([] ++ R)) w1 := hH
              subst hI
              unfold wpOp
              simp only [e4, e2]
              refine Or.inl ?_
              unfold Oper.wp
              have q0 : w1.cell? ⟨wr.heap.size, 1, none⟩ = some (.int .i64 x.f1) := hH.cell 1
              go_simp
              exact OwnBy.mk _ _ _ rfl (rfl) (⟨rfl, rfl⟩) (hH)
            | 6, _ =>
              obtain rfl := Option.some.inj ho
              have e3 : f 3 = .pointer (some ⟨gc, 0, none⟩) := (hd ⟨3, .data⟩ (by simp) rfl).2.1
              have e5 : f 5 = .int .i64 x.f1 := (hd ⟨5, .data⟩ (by simp) rfl).2.1
              have e2 : f 2 = .bool false := (hd ⟨2, .guard⟩ (by simp) rfl).2.1
              clear hd ho
              have hH : Holds w (hs ++ ([] ++ R)) w1 := hH
              subst hI
              unfold wpOp
              simp only [e3, e5, e2]
              refine Or.inl ?_
              unfold Oper.wp
              have hB : IsClk w1 gc node h2 o := ((hH.perm (k := (gc, ckO node h2 o) :: ((wr.heap.size, xO x AL cl) :: ((gw, rkO node h2 o) :: R))) (by classical rw [List.perm_iff_count]; intro a; simp only [List.count_append, List.count_cons, List.count_nil]; omega))).get
              go_simp
              refine (read_calls gc node h2 o x.f1 w1 hB ⟨HI2.out.o0, HI2.out.o1⟩).mono ?_
              rintro e w3 ⟨rfl, rfl⟩
              rw [HRR.out]
              exact OwnBy.mk _ _ _ rfl (rfl) (⟨rfl, rfl⟩) (hH)
            | 7, _ =>
              obtain rfl := Option.some.inj ho
              have e2 : f 2 = .bool false := (hd ⟨2, .guard⟩ (by simp) rfl).2.1
              clear hd ho
              have hH : Holds w (hs ++ ([] ++ R)) w1 := hH
              subst hI
              unfold wpOp
              simp only [e2]
              refine Or.inl ?_
              unfold Oper.wp
              go_simp
              exact OwnBy.mk _ _ _ rfl (rfl) (⟨rfl, rfl⟩) (hH)
            | 8, _ =>
              obtain rfl := Option.some.inj ho
              have e2 : f 2 = .bool false := (hd ⟨2, .guard⟩ (by simp) rfl).2.1
              clear hd ho
              have hH : Holds w (hs ++ ([] ++ R)) w1 := hH
              subst hI
              unfold wpOp
              simp only [e2]
              refine Or.inl ?_
              unfold Oper.wp
              go_simp
              exact OwnBy.mk _ _ _ rfl (rfl) (⟨rfl, rfl⟩) (hH)
            | 9, _ =>
              obtain rfl := Option.some.inj ho
              have e8 : f 8 = .pointer (some ⟨wr.heap.size, 1, none⟩) := (hd ⟨8, .data⟩ (by simp) rfl).2.1
              have e2 : f 2 = .bool false := (hd ⟨2, .guard⟩ (by simp) rfl).2.1
              clear hd ho
              have hH : Holds w (hs ++ ([] ++ R)) w1 := hH
              subst hI
              unfold wpOp
              simp only [e8, e2]
              refine Or.inl ?_
              unfold Oper.wp
              have q0 : w1.cell? ⟨wr.heap.size, 1, none⟩ = some (.int .i64 x.f1) := hH.cell 1
              go_simp
              exact OwnBy.mk _ _ _ rfl (rfl) (⟨rfl, rfl⟩) (hH)
            | 10, _ =>
              obtain rfl := Option.some.inj ho
              have e7 : f 7 = .pointer (some ⟨gw, 0, none⟩) := (hd ⟨7, .data⟩ (by simp) rfl).2.1
              have e9 : f 9 = .int .i64 x.f1 := (hd ⟨9, .data⟩ (by simp) rfl).2.1
              have e2 : f 2 = .bool false := (hd ⟨2, .guard⟩ (by simp) rfl).2.1
              clear hd ho
              have hH : Holds w (hs ++ ([] ++ R)) w1 := hH
              subst hI
              unfold wpOp
              simp only [e7, e9, e2]
              refine Or.inl ?_
              unfold Oper.wp
              have hHp := (hH.perm (k := (gw, rkO node h2 o) :: ((wr.heap.size, xO x AL cl) :: ((gc, ckO node h2 o) :: R))) (by classical rw [List.perm_iff_count]; intro a; simp only [List.count_append, List.count_cons, List.count_nil]; omega))
              go_simp
              refine (rread_calls gw node h2 o x.f1 w w1 _ ⟨HI2.out.o0, HI2.out.o1⟩ hHp).mono ?_
              rintro e w3 ⟨rfl, hw⟩
              rw [hw, HRR.out]
              exact OwnBy.mk _ _ _ rfl (rfl) (⟨rfl, rfl⟩) (hH)
            | 11, _ =>
              obtain rfl := Option.some.inj ho
              have e6 : f 6 = .int .i64 rr := (hd ⟨6, .data⟩ (by simp) rfl).2.1
              have e10 : f 10 = .int .i64 rr := (hd ⟨10, .data⟩ (by simp) rfl).2.1
              have e2 : f 2 = .bool false := (hd ⟨2, .guard⟩ (by simp) rfl).2.1
              clear hd ho
              have hH : Holds w (hs ++ ([] ++ R)) w1 := hH
              subst hI
              unfold wpOp
              simp only [e6, e10, e2]
              refine Or.inl ?_
              unfold Oper.wp
              go_simp
              exact OwnBy.mk _ _ _ rfl (rfl) (⟨rfl, rfl⟩) (hH)
            | 12, _ =>
              obtain rfl := Option.some.inj ho
              have e2 : f 2 = .bool false := (hd ⟨2, .data⟩ (by simp) rfl).2.1
              have e11 : f 11 = .bool false := (hd ⟨11, .data⟩ (by simp) rfl).2.1
              clear hd ho
              have hH : Holds w (hs ++ ([] ++ R)) w1 := hH
              subst hI
              unfold wpOp
              refine Or.inl ?_
              simp only [e2, e11]
              unfold Oper.wp
              go_simp
              exact OwnBy.mk _ _ _ rfl (rfl) (⟨rfl, rfl⟩) (hH)
            | 13, _ =>
              obtain rfl := Option.some.inj ho
              have e12 : f 12 = .bool false := (hd ⟨12, .data⟩ (by simp) rfl).2.1
              clear hd ho
              have hH : Holds w (hs ++ ([] ++ R)) w1 := hH
              subst hI
              unfold wpOp
              refine Or.inl ?_
              simp only [e12]
              unfold Oper.wp
              go_simp
              exact OwnBy.mk _ _ _ rfl (rfl) (⟨rfl, rfl⟩) (hH)
            | 14, _ =>
              obtain rfl := Option.some.inj ho
              have e13 : f 13 = .bool false := (hd ⟨13, .guard⟩ (by simp) rfl).2.1
              clear hd ho
              have hH : Holds w (hs ++ ([] ++ R)) w1 := hH
              subst hI
              unfold wpOp
              simp only [e13]
              refine Or.inl ?_
              unfold Oper.wp
              go_simp
              exact OwnBy.mk _ _ _ rfl (rfl) (⟨rfl, rfl⟩) (hH)
            | 15, _ =>
              obtain rfl := Option.some.inj ho
              have e14 : f 14 = .pointer (some ⟨gc, 0, none⟩) := (hd ⟨14, .data⟩ (by simp) rfl).2.1
              have e13 : f 13 = .bool false := (hd ⟨13, .guard⟩ (by simp) rfl).2.1
              clear hd ho
              have hH : Holds w (hs ++ ([] ++ R)) w1 := hH
              subst hI
              unfold wpOp
              simp only [e14, e13]
              refine Or.inl ?_
              unfold Oper.wp
              have hB : IsClk w1 gc node h2 o := ((hH.perm (k := (gc, ckO node h2 o) :: ((wr.heap.size, xO x AL cl) :: ((gw, rkO node h2 o) :: R))) (by classical rw [List.perm_iff_count]; intro a; simp only [List.count_append, List.count_cons, List.count_nil]; omega))).get
              go_simp
              refine (high_calls gc node h2 o w1 hB).mono ?_
              rintro e w3 ⟨rfl, rfl⟩
              exact OwnBy.mk _ _ _ rfl (rfl) (⟨rfl, rfl⟩) (hH)
            | 16, _ =>
              obtain rfl := Option.some.inj ho
              have e13 : f 13 = .bool false := (hd ⟨13, .guard⟩ (by simp) rfl).2.1
              clear hd ho
              have hH : Holds w (hs ++ ([] ++ R)) w1 := hH
              subst hI
              unfold wpOp
              simp only [e13]
              refine Or.inl ?_
              unfold Oper.wp
              go_simp
              exact OwnBy.mk _ _ _ rfl (rfl) (⟨rfl, rfl⟩) (hH)
            | 17, _ =>
              obtain rfl := Option.some.inj ho
              have e16 : f 16 = .pointer (some ⟨gw, 0, none⟩) := (hd ⟨16, .data⟩ (by simp) rfl).2.1
              have e13 : f 13 = .bool false := (hd ⟨13, .guard⟩ (by simp) rfl).2.1
              clear hd ho
              have hH : Holds w (hs ++ ([] ++ R)) w1 := hH
              subst hI
              unfold wpOp
              simp only [e16, e13]
              refine Or.inl ?_
              unfold Oper.wp
              go_simp
              exact OwnBy.mk _ _ _ rfl (rfl) (⟨rfl, rfl⟩) (hH)
            | 18, _ =>
              obtain rfl := Option.some.inj ho
              have e17 : f 17 = .pointer (some ⟨gw, 0, none⟩) := (hd ⟨17, .data⟩ (by simp) rfl).2.1
              have e13 : f 13 = .bool false := (hd ⟨13, .guard⟩ (by simp) rfl).2.1
              clear hd ho
              have hH : Holds w (hs ++ ([] ++ R)) w1 := hH
              subst hI
              unfold wpOp
              simp only [e17, e13]
              refine Or.inl ?_
              unfold Oper.wp
              go_simp
              exact OwnBy.mk _ _ _ rfl (rfl) (⟨rfl, rfl⟩) (hH)
            | 19, _ =>
              obtain rfl := Option.some.inj ho
              have e18 : f 18 = .pointer (some ⟨gw, 1, none⟩) := (hd ⟨18, .data⟩ (by simp) rfl).2.1
              have e13 : f 13 = .bool false := (hd ⟨13, .guard⟩ (by simp) rfl).2.1
              clear hd ho
              have hH : Holds w (hs ++ ([] ++ R)) w1 := hH
              subst hI
              unfold wpOp
              simp only [e18, e13]
              refine Or.inl ?_
              unfold Oper.wp
              have q0 : w1.cell? ⟨gw, 1, none⟩ = some (.int .i64 h2) := ((hH.perm (k := (gw, rkO node h2 o) :: ((wr.heap.size, xO x AL cl) :: ((gc, ckO node h2 o) :: R))) (by classical rw [List.perm_iff_count]; intro a; simp only [List.count_append, List.count_cons, List.count_nil]; omega))).cell 1
              go_simp
              exact OwnBy.mk _ _ _ rfl (rfl) (⟨rfl, rfl⟩) (hH)
            | 20, _ =>
              obtain rfl := Option.some.inj ho
              have e15 : f 15 = .int .i64 h2 := (hd ⟨15, .data⟩ (by simp) rfl).2.1
              have e19 : f 19 = .int .i64 h2 := (hd ⟨19, .data⟩ (by simp) rfl).2.1
              have e13 : f 13 = .bool false := (hd ⟨13, .guard⟩ (by simp) rfl).2.1
              clear hd ho
              have hH : Holds w (hs ++ ([] ++ R)) w1 := hH
              subst hI
              unfold wpOp
              simp only [e15, e19, e13]
              refine Or.inl ?_
              unfold Oper.wp
              go_simp
              exact OwnBy.mk _ _ _ rfl (rfl) (⟨rfl, rfl⟩) (hH)
            | 21, _ =>
              obtain rfl := Option.some.inj ho
              have e13 : f 13 = .bool false := (hd ⟨13, .data⟩ (by simp) rfl).2.1
              have e20 : f 20 = .bool false := (hd ⟨20, .data⟩ (by simp) rfl).2.1
              clear hd ho
              have hH : Holds w (hs ++ ([] ++ R)) w1 := hH
              subst hI
              unfold wpOp
              refine Or.inl ?_
              simp only [e13, e20]
              unfold Oper.wp
              go_simp
              exact OwnBy.mk _ _ _ rfl (rfl) (⟨rfl, rfl⟩) (hH)
            | 22, _ =>
              obtain rfl := Option.some.inj ho
              have e21 : f 21 = .bool false := (hd ⟨21, .data⟩ (by simp) rfl).2.1
              clear hd ho
              have hH : Holds w (hs ++ ([] ++ R)) w1 := hH
              subst hI
              unfold wpOp
              refine Or.inl ?_
              simp only [e21]
              unfold Oper.wp
              go_simp
              exact OwnBy.mk _ _ _ rfl (rfl) (⟨rfl, rfl⟩) (hH)
            | 23, _ =>
              obtain rfl := Option.some.inj ho
              have e22 : f 22 = .bool false := (hd ⟨22, .guard⟩ (by simp) rfl).2.1
              clear hd ho
              have hH : Holds w (hs ++ ([] ++ R)) w1 := hH
              subst hI
              unfold wpOp
              simp only [e22]
              refine Or.inl ?_
              unfold Oper.wp
              go_simp
              exact OwnBy.mk _ _ _ rfl (rfl) (⟨rfl, rfl⟩) (hH)
            | 24, _ =>
              obtain rfl := Option.some.inj ho
              have e23 : f 23 = .pointer (some ⟨gc, 0, none⟩) := (hd ⟨23, .data⟩ (by simp) rfl).2.1
              have e22 : f 22 = .bool false := (hd ⟨22, .guard⟩ (by simp) rfl).2.1
              clear hd ho
              have hH : Holds w (hs ++ ([] ++ R)) w1 := hH
              subst hI
              unfold wpOp
              simp only [e23, e22]
              refine Or.inl ?_
              unfold Oper.wp
              have hB : IsB w1 gc #[.int .u8 node, .int .i64 h2, .int .i64 o] 49 := ((hH.perm (k := (gc, ckO node h2 o) :: ((wr.heap.size, xO x AL cl) :: ((gw, rkO node h2 o) :: R))) (by classical rw [List.perm_iff_count]; intro a; simp only [List.count_append, List.count_cons, List.count_nil]; omega))).get
              go_simp
              refine (offset_calls gc node h2 o w1 hB).mono ?_
              rintro e w3 ⟨rfl, rfl⟩
              exact OwnBy.mk _ _ _ rfl (rfl) (⟨rfl, rfl⟩) (hH)
            | 25, _ =>
              obtain rfl := Option.some.inj ho
              have e22 : f 22 = .bool false := (hd ⟨22, .guard⟩ (by simp) rfl).2.1
              clear hd ho
              have hH : Holds w (hs ++ ([] ++ R)) w1 := hH
              subst hI
              unfold wpOp
              simp only [e22]
              refine Or.inl ?_
              unfold Oper.wp
              go_simp
              exact OwnBy.mk _ _ _ rfl (rfl) (⟨rfl, rfl⟩) (hH)
            | 26, _ =>
              obtain rfl := Option.some.inj ho
              have e25 : f 25 = .pointer (some ⟨gw, 0, none⟩) := (hd ⟨25, .data⟩ (by simp) rfl).2.1
              have e22 : f 22 = .bool false := (hd ⟨22, .guard⟩ (by simp) rfl).2.1
              clear hd ho
              have hH : Holds w (hs ++ ([] ++ R)) w1 := hH
              subst hI
              unfold wpOp
              simp only [e25, e22]
              refine Or.inl ?_
              unfold Oper.wp
              go_simp
              exact OwnBy.mk _ _ _ rfl (rfl) (⟨rfl, rfl⟩) (hH)
            | 27, _ =>
              obtain rfl := Option.some.inj ho
              have e26 : f 26 = .pointer (some ⟨gw, 0, none⟩) := (hd ⟨26, .data⟩ (by simp) rfl).2.1
              have e22 : f 22 = .bool false := (hd ⟨22, .guard⟩ (by simp) rfl).2.1
              clear hd ho
              have hH : Holds w (hs ++ ([] ++ R)) w1 := hH
              subst hI
              unfold wpOp
              simp only [e26, e22]
              refine Or.inl ?_
              unfold Oper.wp
              go_simp
              exact OwnBy.mk _ _ _ rfl (rfl) (⟨rfl, rfl⟩) (hH)
            | 28, _ =>
              obtain rfl := Option.some.inj ho
              have e27 : f 27 = .pointer (some ⟨gw, 2, none⟩) := (hd ⟨27, .data⟩ (by simp) rfl).2.1
              have e22 : f 22 = .bool false := (hd ⟨22, .guard⟩ (by simp) rfl).2.1
              clear hd ho
              have hH : Holds w (hs ++ ([] ++ R)) w1 := hH
              subst hI
              unfold wpOp
              simp only [e27, e22]
              refine Or.inl ?_
              unfold Oper.wp
              have q0 : w1.cell? ⟨gw, 2, none⟩ = some (.int .i64 o) := ((hH.perm (k := (gw, rkO node h2 o) :: ((wr.heap.size, xO x AL cl) :: ((gc, ckO node h2 o) :: R))) (by classical rw [List.perm_iff_count]; intro a; simp only [List.count_append, List.count_cons, List.count_nil]; omega))).cell 2
              go_simp
              exact OwnBy.mk _ _ _ rfl (rfl) (⟨rfl, rfl⟩) (hH)
            | 29, _ =>
              obtain rfl := Option.some.inj ho
              have e24 : f 24 = .int .i64 o := (hd ⟨24, .data⟩ (by simp) rfl).2.1
              have e28 : f 28 = .int .i64 o := (hd ⟨28, .data⟩ (by simp) rfl).2.1
              have e22 : f 22 = .bool false := (hd ⟨22, .guard⟩ (by simp) rfl).2.1
              clear hd ho
              have hH : Holds w (hs ++ ([] ++ R)) w1 := hH
              subst hI
              unfold wpOp
              simp only [e24, e28, e22]
              refine Or.inl ?_
              unfold Oper.wp
              go_simp
              exact OwnBy.mk _ _ _ rfl (rfl) (⟨rfl, rfl⟩) (hH)
            | 30, _ =>
              obtain rfl := Option.some.inj ho
              have e22 : f 22 = .bool false := (hd ⟨22, .data⟩ (by simp) rfl).2.1
              have e29 : f 29 = .bool false := (hd ⟨29, .data⟩ (by simp) rfl).2.1
              clear hd ho
              have hH : Holds w (hs ++ ([] ++ R)) w1 := hH
              subst hI
              unfold wpOp
              refine Or.inl ?_
              simp only [e22, e29]
              unfold Oper.wp
              go_simp
              exact OwnBy.mk _ _ _ rfl (rfl) (⟨rfl, rfl⟩) (hH)
            | _ + 31, h31 => exact absurd h31 (by omega)
          · intro Ls f Hf hs w1 hI hL hV hH
            have e0 : f 0 = .bool true := (hV 0 (by decide)).1
            have e1 : f 1 = .bool false := (hV 1 (by decide)).1
            have e2 : f 2 = .bool false := (hV 2 (by decide)).1
            have e3 : f 3 = .pointer (some ⟨gc, 0, none⟩) := (hV 3 (by decide)).1
            have e4 : f 4 = .pointer (some ⟨wr.heap.size, 1, none⟩) := (hV 4 (by decide)).1
            have e5 : f 5 = .int .i64 x.f1 := (hV 5 (by decide)).1
            have e6 : f 6 = .int .i64 rr := (hV 6 (by decide)).1
            have e7 : f 7 = .pointer (some ⟨gw, 0, none⟩) := (hV 7 (by decide)).1
            have e8 : f 8 = .pointer (some ⟨wr.heap.size, 1, none⟩) := (hV 8 (by decide)).1
            have e9 : f 9 = .int .i64 x.f1 := (hV 9 (by decide)).1
            have e10 : f 10 = .int .i64 rr := (hV 10 (by decide)).1
            have e11 : f 11 = .bool false := (hV 11 (by decide)).1
            have e12 : f 12 = .bool false := (hV 12 (by decide)).1
            have e13 : f 13 = .bool false := (hV 13 (by decide)).1
            have e14 : f 14 = .pointer (some ⟨gc, 0, none⟩) := (hV 14 (by decide)).1
            have e15 : f 15 = .int .i64 h2 := (hV 15 (by decide)).1
            have e16 : f 16 = .pointer (some ⟨gw, 0, none⟩) := (hV 16 (by decide)).1
            have e17 : f 17 = .pointer (some ⟨gw, 0, none⟩) := (hV 17 (by decide)).1
            have e18 : f 18 = .pointer (some ⟨gw, 1, none⟩) := (hV 18 (by decide)).1
            have e19 : f 19 = .int .i64 h2 := (hV 19 (by decide)).1
            have e20 : f 20 = .bool false := (hV 20 (by decide)).1
            have e21 : f 21 = .bool false := (hV 21 (by decide)).1
            have e22 : f 22 = .bool false := (hV 22 (by decide)).1
            have e23 : f 23 = .pointer (some ⟨gc, 0, none⟩) := (hV 23 (by decide)).1
            have e24 : f 24 = .int .i64 o := (hV 24 (by decide)).1
            have e25 : f 25 = .pointer (some ⟨gw, 0, none⟩) := (hV 25 (by decide)).1
            have e26 : f 26 = .pointer (some ⟨gw, 0, none⟩) := (hV 26 (by decide)).1
            have e27 : f 27 = .pointer (some ⟨gw, 2, none⟩) := (hV 27 (by decide)).1
            have e28 : f 28 = .int .i64 o := (hV 28 (by decide)).1
            have e29 : f 29 = .bool false := (hV 29 (by decide)).1
            have e30 : f 30 = .bool false := (hV 30 (by decide)).1
            clear hV
            have hH : Holds w (hs ++ []) w1 := hH
            simp only [fill, List.take_succ_cons, List.take_zero, List.drop_succ_cons, List.drop_zero, Act.put, List.setIfInBounds_toArray, List.set_cons_zero, List.set_cons_succ, e0, e1, e2, e3, e4, e5, e6, e7, e8, e9, e10, e11, e12, e13, e14, e15, e16, e17, e18, e19, e20, e21, e22, e23, e24, e25, e26, e27, e28, e29, e30]
            subst hI
            have HF := Lib.hid (show Holds w ((gw, rkO node h2 o) :: ((gc, ckO node h2 o) :: [])) w1 from by have h9 := hH; simp only [List.append_nil, List.cons_append, List.nil_append] at h9; exact h9.tail)
            clear hH hL
            go_wp2_with fail
            exact ⟨⟨k + 1, h2, o, by omega, by simp, HI2.out, HF.out⟩, by simp [intOf]; omega⟩
  
    · go_wp2_with fail
      go_ret
      exact ⟨rfl, HH.out.below⟩
end Go.Proofs.YtfebebjopjopcaaG
