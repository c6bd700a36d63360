/- ChainOrder's walk. No condition. -/
import Derived.Test.YtgkigcobaimccaaSm
import Derived.Test.YtgkigcobaimccaaOl
namespace Go.Proofs.Ytgkigcobaimccaa
open Go.RowKit Go.Proofs.Ytgkigcobaimccaa.Sp Go.Proofs.Ytgkigcobaimccaa.K Go.Proofs.YtgkigcobaimccaaW.PrintWords
set_option linter.unusedVariables false
set_option linter.unusedSimpArgs false
def vs (l : List S30) : List Ver := l.map toV
def NoTwo (l : List S30) (n : Nat) : Prop := ∀ p q x y, p < q → q < n → l[p]? = some x → l[q]? = some y → ¬ (x.f0.f0 = y.f0.f0 ∧ x.f0.f1 = y.f0.f1)
def RelO (w : World) (g1 g2 : Nat) (l : List S30) (i : Value) (wr : World) : Prop :=
  ∃ (k : Nat) (h1 h2 : Hp), k ≤ l.length ∧ i = .int .i64 k ∧ IsC g1 (folds ((vs l).take k)) h1 ∧ IsC g2 (folds ((vs l).reverse.take k)) h2 ∧ Holds w (h1 ++ (h2 ++ [])) wr ∧ NoTwo l k
theorem fold_take {xs : List Ver} {k : Nat} {x : Ver} (hx : xs[k]? = some x) : folds (xs.take (k + 1)) = step (folds (xs.take k)) x := by
  rw [List.take_add_one, hx]
  exact folds_snoc _ _
theorem rd_get (l : List S30) (k : Nat) (hk : k < l.length) : l[k]? = some (rd_T30 l (k : Int)) := by
  unfold rd_T30
  rw [Int.toNat_natCast, List.getD_eq_getElem?_getD, List.getElem?_eq_getElem hk]
  rfl
theorem eq_st (t n u m : Int) (b : Bool) (hb : b = decide (t = u ∧ n = m)) (w : World) : (execOp (fun o => match o with | .tmp 36 => .agg (sC t n) | .tmp 41 => .agg (sC u m) | _ => undef) { dst := some 42, op := .binOp .eql 24 (.tmp 36) (.tmp 41) 24, type := 4, pos := "", after := #[], guard := none }).run Try.prog w = .ok (.value (.bool b)) w := by
  subst hb
  by_cases h1 : t = u
  · by_cases h2 : n = m
    · simp [go_sem, sC, h1, h2]
    · simp [go_sem, sC, h1, h2]
  · simp [go_sem, sC, h1]
theorem row_rd {v : Value} {L : List Ver} {hv : Hp} (R : RowB 30 4 v L.length (verV L) hv) : ∃ A gL c, v = .slice A L.length c ∧ (0 < L.length → A = some ⟨gL, 0, none⟩) ∧ ∀ w0 F w, Holds w0 (hv ++ F) w → Rd gL L w := by
  rcases RowB.two R with ⟨rfl, h0, _⟩ | ⟨gL, c, rfl, _, hcs⟩
  · refine ⟨none, 0, 0, by rw [h0], fun h => by omega, fun w0 F w H j u hj => ?_⟩
    obtain rfl : L = [] := List.eq_nil_of_length_eq_zero h0
    simp [verV] at hj
  · exact ⟨_, gL, c, rfl, fun _ => rfl, fun w0 F w H j u hj => hcs w0 F w H j u hj⟩
theorem row_ro {v : Value} {L : List Ver} {hv : Hp} (R : RowB 49 20 v L.length (oV L) hv) : ∃ A b c, v = .slice A L.length c ∧ (0 < L.length → A = some ⟨b, 0, none⟩) ∧ ∀ w0 F w, Holds w0 (hv ++ F) w → Ro b L w := by
  rcases RowB.two R with ⟨rfl, h0, _⟩ | ⟨gL, c, rfl, _, hcs⟩
  · refine ⟨none, 0, 0, by rw [h0], fun h => by omega, fun w0 F w H j u hj => ?_⟩
    obtain rfl : L = [] := List.eq_nil_of_length_eq_zero h0
    simp [oV] at hj
  · exact ⟨_, gL, c, rfl, fun _ => rfl, fun w0 F w H j u hj => hcs w0 F w H j u hj⟩
theorem apart_of {l : List S30} (h : NoTwo l l.length) : Apart (vs l) := by
  unfold Apart
  rw [List.pairwise_iff_getElem]
  intro i j hi hj hij
  have h1 : i < l.length := by simpa [vs] using hi
  have h2 : j < l.length := by simpa [vs] using hj
  have := h i j l[i] l[j] hij h2 (List.getElem?_eq_getElem h1) (List.getElem?_eq_getElem h2)
  simpa [vs, toV] using this
set_option maxRecDepth 100000 in
set_option maxHeartbeats 8000000 in
theorem order_walk (A : Option Addr) (cap : Nat) (l : List S30) (w : World) (hcap : l.length ≤ cap) (hl : Kd.C k30 w A l.length l) :
    Calls Try.prog 4 #[.slice A l.length cap] w fun e w' => e = .returned (.bool true) ∧ Below w.heap.size w w' := by
  by_cases c1 : (40 : Int) < (l.length : Int)
  · go_enter Try.func4, Try.ntmps4
    go_wp2_with fail
    refine (awake_calls _).mono ?_
    rintro e w1 ⟨rfl, hb⟩
    go_wp2_with fail
    go_ret
    exact ⟨rfl, hb⟩
  go_enter Try.func4, Try.ntmps4
  go_wp2_with fail
  refine (awake_calls _).mono ?_
  rintro e w1 ⟨rfl, hb⟩
  have HS := Lib.hid (Holds.of_below hb)
  clear hb
  go_wp2_with fail
  refine (new_calls w _ [] HS.out).mono ?_
  rintro e w2 ⟨g1, rfl, h1, hI, hH⟩
  have HI1 := Lib.hid hI; have HH1 := Lib.hid hH
  clear hI hH HS
  go_wp2_with fail
  refine (new_calls w _ (h1 ++ []) HH1.out).mono ?_
  rintro e w3 ⟨g2, rfl, h2, hI, hH⟩
  have HI2 := Lib.hid hI; have HH2 := Lib.hid (hH.perm (k := h1 ++ (h2 ++ [])) (by classical rw [List.perm_iff_count]; intro a; simp only [List.count_append, List.count_cons, List.count_nil]; omega))
  clear hI hH HH1
  go_wp2_with fail
  go_loopw [5] (fun i wr => RelO w g1 g2 l i wr) (fun i _ => l.length - (intOf i).toNat)
  case atStart => exact ⟨0, h1, h2, by omega, rfl, HI1.out, HI2.out, HH2.out, fun p q x y _ h => by omega⟩
  case round =>
    obtain ⟨k, h1, h2, hk, rfl, hI1, hI2, hH, hno⟩ := hrel
    have HI3 := Lib.hid hI1; have HI4 := Lib.hid hI2; have HH3 := Lib.hid hH; have HNO := Lib.hid hno
    clear hI1 hI2 hH hno HI1 HI2 HH2
    by_cases hlt : k < l.length
    · obtain ⟨ad, rfl, q0, q1, q2, q3⟩ := at_T30 (Kd.C_below hl HH3.out.below) (k : Int) (by omega) (by omega)
      have hxx : ∀ (j : Nat), j < l.length → ∀ W', Below w.heap.size w W' → W'.cell? (ad.add (j * 4)) = some (.int .i64 (rd_T30 l j).f0.f0) ∧ W'.cell? ⟨(ad.add (j * 4)).block, (ad.add (j * 4)).off + 1, none⟩ = some (.int .u8 (rd_T30 l j).f0.f1) ∧ W'.cell? ⟨(ad.add (j * 4)).block, (ad.add (j * 4)).off + 2, none⟩ = some (.string (rd_T30 l j).f1) ∧ W'.cell? ⟨(ad.add (j * 4)).block, (ad.add (j * 4)).off + 3, none⟩ = some (.bool (rd_T30 l j).f2) := by
        intro j hj W' hb
        obtain ⟨ad', e, p0, p1, p2, p3⟩ := at_T30 (Kd.C_below hl hb) (j : Int) (by omega) (by omega)
        obtain rfl := Option.some.inj e
        rw [Int.toNat_natCast] at p0 p1 p2 p3
        exact ⟨p0, p1, p2, p3⟩
      have HXX := Lib.hid hxx
      have HLX := Lib.hid (rd_get l k hlt)
      obtain ⟨x, hx⟩ : ∃ x, x = rd_T30 l (k : Int) := ⟨_, rfl⟩
      rw [← hx] at q0 q1 q2 q3 HLX
      have HXE := Lib.hid hx
      clear hxx hx
      rw [Int.toNat_natCast] at q0 q1 q2 q3
      by_cases hs : 300 < (x.f1.size : Int)
      · go_wp2_with fail
        go_ret
        exact ⟨rfl, HH3.out.below⟩
      go_wp2_with fail
      go_loopw [6] (fun i wr2 => ∃ j : Nat, j ≤ k ∧ i = .int .i64 j ∧ Below wr.heap.size wr wr2 ∧ ∀ p xp, p < j → l[p]? = some xp → ¬ (xp.f0.f0 = x.f0.f0 ∧ xp.f0.f1 = x.f0.f1)) (fun i _ => k - (intOf i).toNat)
      case atStart => exact ⟨0, by omega, rfl, Below.refl _ _, fun p xp h => by omega⟩
      case round =>
        obtain ⟨j, hj, rfl, hB, hnj⟩ := hrel
        have HBj := Lib.hid hB; have HNJ := Lib.hid hnj
        clear hB hnj q0 q1 q2 q3
        have HHj := Lib.hid (HH3.out.grow HBj.out)
        by_cases hjk : j < k
        · have HLP := Lib.hid (rd_get l j (by omega))
          have HXP := Lib.hid (fun w' (hb : Below wr.heap.size wr w') => show w'.cell? (ad.add (j * 4)) = some (.int .i64 (rd_T30 l j).f0.f0) ∧ w'.cell? ⟨(ad.add (j * 4)).block, (ad.add (j * 4)).off + 1, none⟩ = some (.int .u8 (rd_T30 l j).f0.f1) from ⟨(HXX.out j (by omega) w' (HHj.out.grow hb).below).1, (HXX.out j (by omega) w' (HHj.out.grow hb).below).2.1⟩)
          have HXI := Lib.hid (fun w' (hb : Below wr.heap.size wr w') => show w'.cell? (ad.add (k * 4)) = some (.int .i64 x.f0.f0) ∧ w'.cell? ⟨(ad.add (k * 4)).block, (ad.add (k * 4)).off + 1, none⟩ = some (.int .u8 x.f0.f1) from by rw [HXE.out]; exact ⟨(HXX.out k hlt w' (HHj.out.grow hb).below).1, (HXX.out k hlt w' (HHj.out.grow hb).below).2.1⟩)
          obtain ⟨xp, hxp⟩ : ∃ xp, xp = rd_T30 l (j : Int) := ⟨_, rfl⟩
          rw [← hxp] at HLP HXP
          clear hxp
          by_cases hsame : xp.f0.f0 = x.f0.f0 ∧ xp.f0.f1 = x.f0.f1
          · have HE := Lib.hid (show true = decide (xp.f0.f0 = x.f0.f0 ∧ xp.f0.f1 = x.f0.f1) from (decide_eq_true hsame).symm)
            clear hsame
            go_wp2_with fail
            refine region_quiet_lit (C := fun w' => Below wr.heap.size wr w') (by kernel_rfl) (by kernel_rfl) (Below.refl _ _).drew ?_
            go_big_quiet_step (exact fun _ => rfl)
            go_big_quiet_step (exact fun _ => rfl)
            go_big_quiet_step (exact fun _ => rfl)
            go_big_quiet_step (exact fun _ => rfl)
            refine BigFrame.wpQuiet_want rfl (fun K hK => ?_)
            refine quiet_val (.agg (sC xp.f0.f0 xp.f0.f1)) (fun w2 hw => by obtain ⟨q0, q1⟩ := HXP.out w2 hw; simp [go_sem, q0, q1, sC]) (hK _ ?_)
            clear hK K
            simp only [Act.put, List.setIfInBounds_toArray, List.set_cons_zero, List.set_cons_succ]
            go_big_quiet_step (exact fun _ => rfl)
            go_big_quiet_step (exact fun _ => rfl)
            go_big_quiet_step (exact fun _ => rfl)
            go_big_quiet_step (exact fun _ => rfl)
            refine BigFrame.wpQuiet_want rfl (fun K hK => ?_)
            refine quiet_val (.agg (sC x.f0.f0 x.f0.f1)) (fun w2 hw => by obtain ⟨q0, q1⟩ := HXI.out w2 hw; simp [go_sem, q0, q1, sC]) (hK _ ?_)
            clear hK K
            simp only [Act.put, List.setIfInBounds_toArray, List.set_cons_zero, List.set_cons_succ]
            refine BigFrame.wpQuiet_want rfl (fun K hK => ?_)
            refine quiet_val (.bool true) (fun w2 hw => eq_st _ _ _ _ _ HE.out w2) (hK _ ?_)
            clear hK K
            simp only [Act.put, List.setIfInBounds_toArray, List.set_cons_zero, List.set_cons_succ]
            refine wpQuiet_nil ?_
            intro w4 hw4
            have HB := Lib.hid (HHj.out.grow hw4).below
            clear hw4
            go_wp2_with fail
            go_ret
            exact ⟨rfl, HB.out⟩
          · have HE := Lib.hid (show false = decide (xp.f0.f0 = x.f0.f0 ∧ xp.f0.f1 = x.f0.f1) from (decide_eq_false hsame).symm)
            have HNS := Lib.hid hsame
            clear hsame
            go_wp2_with fail
            refine region_quiet_lit (C := fun w' => Below wr.heap.size wr w') (by kernel_rfl) (by kernel_rfl) (Below.refl _ _).drew ?_
            go_big_quiet_step (exact fun _ => rfl)
            go_big_quiet_step (exact fun _ => rfl)
            go_big_quiet_step (exact fun _ => rfl)
            go_big_quiet_step (exact fun _ => rfl)
            refine BigFrame.wpQuiet_want rfl (fun K hK => ?_)
            refine quiet_val (.agg (sC xp.f0.f0 xp.f0.f1)) (fun w2 hw => by obtain ⟨q0, q1⟩ := HXP.out w2 hw; simp [go_sem, q0, q1, sC]) (hK _ ?_)
            clear hK K
            simp only [Act.put, List.setIfInBounds_toArray, List.set_cons_zero, List.set_cons_succ]
            go_big_quiet_step (exact fun _ => rfl)
            go_big_quiet_step (exact fun _ => rfl)
            go_big_quiet_step (exact fun _ => rfl)
            go_big_quiet_step (exact fun _ => rfl)
            refine BigFrame.wpQuiet_want rfl (fun K hK => ?_)
            refine quiet_val (.agg (sC x.f0.f0 x.f0.f1)) (fun w2 hw => by obtain ⟨q0, q1⟩ := HXI.out w2 hw; simp [go_sem, q0, q1, sC]) (hK _ ?_)
            clear hK K
            simp only [Act.put, List.setIfInBounds_toArray, List.set_cons_zero, List.set_cons_succ]
            refine BigFrame.wpQuiet_want rfl (fun K hK => ?_)
            refine quiet_val (.bool false) (fun w2 hw => eq_st _ _ _ _ _ HE.out w2) (hK _ ?_)
            clear hK K
            simp only [Act.put, List.setIfInBounds_toArray, List.set_cons_zero, List.set_cons_succ]
            refine wpQuiet_nil ?_
            intro w4 hw4
            have HB := Lib.hid (HBj.out.trans (hw4.mono HBj.out.size))
            clear hw4
            go_wp2_with fail
            go_roundw
            case rel =>
              refine ⟨j + 1, by omega, by go_num, HB.out, fun p xq hp hq => ?_⟩
              rcases Nat.lt_or_ge p j with h | h
              · exact HNJ.out p xq h hq
              · obtain rfl : p = j := by omega
                obtain rfl : xp = xq := Option.some.inj (HLP.out.symm.trans hq)
                exact HNS.out
            case measure => simp [intOf] <;> omega
        · obtain rfl : j = k := by omega
          obtain ⟨q0, q1, q2, q3⟩ := HXX.out j hlt wr HHj.out.below
          rw [← HXE.out] at q0 q1 q2 q3
          obtain ⟨m, hm⟩ : ∃ m, m = l.length - 1 - j := ⟨_, rfl⟩
          have hmi : (l.length : Int) - 1 - (j : Int) = (m : Int) := by omega
          have hml : m < l.length := by omega
          have hml' : (m : Int) < (l.length : Int) := by omega
          have hmw : IntKind.i64.wrap ((l.length : Int) - 1) = (l.length : Int) - 1 := by rw [IntKind.wrap_i64]; omega
          have HLM := Lib.hid (rd_get l m hml)
          obtain ⟨xm, hxm⟩ : ∃ xm, xm = rd_T30 l (m : Int) := ⟨_, rfl⟩
          have HXM := Lib.hid (hxm ▸ (fun W' hb => HXX.out m hml W' hb : ∀ W', Below w.heap.size w W' → _))
          rw [← hxm] at HLM
          have HF1 := Lib.hid (show folds ((vs l).take (j + 1)) = step (folds ((vs l).take j)) (toV x) from fold_take (by unfold vs; rw [List.getElem?_map, HLX.out]; rfl))
          have HF2 := Lib.hid (show folds ((vs l).reverse.take (j + 1)) = step (folds ((vs l).reverse.take j)) (toV xm) from fold_take (by
            have e : (vs l).length = l.length := by simp [vs]
            rw [List.getElem?_reverse (by rw [e]; omega), e, ← hm]
            unfold vs
            rw [List.getElem?_map, HLM.out]
            rfl))
          clear hm hxm
          go_wp2_with fail
          refine (put_calls g1 _ (toV x) h1 _ w wr HI3.out HHj.out).mono ?_
          rintro e y1 ⟨he, h3, hI, hH⟩
          subst he
          have HI5 := Lib.hid hI
          have HH5 := Lib.hid (hH.perm (k := h2 ++ (h3 ++ [])) (by classical rw [List.perm_iff_count]; intro a; simp only [List.count_append, List.count_cons, List.count_nil]; omega))
          obtain ⟨p0, p1, p2, p3⟩ := HXM.out y1 hH.below
          clear hI hH q0 q1 q2 q3
          go_wp2_with fail
          refine (put_calls g2 _ (toV xm) h2 _ w y1 HI4.out HH5.out).mono ?_
          rintro e y2 ⟨he, h4, hI, hH⟩
          subst he
          have HI6 := Lib.hid hI
          have HH6 := Lib.hid (hH.perm (k := h3 ++ (h4 ++ [])) (by classical rw [List.perm_iff_count]; intro a; simp only [List.count_append, List.count_cons, List.count_nil]; omega))
          clear hI hH p0 p1 p2 p3
          go_wp2_with fail
          go_roundw
          case rel =>
            refine ⟨j + 1, h3, h4, by omega, by go_num, by rw [HF1.out]; exact HI5.out, by rw [HF2.out]; exact HI6.out, HH6.out, fun p q xa ya hpq hq hxa hya => ?_⟩
            rcases Nat.lt_or_ge q j with h | h
            · exact HNO.out p q xa ya hpq h hxa hya
            · obtain rfl : q = j := by omega
              obtain rfl : x = ya := Option.some.inj (HLX.out.symm.trans hya)
              exact HNJ.out p xa hpq hxa
          case measure => simp [intOf] <;> omega
    · obtain rfl : k = l.length := by omega
      have hap := apart_of HNO.out
      have hvl : (vs l).length = l.length := by simp [vs]
      have hol := order_law (vs l) (by omega) hap
      have hI3 := HI3.out; have hI4 := HI4.out
      rw [List.take_of_length_le (by rw [hvl]; exact Nat.le_refl _)] at hI3
      rw [List.take_of_length_le (by rw [List.length_reverse, hvl]; exact Nat.le_refl _), hol] at hI4
      obtain ⟨L, hL⟩ : ∃ L, L = folds (vs l) := ⟨_, rfl⟩
      rw [← hL] at hI3 hI4
      have hL50 : L.length ≤ 50 := by obtain ⟨_, _, _, _, _, h⟩ := hI3; exact h
      have HA := Lib.hid hI3; have HB := Lib.hid hI4
      clear hap hol hI3 hI4 hL HI3 HI4 HNO
      go_wp2_with fail
      refine (all_calls g1 L h1 (h2 ++ []) w _ HA.out HH3.out).mono ?_
      rintro e a1 ⟨v, rfl, hv1, hRv, hH⟩
      obtain ⟨AA1, gA1, cA1, rfl, hAA, hrd⟩ := row_rd hRv
      have HHa := Lib.hid hH; have HAA := Lib.hid hAA; have HRD := Lib.hid hrd
      clear hH hRv hAA hrd
      go_wp2_with fail
      refine (vers_calls AA1 gA1 cA1 L w _ _ HAA.out (by omega) (fun w' H => HRD.out w _ w' H) HHa.out).mono ?_
      rintro e b1 ⟨v, rfl, ho1, hRv, hH⟩
      obtain ⟨AO1, gO1, cO1, rfl, hAO, hro⟩ := row_ro hRv
      have HAO1 := Lib.hid hAO; have HRO1 := Lib.hid hro
      have HHb := Lib.hid ((hH.alloc (.cells #[.slice AO1 L.length cO1] 43)).perm (k := h2 ++ ((b1.heap.size, .cells #[.slice AO1 L.length cO1] 43) :: (ho1 ++ (hv1 ++ (h1 ++ []))))) (by classical rw [List.perm_iff_count]; intro a; simp only [List.count_append, List.count_cons, List.count_nil]; omega))
      clear hH hRv hAO hro HHa HAA HRD
      go_wp2_with fail
      have HHc := HHb
      clear HHb
      refine (all_calls g2 L h2 (((b1.heap.size, .cells #[.slice AO1 L.length cO1] 43) :: (ho1 ++ (hv1 ++ (h1 ++ []))))) w _ HB.out HHc.out).mono ?_
      rintro e a2 ⟨v, rfl, hv2, hRv, hH⟩
      obtain ⟨AA2, gA2, cA2, rfl, hAA, hrd⟩ := row_rd hRv
      have HHa := Lib.hid hH; have HAA := Lib.hid hAA; have HRD := Lib.hid hrd
      clear hH hRv hAA hrd
      go_wp2_with fail
      refine (vers_calls AA2 gA2 cA2 L w _ _ HAA.out (by omega) (fun w' H => HRD.out w _ w' H) HHa.out).mono ?_
      rintro e b2 ⟨v, rfl, ho2, hRv, hH⟩
      obtain ⟨AO2, gO2, cO2, rfl, hAO, hro⟩ := row_ro hRv
      have HAO2 := Lib.hid hAO; have HRO2 := Lib.hid hro
      have HHb := Lib.hid ((hH.alloc (.cells #[.slice AO2 L.length cO2] 43)).perm (k := (b2.heap.size, .cells #[.slice AO2 L.length cO2] 43) :: ((b1.heap.size, .cells #[.slice AO1 L.length cO1] 43) :: (ho2 ++ (ho1 ++ (hv2 ++ (h2 ++ (hv1 ++ (h1 ++ [])))))))) (by classical rw [List.perm_iff_count]; intro a; simp only [List.count_append, List.count_cons, List.count_nil]; omega))
      clear hH hRv hAO hro HHa HAA HRD
      go_wp2_with fail
      have k2 := HHb.out.cell 0
      have k1 := HHb.out.tail.cell 0
      have r2 := HRO2.out w _ _ HHb.out.tail.tail
      have r1 := HRO1.out w (ho2 ++ (hv2 ++ (h2 ++ (hv1 ++ (h1 ++ []))))) _ (HHb.out.tail.tail.perm (by classical rw [List.perm_iff_count]; intro a; simp only [List.count_append, List.count_cons, List.count_nil]; omega))
      refine (same_calls b1.heap.size b2.heap.size gO1 gO2 cO1 cO2 AO1 AO2 L _ k1 k2 HAO1.out HAO2.out r1 r2 (by omega)).mono ?_
      rintro e z1 ⟨rfl, hb⟩
      have HZ := Lib.hid (HHb.out.grow hb).below
      clear hb k1 k2 r1 r2
      go_wp2_with fail
      go_ret
      exact ⟨rfl, HZ.out⟩
end Go.Proofs.Ytgkigcobaimccaa
