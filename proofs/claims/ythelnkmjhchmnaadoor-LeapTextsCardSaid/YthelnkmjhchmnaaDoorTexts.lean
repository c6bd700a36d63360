/- LeapTexts's walk. No condition. -/
import Derived.Test.YthelnkmjhchmnaaDoorAw
import Derived.Test.YthelnkmjhchmnaaDoorCk
import Derived.Test.YthelnkmjhchmnaaDoorOs
namespace Go.Proofs.YthelnkmjhchmnaaDoor.Tl
open Go.RowKit Go.Proofs.YthelnkmjhchmnaaDoor.QLeap Go.Proofs.YthelnkmjhchmnaaDoor.Cal Go.Proofs.YthelnkmjhchmnaaDoor.Pa Go.Proofs.YthelnkmjhchmnaaDoor.Nm Go.Proofs.YthelnkmjhchmnaaDoor.Sp Go.Proofs.YthelnkmjhchmnaaDoorW.PrintWords
set_option linter.unusedVariables false
set_option linter.unusedSimpArgs false
theorem tai_cases (l : List S52) (d sec : Int) : taiv l d sec = (0, 1) ∨ taiv l d sec = (0, 4) ∨ (taiv l d sec).2 = 0 := by
  unfold taiv
  split
  · split
    · exact Or.inl rfl
    · exact Or.inr (Or.inr rfl)
  · exact Or.inr (Or.inl rfl)
def dC (y m d : Int) : Array Value := #[.int .i64 y, .int .i64 m, .int .i64 d]
theorem info37 (y m d : Int) : (Tryd.prog.info? 37).map (·.size) = some (dC y m d).size := by kernel_rfl
theorem ldD {w : World} {g : Nat} {y m d : Int} (hg : w.heap[g]? = some (.cells (dC y m d) 37 (0, 0))) : (loadVar 37 ⟨g, 0, none⟩).run Tryd.prog w = .ok (.agg (dC y m d)) w := run_loadVar_row (P := Tryd.prog) w g 37 37 (dC y m d) (0, 0) _ hg Tryd.underlying37 rfl (info37 y m d)
theorem wpL {ty : TypeId} {t : TypeId} {cs : Array Value} {o : Oper} {a : Act} {w : World} {K : Act → World → Prop} {Q : Exit → Act → World → Prop} (x : Operand) (g : Nat) (ho : o.op = .load ty x) (hx : a.eval x = .pointer (some ⟨g, 0, none⟩))
    (hg : w.heap[g]? = some (.cells cs t (0, 0))) (hrun : (loadVar ty ⟨g, 0, none⟩).run Tryd.prog w = .ok (.agg cs) w) (hK : K (a.put o.dst (.agg cs)) w) : o.wp Tryd.prog a w K Q := by
  unfold Oper.wp execOp
  simp only [ho, hx, Instr.loadAt, Instr.sureAddr, Sem.run_bind, Sem.run_pure, Result.andThen_ok, hrun]
  exact hK
theorem wpV {o : Oper} {a : Act} {w : World} {K : Act → World → Prop} {Q : Exit → Act → World → Prop} (v : Value) (hrun : (execOp a.eval o).run Tryd.prog w = .ok (.value v) w) (hK : K (a.put o.dst v) w) : o.wp Tryd.prog a w K Q := by
  unfold Oper.wp
  rw [hrun]
  exact hK
theorem keep1 {w0 w w' : World} {b g : Nat} {o : Obj} (K : Holds w0 [(b, o)] w) (hb : Below w0.heap.size w0 w') (hk : KeepBut w w' g none) (hg : g < w0.heap.size) : Holds w0 [(b, o)] w' :=
  (Holds.of_below hb).cons K.ge ((hk.2 b K.lt (by have := K.ge; omega) (by simp)).trans K.get) (by simp)
/-- What the two texts are. -/
theorem two_texts {l : List S52} (T : Tab l) (s : ByteArray) {t day sec y m d : Int} (hh : hit l t day = true) (hs : sec = t - beg l day) (ho : civil_Of.f 20300 day = some (y, m, d, 0)) (g : good y m d) (hdd : days y m d = day) :
    leap_Table_Clock.f 20300 s l t = some (⟨(clk y m d sec).toArray⟩, s) ∧
    ∃ Y : List UInt8, leap_Table_Clock.f 20300 s l (t + 1) = some (⟨Y.toArray⟩, s) ∧ (Y = [] ∨ y < 0 ∨ (Y.length = (clk y m d sec).length ∧ Op.bytesLess (clk y m d sec) Y = true)) := by
  obtain ⟨hk, h0, h1⟩ := hit_iff.mp hh
  have hl := len_in T day
  refine ⟨clock_yes 20300 (by omega) T s t day sec y m d (by rw [utc_yes T hh, hs]) (by omega) (by omega) ho g, ?_⟩
  rcases utc_err l (t + 1) with hu | hu
  · obtain ⟨hh2, hs2⟩ := utc_some hu
    obtain ⟨d', hd'⟩ : ∃ d', d' = (utcv l (t + 1)).1 := ⟨_, rfl⟩
    obtain ⟨s', hs'⟩ : ∃ s', s' = (utcv l (t + 1)).2.1 := ⟨_, rfl⟩
    rw [← hd'] at hh2 hs2
    rw [← hs'] at hs2
    have hu2 : utcv l (t + 1) = (d', s', 0) := by rw [hd', hs', ← hu]
    obtain ⟨hk2, g0, g1⟩ := hit_iff.mp hh2
    have hl2 := len_in T d'
    have hr := (kn_iff.mp hk2).1
    obtain ⟨y', m', dd', ho', g', e'⟩ := of_yes 20300 (by omega) d' hr.1 hr.2
    refine ⟨_, clock_yes 20300 (by omega) T s (t + 1) d' s' y' m' dd' hu2 (by omega) (by omega) ho' g', ?_⟩
    by_cases hy : y < 0
    · exact Or.inr (Or.inl hy)
    refine Or.inr (Or.inr ?_)
    rcases Int.lt_trichotomy d' day with h | h | h
    · have := beg_lt T h hk2 hk; omega
    · subst h
      rw [ho] at ho'
      have e := Option.some.inj ho'
      injection e with e1 e; injection e with e2 e; injection e with e3 e
      subst e1 e2 e3
      obtain rfl : s' = sec + 1 := by omega
      exact ⟨by rw [clk_len _ _ _ _ g (by omega) (by omega), clk_len _ _ _ _ g (by omega) (by omega)], less_sec _ _ _ _ (by omega) (by omega)⟩
    · have hdl : days y m d < days y' m' dd' := by omega
      have hy' := year_mono g g' (by omega) (by omega)
      exact ⟨by rw [clk_len _ _ _ _ g (by omega) (by omega), clk_len _ _ _ _ g' (by omega) (by omega), txl_len _ _ _ g, txl_len _ _ _ g', if_neg hy, if_neg (by omega)], less_day _ _ _ _ _ _ _ _ g g' (by omega) hy' hdl⟩
  · exact ⟨[], clock_no 20300 (by omega) T s (t + 1) hu, Or.inl rfl⟩
set_option maxRecDepth 100000 in
set_option maxHeartbeats 8000000 in
theorem texts_walk (s : ByteArray) (day sec : Int) (w : World) : Calls Tryd.prog 6 #[.string s, .int .i64 day, .int .i64 sec] w fun e w' => e = .returned (.bool true) ∧ Below w.heap.size w w' := by
  have HAW := Lib.hid awake_calls
  by_cases c1 : (2000 : Int) < (s.size : Int)
  · go_enter Tryd.func6, Tryd.ntmps6
    go_wp2_with fail
    refine (HAW.out _).mono ?_
    rintro e w1 ⟨rfl, hb⟩
    have H1 := Lib.hid hb
    clear hb
    go_wp2_with fail
    go_ret
    exact ⟨rfl, H1.out⟩
  have HPA := Lib.hid (fun w => parse_calls s w (by omega))
  have HOC := Lib.hid (fun (w : World) (e : Ending) (w' : World) (h : Out s w e w') => out_cases (by omega) h)
  go_enter Tryd.func6, Tryd.ntmps6
  go_wp2_with fail
  refine (HAW.out _).mono ?_
  rintro e w1 ⟨rfl, hb⟩
  have H1 := Lib.hid hb
  clear hb
  go_wp2_with fail
  refine (HPA.out w1).mono ?_
  intro e w2 hO
  rcases HOC.out w1 e w2 hO with ⟨n, l, hp, hn, rfl, hb⟩ | ⟨l, g, hp, rfl, hI, T, hb⟩
  · have H2 := Lib.hid (H1.out.trans (hb.mono H1.out.size))
    have hn' : (n == 0) = false := by rw [beq_eq_false_iff_ne]; exact hn
    clear hb hO hp
    go_wp2_with fail
    go_ret
    exact ⟨rfl, H2.out⟩
  have H2 := Lib.hid (H1.out.trans (hb.mono H1.out.size))
  have HI := Lib.hid hI
  have HT := Lib.hid T
  have H20 := Lib.hid (Below.refl w2.heap.size w2)
  have HTA := Lib.hid (fun d sec w hb => tai_calls hI T d sec w hb)
  have HLE := Lib.hid (fun d w hb => len_calls hI T d w hb)
  have HUT := Lib.hid (fun t w hb => utc_calls hI T t w hb)
  clear hO hp hI T hb
  go_wp2_with fail
  refine (HTA.out day sec _ H20.out).mono ?_
  rintro e w3 ⟨rfl, hb⟩
  have H3 := Lib.hid hb
  clear hb
  rcases tai_cases l day sec with h | h | h
  · rw [h]
    clear h
    go_wp2_with fail
    go_ret
    exact ⟨rfl, H2.out.trans (H3.out.mono H2.out.size)⟩
  · rw [h]
    clear h
    go_wp2_with fail
    go_ret
    exact ⟨rfl, H2.out.trans (H3.out.mono H2.out.size)⟩
  rw [h]
  obtain ⟨hh, ht, hk, h0, h1⟩ := hit_tai h
  obtain ⟨t, htt⟩ : ∃ t, t = (taiv l day sec).1 := ⟨_, rfl⟩
  rw [← htt] at hh ht
  rw [← htt]
  have hr := (kn_iff.mp hk).1
  have hl := len_in HT.out day
  have ha := at_in HT.out day
  obtain ⟨y, m, d, ho, g', e'⟩ := of_yes 20300 (by omega) day hr.1 hr.2
  obtain ⟨c1_, Y, c2_, hY⟩ := two_texts (sec := sec) HT.out s hh (by omega) ho g' e'
  have hlen := clk_len y m d sec g' h0 (by omega)
  have hform := clk_form y m d sec
  obtain ⟨a0, a1, a2, a3⟩ := mi_in h0 (show sec ≤ 86400 by omega)
  have z1 := tw_len (mi sec / 60) (by omega) (by omega)
  have z2 := tw_len (mi sec % 60) (by omega) (by omega)
  have z3 := tw_len (sec - mi sec * 60) (by omega) (by omega)
  have htx := text_f 20300 (by omega) y m d
  rw [if_pos g'] at htx
  obtain ⟨TX, hTX⟩ : ∃ TX, TX = txl y m d := ⟨_, rfl⟩
  obtain ⟨X, hX⟩ : ∃ X, X = clk y m d sec := ⟨_, rfl⟩
  rw [← hTX] at hlen hform htx
  rw [← hX] at hlen hform hY c1_
  obtain ⟨Z, hZ⟩ : ∃ Z : List UInt8, X = TX ++ (84 :: (Z ++ [90])) ∧ Z.length = 8 := ⟨tw (mi sec / 60) ++ (58 :: (tw (mi sec % 60) ++ (58 :: tw (sec - mi sec * 60)))), by rw [hform]; simp, by simp [z1, z2, z3]⟩
  have hb : TX.length ≤ 11 := by rw [hTX, txl_len _ _ _ g']; split <;> omega
  obtain ⟨XB, hXB⟩ : ∃ XB : ByteArray, XB = ⟨X.toArray⟩ := ⟨_, rfl⟩
  obtain ⟨YB, hYB⟩ : ∃ YB : ByteArray, YB = ⟨Y.toArray⟩ := ⟨_, rfl⟩
  obtain ⟨TB, hTB⟩ : ∃ TB : ByteArray, TB = ⟨TX.toArray⟩ := ⟨_, rfl⟩
  rw [← hXB] at c1_
  rw [← hYB] at c2_
  rw [← hTB] at htx
  have sX : XB.size = TB.size + 10 := by rw [hXB, hTB, sz, sz]; exact hlen
  have sT : TB.size ≤ 11 := by rw [hTB, sz]; exact hb
  have hext : XB.extract 0 TB.size = TB := by
    apply ByteArray.ext
    apply Array.ext'
    rw [Lib.extract_from_zero, hXB, hTB, sz]
    simp [hZ.1]
  have hx84 : ∀ h : TB.size < XB.size, XB[TB.size] = 84 := by
    intro h
    subst hXB
    have : (X.toArray)[TB.size]? = some 84 := by rw [hTB, sz, hZ.1]; simp
    have h2 : (X.toArray)[TB.size]? = some (X.toArray)[TB.size] := Array.getElem?_eq_getElem h
    rw [h2] at this
    exact Option.some.inj this
  have hx90 : ∀ h : TB.size + 9 < XB.size, XB[TB.size + 9] = 90 := by
    intro h
    subst hXB
    have : (X.toArray)[TB.size + 9]? = some 90 := by
      rw [hTB, sz, hZ.1, List.getElem?_toArray, List.getElem?_append_right (by omega), show TX.length + 9 - TX.length = 8 + 1 by omega, List.getElem?_cons_succ, List.getElem?_append_right (by omega)]
      simp [hZ.2]
    have h2 : (X.toArray)[TB.size + 9]? = some (X.toArray)[TB.size + 9] := Array.getElem?_eq_getElem h
    rw [h2] at this
    exact Option.some.inj this
  have hYB2 : YB.toList = [] ∨ y < 0 ∨ (YB.size = XB.size ∧ Op.bytesLess XB.toList YB.toList = true) := by
    rw [hXB, hYB, ByteArray.toList_mk, ByteArray.toList_mk, sz, sz]
    exact hY
  have hbd : -1000000000000 ≤ t ∧ t ≤ 1000000000000 := by unfold beg at ht; omega
  have w1_ : wrap64 (t + 1) = t + 1 := w64 _ (by omega) (by omega)
  have HO := Lib.hid (fun w => civil_Of.calls 20300 day y m d 0 w ho)
  have HC1 := Lib.hid (fun w hb => (leap_Table_Clock.calls 20300 g s l t _ _ w2 w (HI.out.below hb) hb c1_).mono fun e w' h => (⟨h.1, h.2.2.1, h.2.2.2⟩ : e = .returned (.string XB) ∧ Below w2.heap.size w2 w' ∧ KeepBut w w' g none))
  have HC2 := Lib.hid (fun w hb => (leap_Table_Clock.calls 20300 g s l (t + 1) _ _ w2 w (HI.out.below hb) hb c2_).mono fun e w' h => (⟨h.1, h.2.2.1, h.2.2.2⟩ : e = .returned (.string YB) ∧ Below w2.heap.size w2 w' ∧ KeepBut w w' g none))
  have HTXT := Lib.hid (fun w => civil_Text.calls 20300 y m d TB w htx)
  have HSX := Lib.hid sX; have HST := Lib.hid sT; have HEX := Lib.hid hext; have H84 := Lib.hid hx84; have H90 := Lib.hid hx90; have HY2 := Lib.hid hYB2
  clear h hh ht hk h0 h1 htt hr hl ha ho g' e' c1_ c2_ hY hlen hform a0 a1 a2 a3 z1 z2 z3 htx hTX hX hZ hb hXB hYB hTB sX sT hext hx84 hx90 hYB2 hbd
  go_wp2_with fail
  refine (HO.out _).mono ?_
  rintro e w4 ⟨rfl, hb⟩
  have B4 := H3.out.trans (hb.mono H3.out.size)
  have K4 := Lib.hid ((Holds.of_below B4).alloc (.cells (dC y m d) 37))
  have hgl := Lib.hid HI.out.lt
  clear hb B4
  go_wp2_with fail
  refine (HC1.out _ K4.out.below).mono ?_
  rintro e w5 ⟨rfl, hb, hk⟩
  have K5 := Lib.hid (keep1 K4.out hb hk hgl.out)
  clear hb hk
  go_wp2_with fail
  refine (HC2.out _ K5.out.below).mono ?_
  rintro e w6 ⟨rfl, hb, hk⟩
  have K6 := Lib.hid (keep1 K5.out hb hk hgl.out)
  clear hb hk
  obtain ⟨b, hbb⟩ : ∃ b, b = w4.heap.size := ⟨_, rfl⟩
  rw [← hbb] at K6
  rw [← hbb]
  clear hbb
  have c0_ : w6.cell? ⟨b, 0, none⟩ = some (.int .i64 y) := K6.out.cell 0
  have c1_ : w6.cell? ⟨b, 1, none⟩ = some (.int .i64 m) := K6.out.cell 1
  have c2_ : w6.cell? ⟨b, 2, none⟩ = some (.int .i64 d) := K6.out.cell 2
  go_wp2_with fail
  refine (HTXT.out _).mono ?_
  rintro e w7 ⟨rfl, hb⟩
  have K7 := Lib.hid (K6.out.grow hb)
  clear hb c0_ c1_ c2_
  go_wp2_with fail
  refine wp_region_own 30 (fun _ => []) (by kernel_rfl) (by kernel_rfl) (by kernel_rfl) (by kernel_rfl) (Nat.le_of_ble_eq_true (by kernel_rfl)) w2 (fun Ls hs => hs = [(b, Obj.cells (dC y m d) 37)]) (fun i v h => match i with | 0 => v = .int .i64 0 ∧ h = [] | 1 => v = .bool false ∧ h = [] | 2 => v = .bool false ∧ h = [] | 3 => v = .string XB ∧ h = [] | 4 => v = .int .i64 XB.size ∧ h = [] | 5 => v = .int .i64 (TB.size : Int) ∧ h = [] | 6 => v = .int .i64 ((TB.size : Int) + 10) ∧ h = [] | 7 => v = .bool false ∧ h = [] | 8 => v = .bool false ∧ h = [] | 9 => v = .bool false ∧ h = [] | 10 => v = .string XB ∧ h = [] | 11 => v = .int .i64 (TB.size : Int) ∧ h = [] | 12 => v = .string TB ∧ h = [] | 13 => v = Value.agg (dC y m d) ∧ h = [] | 14 => v = .string TB ∧ h = [] | 15 => v = .bool false ∧ h = [] | 16 => v = .bool false ∧ h = [] | 17 => v = .bool false ∧ h = [] | 18 => v = .string XB ∧ h = [] | 19 => v = .int .i64 (TB.size : Int) ∧ h = [] | 20 => v = .int .u8 84 ∧ h = [] | 21 => v = .bool false ∧ h = [] | 22 => v = .bool false ∧ h = [] | 23 => v = .bool false ∧ h = [] | 24 => v = .string XB ∧ h = [] | 25 => v = .int .i64 (TB.size : Int) ∧ h = [] | 26 => v = .int .i64 ((TB.size : Int) + 9) ∧ h = [] | 27 => v = .int .u8 90 ∧ h = [] | 28 => v = .bool false ∧ h = [] | 29 => v = .bool false ∧ h = [] | _ => True) ([(b, Obj.cells (dC y m d) 37)]) (rfl) (K7.out.drew) ?_ ?_
  · intro i o hi ho Ls f Hf hs R w1 hI hL hd hH
    simp only [fill, List.take_succ_cons, List.take_zero, Act.put, List.setIfInBounds_toArray, List.set_cons_zero, List.set_cons_succ]
    match i, hi with
    | 0, _ =>
      obtain rfl := Option.some.inj ho
      clear hd ho
      have hH : Holds w2 (hs ++ ([] ++ R)) w1 := hH
      subst hI
      unfold wpOp
      refine Or.inl ?_
      unfold Oper.wp
      go_simp
      exact OwnBy.mk _ _ _ rfl (rfl) (⟨rfl, rfl⟩) (hH)
    | 1, _ =>
      obtain rfl := Option.some.inj ho
      have e0 : f 0 = .int .i64 0 := (hd ⟨0, .data⟩ (by simp) rfl).2.1
      clear hd ho
      have hH : Holds w2 (hs ++ ([] ++ R)) w1 := hH
      subst hI
      unfold wpOp
      refine Or.inl ?_
      simp only [e0]
      unfold Oper.wp
      go_simp
      exact OwnBy.mk _ _ _ rfl (rfl) (⟨rfl, rfl⟩) (hH)
    | 2, _ =>
      obtain rfl := Option.some.inj ho
      have e1 : f 1 = .bool false := (hd ⟨1, .data⟩ (by simp) rfl).2.1
      clear hd ho
      have hH : Holds w2 (hs ++ ([] ++ R)) w1 := hH
      subst hI
      unfold wpOp
      refine Or.inl ?_
      simp only [e1]
      unfold Oper.wp
      go_simp
      exact OwnBy.mk _ _ _ rfl (rfl) (⟨rfl, rfl⟩) (hH)
    | 3, _ =>
      obtain rfl := Option.some.inj ho
      have e2 : f 2 = .bool false := (hd ⟨2, .guard⟩ (by simp) rfl).2.1
      clear hd ho
      have hH : Holds w2 (hs ++ ([] ++ R)) w1 := hH
      subst hI
      unfold wpOp
      simp only [e2]
      refine Or.inl ?_
      unfold Oper.wp
      go_simp
      exact OwnBy.mk _ _ _ rfl (rfl) (⟨rfl, rfl⟩) (hH)
    | 4, _ =>
      obtain rfl := Option.some.inj ho
      have e3 : f 3 = .string XB := (hd ⟨3, .data⟩ (by simp) rfl).2.1
      have e2 : f 2 = .bool false := (hd ⟨2, .guard⟩ (by simp) rfl).2.1
      clear hd ho
      have hH : Holds w2 (hs ++ ([] ++ R)) w1 := hH
      subst hI
      unfold wpOp
      simp only [e3, e2]
      refine Or.inl ?_
      unfold Oper.wp
      go_simp
      exact OwnBy.mk _ _ _ rfl (rfl) (⟨rfl, rfl⟩) (hH)
    | 5, _ =>
      obtain rfl := Option.some.inj ho
      have e2 : f 2 = .bool false := (hd ⟨2, .guard⟩ (by simp) rfl).2.1
      clear hd ho
      have hH : Holds w2 (hs ++ ([] ++ R)) w1 := hH
      subst hI
      unfold wpOp
      simp only [e2]
      refine Or.inl ?_
      unfold Oper.wp
      go_simp
      exact OwnBy.mk _ _ _ rfl (rfl) (⟨rfl, rfl⟩) (hH)
    | 6, _ =>
      obtain rfl := Option.some.inj ho
      have e5 : f 5 = .int .i64 (TB.size : Int) := (hd ⟨5, .data⟩ (by simp) rfl).2.1
      have e2 : f 2 = .bool false := (hd ⟨2, .guard⟩ (by simp) rfl).2.1
      clear hd ho
      have hH : Holds w2 (hs ++ ([] ++ R)) w1 := hH
      subst hI
      unfold wpOp
      simp only [e5, e2]
      refine Or.inl ?_
      unfold Oper.wp
      have hw : IntKind.i64.wrap ((TB.size : Int) + 10) = (TB.size : Int) + 10 := by have := HST.out; rw [IntKind.wrap_i64]; omega
      go_simp
      exact OwnBy.mk _ _ _ rfl (rfl) (⟨rfl, rfl⟩) (hH)
    | 7, _ =>
      obtain rfl := Option.some.inj ho
      have e4 : f 4 = .int .i64 XB.size := (hd ⟨4, .data⟩ (by simp) rfl).2.1
      have e6 : f 6 = .int .i64 ((TB.size : Int) + 10) := (hd ⟨6, .data⟩ (by simp) rfl).2.1
      have e2 : f 2 = .bool false := (hd ⟨2, .guard⟩ (by simp) rfl).2.1
      clear hd ho
      have hH : Holds w2 (hs ++ ([] ++ R)) w1 := hH
      subst hI
      unfold wpOp
      simp only [e4, e6, e2]
      refine Or.inl ?_
      unfold Oper.wp
      have h1 : ((XB.size : Int) == (TB.size : Int) + 10) = true := by have := HSX.out; rw [beq_iff_eq]; omega
      have h2 : ((XB.size : Int) != (TB.size : Int) + 10) = false := by have := HSX.out; rw [bne_eq_false_iff_eq]; omega
      go_simp
      exact OwnBy.mk _ _ _ rfl (rfl) (⟨rfl, rfl⟩) (hH)
    | 8, _ =>
      obtain rfl := Option.some.inj ho
      have e2 : f 2 = .bool false := (hd ⟨2, .data⟩ (by simp) rfl).2.1
      have e7 : f 7 = .bool false := (hd ⟨7, .data⟩ (by simp) rfl).2.1
      clear hd ho
      have hH : Holds w2 (hs ++ ([] ++ R)) w1 := hH
      subst hI
      unfold wpOp
      refine Or.inl ?_
      simp only [e2, e7]
      unfold Oper.wp
      go_simp
      exact OwnBy.mk _ _ _ rfl (rfl) (⟨rfl, rfl⟩) (hH)
    | 9, _ =>
      obtain rfl := Option.some.inj ho
      have e8 : f 8 = .bool false := (hd ⟨8, .data⟩ (by simp) rfl).2.1
      clear hd ho
      have hH : Holds w2 (hs ++ ([] ++ R)) w1 := hH
      subst hI
      unfold wpOp
      refine Or.inl ?_
      simp only [e8]
      unfold Oper.wp
      go_simp
      exact OwnBy.mk _ _ _ rfl (rfl) (⟨rfl, rfl⟩) (hH)
    | 10, _ =>
      obtain rfl := Option.some.inj ho
      have e9 : f 9 = .bool false := (hd ⟨9, .guard⟩ (by simp) rfl).2.1
      clear hd ho
      have hH : Holds w2 (hs ++ ([] ++ R)) w1 := hH
      subst hI
      unfold wpOp
      simp only [e9]
      refine Or.inl ?_
      unfold Oper.wp
      go_simp
      exact OwnBy.mk _ _ _ rfl (rfl) (⟨rfl, rfl⟩) (hH)
    | 11, _ =>
      obtain rfl := Option.some.inj ho
      have e9 : f 9 = .bool false := (hd ⟨9, .guard⟩ (by simp) rfl).2.1
      clear hd ho
      have hH : Holds w2 (hs ++ ([] ++ R)) w1 := hH
      subst hI
      unfold wpOp
      simp only [e9]
      refine Or.inl ?_
      unfold Oper.wp
      go_simp
      exact OwnBy.mk _ _ _ rfl (rfl) (⟨rfl, rfl⟩) (hH)
    | 12, _ =>
      obtain rfl := Option.some.inj ho
      have e10 : f 10 = .string XB := (hd ⟨10, .data⟩ (by simp) rfl).2.1
      have e11 : f 11 = .int .i64 (TB.size : Int) := (hd ⟨11, .data⟩ (by simp) rfl).2.1
      have e9 : f 9 = .bool false := (hd ⟨9, .guard⟩ (by simp) rfl).2.1
      clear hd ho
      have hH : Holds w2 (hs ++ ([] ++ R)) w1 := hH
      subst hI
      unfold wpOp
      simp only [e10, e11, e9]
      refine Or.inl ?_
      unfold Oper.wp
      have h1 : (TB.size : Int) ≤ (XB.size : Int) := by have := HSX.out; omega
      have h3 : TB.size ≤ XB.size := by have := HSX.out; omega
      have h2 := HEX.out
      go_simp
      exact OwnBy.mk _ _ _ rfl (rfl) (⟨rfl, rfl⟩) (hH)
    | 13, _ =>
      obtain rfl := Option.some.inj ho
      have e9 : f 9 = .bool false := (hd ⟨9, .guard⟩ (by simp) rfl).2.1
      clear hd ho
      have hH : Holds w2 (hs ++ ([] ++ R)) w1 := hH
      subst hI
      unfold wpOp
      simp only [e9]
      refine Or.inl ?_
      unfold Oper.wp
      refine wpL (.tmp 11) b rfl rfl hH.get (ldD hH.get) ?_
      exact OwnBy.mk _ _ _ rfl (rfl) (⟨rfl, rfl⟩) (hH)
    | 14, _ =>
      obtain rfl := Option.some.inj ho
      have e13 : f 13 = Value.agg (dC y m d) := (hd ⟨13, .data⟩ (by simp) rfl).2.1
      have e9 : f 9 = .bool false := (hd ⟨9, .guard⟩ (by simp) rfl).2.1
      clear hd ho
      have hH : Holds w2 (hs ++ ([] ++ R)) w1 := hH
      subst hI
      unfold wpOp
      simp only [e13, e9]
      refine Or.inl ?_
      unfold Oper.wp
      unfold dC
      go_simp
      refine (HTXT.out w1).mono ?_
      rintro e w3 ⟨rfl, hb⟩
      exact OwnBy.mk _ _ _ rfl (rfl) (⟨rfl, rfl⟩) (hH.grow hb)
    | 15, _ =>
      obtain rfl := Option.some.inj ho
      have e12 : f 12 = .string TB := (hd ⟨12, .data⟩ (by simp) rfl).2.1
      have e14 : f 14 = .string TB := (hd ⟨14, .data⟩ (by simp) rfl).2.1
      have e9 : f 9 = .bool false := (hd ⟨9, .guard⟩ (by simp) rfl).2.1
      clear hd ho
      have hH : Holds w2 (hs ++ ([] ++ R)) w1 := hH
      subst hI
      unfold wpOp
      simp only [e12, e14, e9]
      refine Or.inl ?_
      unfold Oper.wp
      go_simp
      exact OwnBy.mk _ _ _ rfl (rfl) (⟨rfl, rfl⟩) (hH)
    | 16, _ =>
      obtain rfl := Option.some.inj ho
      have e9 : f 9 = .bool false := (hd ⟨9, .data⟩ (by simp) rfl).2.1
      have e15 : f 15 = .bool false := (hd ⟨15, .data⟩ (by simp) rfl).2.1
      clear hd ho
      have hH : Holds w2 (hs ++ ([] ++ R)) w1 := hH
      subst hI
      unfold wpOp
      refine Or.inl ?_
      simp only [e9, e15]
      unfold Oper.wp
      go_simp
      exact OwnBy.mk _ _ _ rfl (rfl) (⟨rfl, rfl⟩) (hH)
    | 17, _ =>
      obtain rfl := Option.some.inj ho
      have e16 : f 16 = .bool false := (hd ⟨16, .data⟩ (by simp) rfl).2.1
      clear hd ho
      have hH : Holds w2 (hs ++ ([] ++ R)) w1 := hH
      subst hI
      unfold wpOp
      refine Or.inl ?_
      simp only [e16]
      unfold Oper.wp
      go_simp
      exact OwnBy.mk _ _ _ rfl (rfl) (⟨rfl, rfl⟩) (hH)
    | 18, _ =>
      obtain rfl := Option.some.inj ho
      have e17 : f 17 = .bool false := (hd ⟨17, .guard⟩ (by simp) rfl).2.1
      clear hd ho
      have hH : Holds w2 (hs ++ ([] ++ R)) w1 := hH
      subst hI
      unfold wpOp
      simp only [e17]
      refine Or.inl ?_
      unfold Oper.wp
      go_simp
      exact OwnBy.mk _ _ _ rfl (rfl) (⟨rfl, rfl⟩) (hH)
    | 19, _ =>
      obtain rfl := Option.some.inj ho
      have e17 : f 17 = .bool false := (hd ⟨17, .guard⟩ (by simp) rfl).2.1
      clear hd ho
      have hH : Holds w2 (hs ++ ([] ++ R)) w1 := hH
      subst hI
      unfold wpOp
      simp only [e17]
      refine Or.inl ?_
      unfold Oper.wp
      go_simp
      exact OwnBy.mk _ _ _ rfl (rfl) (⟨rfl, rfl⟩) (hH)
    | 20, _ =>
      obtain rfl := Option.some.inj ho
      have e18 : f 18 = .string XB := (hd ⟨18, .data⟩ (by simp) rfl).2.1
      have e19 : f 19 = .int .i64 (TB.size : Int) := (hd ⟨19, .data⟩ (by simp) rfl).2.1
      have e17 : f 17 = .bool false := (hd ⟨17, .guard⟩ (by simp) rfl).2.1
      clear hd ho
      have hH : Holds w2 (hs ++ ([] ++ R)) w1 := hH
      subst hI
      unfold wpOp
      simp only [e18, e19, e17]
      refine Or.inl ?_
      unfold Oper.wp
      have h1 : TB.size < XB.size := by have := HSX.out; omega
      have h2 : (TB.size : Int) < (XB.size : Int) := by omega
      have h3 := H84.out h1
      go_simp
      exact OwnBy.mk _ _ _ rfl (rfl) (⟨rfl, rfl⟩) (hH)
    | 21, _ =>
      obtain rfl := Option.some.inj ho
      have e20 : f 20 = .int .u8 84 := (hd ⟨20, .data⟩ (by simp) rfl).2.1
      have e17 : f 17 = .bool false := (hd ⟨17, .guard⟩ (by simp) rfl).2.1
      clear hd ho
      have hH : Holds w2 (hs ++ ([] ++ R)) w1 := hH
      subst hI
      unfold wpOp
      simp only [e20, e17]
      refine Or.inl ?_
      unfold Oper.wp
      go_simp
      exact OwnBy.mk _ _ _ rfl (rfl) (⟨rfl, rfl⟩) (hH)
    | 22, _ =>
      obtain rfl := Option.some.inj ho
      have e17 : f 17 = .bool false := (hd ⟨17, .data⟩ (by simp) rfl).2.1
      have e21 : f 21 = .bool false := (hd ⟨21, .data⟩ (by simp) rfl).2.1
      clear hd ho
      have hH : Holds w2 (hs ++ ([] ++ R)) w1 := hH
      subst hI
      unfold wpOp
      refine Or.inl ?_
      simp only [e17, e21]
      unfold Oper.wp
      go_simp
      exact OwnBy.mk _ _ _ rfl (rfl) (⟨rfl, rfl⟩) (hH)
    | 23, _ =>
      obtain rfl := Option.some.inj ho
      have e22 : f 22 = .bool false := (hd ⟨22, .data⟩ (by simp) rfl).2.1
      clear hd ho
      have hH : Holds w2 (hs ++ ([] ++ R)) w1 := hH
      subst hI
      unfold wpOp
      refine Or.inl ?_
      simp only [e22]
      unfold Oper.wp
      go_simp
      exact OwnBy.mk _ _ _ rfl (rfl) (⟨rfl, rfl⟩) (hH)
    | 24, _ =>
      obtain rfl := Option.some.inj ho
      have e23 : f 23 = .bool false := (hd ⟨23, .guard⟩ (by simp) rfl).2.1
      clear hd ho
      have hH : Holds w2 (hs ++ ([] ++ R)) w1 := hH
      subst hI
      unfold wpOp
      simp only [e23]
      refine Or.inl ?_
      unfold Oper.wp
      go_simp
      exact OwnBy.mk _ _ _ rfl (rfl) (⟨rfl, rfl⟩) (hH)
    | 25, _ =>
      obtain rfl := Option.some.inj ho
      have e23 : f 23 = .bool false := (hd ⟨23, .guard⟩ (by simp) rfl).2.1
      clear hd ho
      have hH : Holds w2 (hs ++ ([] ++ R)) w1 := hH
      subst hI
      unfold wpOp
      simp only [e23]
      refine Or.inl ?_
      unfold Oper.wp
      go_simp
      exact OwnBy.mk _ _ _ rfl (rfl) (⟨rfl, rfl⟩) (hH)
    | 26, _ =>
      obtain rfl := Option.some.inj ho
      have e25 : f 25 = .int .i64 (TB.size : Int) := (hd ⟨25, .data⟩ (by simp) rfl).2.1
      have e23 : f 23 = .bool false := (hd ⟨23, .guard⟩ (by simp) rfl).2.1
      clear hd ho
      have hH : Holds w2 (hs ++ ([] ++ R)) w1 := hH
      subst hI
      unfold wpOp
      simp only [e25, e23]
      refine Or.inl ?_
      unfold Oper.wp
      have hw : IntKind.i64.wrap ((TB.size : Int) + 9) = (TB.size : Int) + 9 := by have := HST.out; rw [IntKind.wrap_i64]; omega
      go_simp
      exact OwnBy.mk _ _ _ rfl (rfl) (⟨rfl, rfl⟩) (hH)
    | 27, _ =>
      obtain rfl := Option.some.inj ho
      have e24 : f 24 = .string XB := (hd ⟨24, .data⟩ (by simp) rfl).2.1
      have e26 : f 26 = .int .i64 ((TB.size : Int) + 9) := (hd ⟨26, .data⟩ (by simp) rfl).2.1
      have e23 : f 23 = .bool false := (hd ⟨23, .guard⟩ (by simp) rfl).2.1
      clear hd ho
      have hH : Holds w2 (hs ++ ([] ++ R)) w1 := hH
      subst hI
      unfold wpOp
      simp only [e24, e26, e23]
      refine Or.inl ?_
      unfold Oper.wp
      have h0 : (0 : Int) ≤ (TB.size : Int) + 9 := by omega
      have h1 : TB.size + 9 < XB.size := by have := HSX.out; omega
      have h2 : (TB.size : Int) + 9 < (XB.size : Int) := by omega
      have h4 : ((TB.size : Int) + 9).toNat = TB.size + 9 := by omega
      have h3 := H90.out h1
      go_simp
      exact OwnBy.mk _ _ _ rfl (rfl) (⟨rfl, rfl⟩) (hH)
    | 28, _ =>
      obtain rfl := Option.some.inj ho
      have e27 : f 27 = .int .u8 90 := (hd ⟨27, .data⟩ (by simp) rfl).2.1
      have e23 : f 23 = .bool false := (hd ⟨23, .guard⟩ (by simp) rfl).2.1
      clear hd ho
      have hH : Holds w2 (hs ++ ([] ++ R)) w1 := hH
      subst hI
      unfold wpOp
      simp only [e27, e23]
      refine Or.inl ?_
      unfold Oper.wp
      go_simp
      exact OwnBy.mk _ _ _ rfl (rfl) (⟨rfl, rfl⟩) (hH)
    | 29, _ =>
      obtain rfl := Option.some.inj ho
      have e23 : f 23 = .bool false := (hd ⟨23, .data⟩ (by simp) rfl).2.1
      have e28 : f 28 = .bool false := (hd ⟨28, .data⟩ (by simp) rfl).2.1
      clear hd ho
      have hH : Holds w2 (hs ++ ([] ++ R)) w1 := hH
      subst hI
      unfold wpOp
      refine Or.inl ?_
      simp only [e23, e28]
      unfold Oper.wp
      go_simp
      exact OwnBy.mk _ _ _ rfl (rfl) (⟨rfl, rfl⟩) (hH)
    | _ + 30, h30 => exact absurd h30 (by omega)
  · intro Ls f Hf hs w1 hI hL hV hH
    have e0 : f 0 = .int .i64 0 := (hV 0 (by decide)).1
    have e1 : f 1 = .bool false := (hV 1 (by decide)).1
    have e2 : f 2 = .bool false := (hV 2 (by decide)).1
    have e3 : f 3 = .string XB := (hV 3 (by decide)).1
    have e4 : f 4 = .int .i64 XB.size := (hV 4 (by decide)).1
    have e5 : f 5 = .int .i64 (TB.size : Int) := (hV 5 (by decide)).1
    have e6 : f 6 = .int .i64 ((TB.size : Int) + 10) := (hV 6 (by decide)).1
    have e7 : f 7 = .bool false := (hV 7 (by decide)).1
    have e8 : f 8 = .bool false := (hV 8 (by decide)).1
    have e9 : f 9 = .bool false := (hV 9 (by decide)).1
    have e10 : f 10 = .string XB := (hV 10 (by decide)).1
    have e11 : f 11 = .int .i64 (TB.size : Int) := (hV 11 (by decide)).1
    have e12 : f 12 = .string TB := (hV 12 (by decide)).1
    have e13 : f 13 = Value.agg (dC y m d) := (hV 13 (by decide)).1
    have e14 : f 14 = .string TB := (hV 14 (by decide)).1
    have e15 : f 15 = .bool false := (hV 15 (by decide)).1
    have e16 : f 16 = .bool false := (hV 16 (by decide)).1
    have e17 : f 17 = .bool false := (hV 17 (by decide)).1
    have e18 : f 18 = .string XB := (hV 18 (by decide)).1
    have e19 : f 19 = .int .i64 (TB.size : Int) := (hV 19 (by decide)).1
    have e20 : f 20 = .int .u8 84 := (hV 20 (by decide)).1
    have e21 : f 21 = .bool false := (hV 21 (by decide)).1
    have e22 : f 22 = .bool false := (hV 22 (by decide)).1
    have e23 : f 23 = .bool false := (hV 23 (by decide)).1
    have e24 : f 24 = .string XB := (hV 24 (by decide)).1
    have e25 : f 25 = .int .i64 (TB.size : Int) := (hV 25 (by decide)).1
    have e26 : f 26 = .int .i64 ((TB.size : Int) + 9) := (hV 26 (by decide)).1
    have e27 : f 27 = .int .u8 90 := (hV 27 (by decide)).1
    have e28 : f 28 = .bool false := (hV 28 (by decide)).1
    have e29 : f 29 = .bool false := (hV 29 (by decide)).1
    clear hV
    have hH : Holds w2 (hs ++ []) w1 := hH
    simp only [fill, List.take_succ_cons, List.take_zero, List.drop_succ_cons, List.drop_zero, Act.put, List.setIfInBounds_toArray, List.set_cons_zero, List.set_cons_succ, e0, e1, e2, e3, e4, e5, e6, e7, e8, e9, e10, e11, e12, e13, e14, e15, e16, e17, e18, e19, e20, e21, e22, e23, e24, e25, e26, e27, e28, e29]
    subst hI
    have K9 := Lib.hid (show Holds w2 [(b, Obj.cells (dC y m d) 37)] w1 from by simpa using hH)
    clear hH hL
    have q0 : w1.cell? ⟨b, 0, none⟩ = some (.int .i64 y) := K9.out.cell 0
    by_cases hye : YB.toList.isEmpty = true
    · go_wp2_with fail
      go_ret
      exact ⟨rfl, H2.out.trans (K9.out.below.mono H2.out.size)⟩
    have hye : YB.toList.isEmpty = false := by simpa using hye
    rcases HY2.out with h | h | ⟨h, h2⟩
    · rw [h] at hye; cases hye
    · go_wp2_with fail
      go_ret
      exact ⟨rfl, H2.out.trans (K9.out.below.mono H2.out.size)⟩
    · by_cases hy : y < 0
      · go_wp2_with fail
        go_ret
        exact ⟨rfl, H2.out.trans (K9.out.below.mono H2.out.size)⟩
      · have h3 : ((YB.size : Int) == (XB.size : Int)) = true := by rw [beq_iff_eq]; omega
        go_wp2_with fail
        go_ret
        exact ⟨rfl, H2.out.trans (K9.out.below.mono H2.out.size)⟩
end Go.Proofs.YthelnkmjhchmnaaDoor.Tl
