/- A chain's Trim: a contract for every world. Conditions: each theorem's own. -/
import Derived.Test.YtgkigcobaimccaaMf
namespace Go.Proofs.Ytgkigcobaimccaa
open Go.RowKit Go.Proofs.Ytgkigcobaimccaa.Sp
set_option linter.unusedVariables false
set_option linter.unusedSimpArgs false
def trimN (l : List Ver) (t n : Int) : Nat := match verAt l t n with
  | some y => if y.gone then untilN l t n else untilN l t n - 1
  | none => 0
theorem sub_reads {w0 w : World} {F hr : Hp} {L : List Ver} {gL c k : Nat} (hk : k ≤ L.length) (hc : L.length ≤ c) (hcs : ∀ j u, (verV L)[j]? = some u → w.cell? ⟨gL, j, none⟩ = some u) :
    ∃ A, (if c = k then some (⟨gL, 0, none⟩ : Addr) else some ⟨gL, k * 4, none⟩) = some A ∧ Reads w (some A) (L.drop k).length 4 (verV (L.drop k)) := by
  by_cases h : c = k
  · refine ⟨⟨gL, 0, none⟩, by simp [h], by rw [verV_len], (fun h => by cases h), fun ad _ j u hj => ?_⟩
    rw [List.drop_of_length_le (by omega)] at hj
    simp [verV] at hj
  · refine ⟨⟨gL, k * 4, none⟩, by simp [h], by rw [verV_len], (fun h => by cases h), fun ad had j u hj => ?_⟩
    injection had with had
    subst had
    have e : (⟨gL, k * 4, none⟩ : Addr).add j = ⟨gL, k * 4 + j, none⟩ := by simp [Addr.add]
    rw [e]
    refine hcs _ _ ?_
    rw [← verV_drop, List.getElem?_drop] at hj
    exact hj
theorem RowB.two {e : TypeId} {sz n : Nat} {v : Value} {xs : List Value} {h : Hp} (R : RowB e sz v n xs h) : (v = .slice none 0 0 ∧ n = 0 ∧ h = []) ∨ ∃ gL c, v = .slice (some ⟨gL, 0, none⟩) n c ∧ n ≤ c ∧ ∀ w0 F w, Holds w0 (h ++ F) w → ∀ j u, xs[j]? = some u → w.cell? ⟨gL, j, none⟩ = some u := by
  have R' := R
  obtain ⟨h1, h | ⟨g, cap, cur, rfl, rfl, h2, h3, h4, h5⟩⟩ := R
  · exact .inl h
  · refine .inr ⟨g, cap, rfl, h2, fun w0 F w H j u hj => ?_⟩
    obtain ⟨A, c, hv, _, _, hr⟩ := R'.reads H
    injection hv with hv
    subst hv
    have := hr.2.2 _ rfl j u hj
    have e : (⟨g, 0, none⟩ : Addr).add j = ⟨g, j, none⟩ := by simp [Addr.add]; omega
    rwa [e] at this
set_option maxRecDepth 100000 in
set_option maxHeartbeats 4000000 in
theorem trim_N (g : Nat) (t n : Int) (F : Hp) (w0 w : World) (hI : IsC g ([] : List Ver) ((g, chO (.slice none 0 0)) :: [])) (H : Holds w0 (((g, chO (.slice none 0 0)) :: []) ++ F) w)  :
    Calls Try.prog 18 #[.pointer (some ⟨g, 0, none⟩), .agg (sC t n)] w fun e w' => e = .returned (.int .i64 (trimN ([] : List Ver) t n)) ∧ ∃ h', IsC g (([] : List Ver).drop (trimN ([] : List Ver) t n)) h' ∧ Holds w0 (h' ++ F) w' := by
  have H0 := H.alloc (.cells (sC t n) 24)
  have q0 : (w.alloc (.cells (sC t n) 24)).cell? ⟨w.heap.size, 0, none⟩ = some (.int .i64 t) := H0.cell 0
  have q1 : (w.alloc (.cells (sC t n) 24)).cell? ⟨w.heap.size, 1, none⟩ = some (.int .u8 n) := H0.cell 1
  have HU := Lib.hid (until_calls g ([] : List Ver) t n _ ((w.heap.size, .cells (sC t n) 24) :: F) w0 (w.alloc (.cells (sC t n) 24)) hI (H0.perm (by classical rw [List.perm_iff_count]; intro a; simp only [List.count_append, List.count_cons, List.count_nil]; omega)))
  have hul := until_le ([] : List Ver) t n
  have HH := Lib.hid H0
  have hU : untilN [] t n = 0 := by simpa using hul
  have hq : trimN ([] : List Ver) t n = 0 := by
    unfold trimN verAt
    rw [hU]
    rfl
  rw [hq]
  rw [hU] at HU
  clear hq hU hI H H0 hul
  go_enter Try.func18, Try.ntmps18
  go_wp2_with fail
  refine HU.out.mono ?_
  rintro e w1 ⟨rfl, hb⟩
  have H1 := HH.out.grow hb
  have c0 : w1.cell? ⟨g, 0, none⟩ = some (.slice none 0 0) := H1.tail.cell 0
  have HH1 := Lib.hid H1
  clear hb q0 q1 H1
  go_wp2_with fail
  refine (vclone_calls none 0 [] w0 w1 _ (fun _ => rfl) ⟨rfl, fun _ => rfl, fun _ h => by cases h⟩ (by simp) HH1.out).mono ?_
  rintro e w2 ⟨v, rfl, hv, hRv, hH⟩
  obtain ⟨A7, c7, rfl, _, _⟩ := RowB.form hRv
  have h2 : Holds w0 ((g, chO (.slice none 0 0)) :: (hv ++ F)) w2 := (hH.perm (k := ((w.heap.size, .cells (sC t n) 24) :: []) ++ ((g, chO (.slice none 0 0)) :: (hv ++ F))) (by classical rw [List.perm_iff_count]; intro a; simp only [List.count_append, List.count_cons, List.count_nil]; omega)).right
  have c2 : w2.cell? ⟨g, 0, none⟩ = some (.slice none 0 0) := h2.cell 0
  have f2 : w2.frozen? ⟨g, 0, none⟩ = false := h2.froz 0
  have HN := Lib.hid (show Holds w0 ((g, chO (.slice A7 ([] : List Ver).length c7)) :: (hv ++ F)) _ from h2.set 0 (.slice A7 ([] : List Ver).length c7))
  have HRV := Lib.hid hRv
  clear hH h2 hRv
  go_wp2_with fail
  go_ret
  exact ⟨rfl, _, ⟨_, hv, HRV.out, rfl, List.Pairwise.nil, by simp⟩, HN.out⟩
set_option maxRecDepth 100000 in
set_option maxHeartbeats 4000000 in
theorem trim_A (g : Nat) (l : List Ver) (gL c : Nat) (hr : Hp) (t n : Int) (F : Hp) (w0 w : World) (hlc : l.length ≤ c) (hcs : ∀ w0 F w, Holds w0 (hr ++ F) w → ∀ j u, (verV l)[j]? = some u → w.cell? ⟨gL, j, none⟩ = some u) (hri : Rise l) (hl : l.length ≤ 50) (hI : IsC g l ((g, chO (.slice (some ⟨gL, 0, none⟩) l.length c)) :: hr)) (H : Holds w0 (((g, chO (.slice (some ⟨gL, 0, none⟩) l.length c)) :: hr) ++ F) w) (hU : untilN l t n = 0) :
    Calls Try.prog 18 #[.pointer (some ⟨g, 0, none⟩), .agg (sC t n)] w fun e w' => e = .returned (.int .i64 (trimN l t n)) ∧ ∃ h', IsC g (l.drop (trimN l t n)) h' ∧ Holds w0 (h' ++ F) w' := by
  have H0 := H.alloc (.cells (sC t n) 24)
  have q0 : (w.alloc (.cells (sC t n) 24)).cell? ⟨w.heap.size, 0, none⟩ = some (.int .i64 t) := H0.cell 0
  have q1 : (w.alloc (.cells (sC t n) 24)).cell? ⟨w.heap.size, 1, none⟩ = some (.int .u8 n) := H0.cell 1
  have HU := Lib.hid (until_calls g l t n _ ((w.heap.size, .cells (sC t n) 24) :: F) w0 (w.alloc (.cells (sC t n) 24)) hI (H0.perm (by classical rw [List.perm_iff_count]; intro a; simp only [List.count_append, List.count_cons, List.count_nil]; omega)))
  have hul := until_le l t n
  have HH := Lib.hid H0
  have hq : trimN l t n = 0 := by
    unfold trimN verAt
    rw [hU]
    rfl
  rw [hq]
  rw [hU] at HU
  have HCS := Lib.hid hcs
  have HRI := Lib.hid (show Rise (l.drop 0) from hri.sublist (List.drop_sublist _ _))
  have hkl : 0 ≤ l.length := by omega
  clear hq hU hI H H0 hcs hri
  go_enter Try.func18, Try.ntmps18
  go_wp2_with fail
  refine HU.out.mono ?_
  rintro e w1 ⟨rfl, hb⟩
  have H1 := HH.out.grow hb
  have c0 : w1.cell? ⟨g, 0, none⟩ = some (.slice (some ⟨gL, 0, none⟩) l.length c) := H1.tail.cell 0
  have hP1 : Holds w0 (hr ++ ((w.heap.size, .cells (sC t n) 24) :: (g, chO (.slice (some ⟨gL, 0, none⟩) l.length c)) :: F)) w1 := H1.perm (by classical rw [List.perm_iff_count]; intro a; simp only [List.count_append, List.count_cons, List.count_nil]; omega)
  obtain ⟨A', hA', hrd⟩ := sub_reads (w0 := w0) (F := F) (hr := hr) hkl hlc (HCS.out w0 _ w1 hP1)
  obtain rfl : (⟨gL, 0, none⟩ : Addr) = A' := by split at hA' <;> (injection hA')
  have HRD := Lib.hid hrd
  have HH1 := Lib.hid H1
  clear hb q0 q1 H1 hrd hP1
  go_wp2_with fail
  have HCL := vclone_calls (some _) (c - 0) (l.drop 0) w0 w1 _ (fun h => by cases h) HRD.out (by simp; omega) HH1.out
  simp only [List.drop_zero, Nat.sub_zero] at HCL
  refine HCL.mono ?_
  rintro e w2 ⟨v, rfl, hv, hRv, hH⟩
  clear HCL
  obtain ⟨A7, c7, rfl, _, _⟩ := RowB.form hRv
  have h2 : Holds w0 ((g, chO (.slice (some ⟨gL, 0, none⟩) l.length c)) :: (hv ++ F)) w2 := (hH.perm (k := ((w.heap.size, .cells (sC t n) 24) :: hr) ++ ((g, chO (.slice (some ⟨gL, 0, none⟩) l.length c)) :: (hv ++ F))) (by classical rw [List.perm_iff_count]; intro a; simp only [List.count_append, List.count_cons, List.count_nil]; omega)).right
  have c2 : w2.cell? ⟨g, 0, none⟩ = some (.slice (some ⟨gL, 0, none⟩) l.length c) := h2.cell 0
  have f2 : w2.frozen? ⟨g, 0, none⟩ = false := h2.froz 0
  have HN := Lib.hid (show Holds w0 ((g, chO (.slice A7 l.length c7)) :: (hv ++ F)) _ from h2.set 0 (.slice A7 l.length c7))
  have HRV := Lib.hid hRv
  clear hH h2 hRv
  go_wp2_with fail
  go_ret
  exact ⟨rfl, _, ⟨_, hv, (by rw [List.drop_zero]; exact HRV.out), rfl, HRI.out, by simp; omega⟩, HN.out⟩
set_option maxRecDepth 100000 in
set_option maxHeartbeats 4000000 in
theorem trim_B (g : Nat) (l : List Ver) (gL c : Nat) (hr : Hp) (t n : Int) (F : Hp) (w0 w : World) (hlc : l.length ≤ c) (hcs : ∀ w0 F w, Holds w0 (hr ++ F) w → ∀ j u, (verV l)[j]? = some u → w.cell? ⟨gL, j, none⟩ = some u) (hri : Rise l) (hl : l.length ≤ 50) (hI : IsC g l ((g, chO (.slice (some ⟨gL, 0, none⟩) l.length c)) :: hr)) (H : Holds w0 (((g, chO (.slice (some ⟨gL, 0, none⟩) l.length c)) :: hr) ++ F) w) (y : Ver) (U : Nat) (hU : untilN l t n = U + 1) (hy : l[U]? = some y) (hg : y.gone = true) :
    Calls Try.prog 18 #[.pointer (some ⟨g, 0, none⟩), .agg (sC t n)] w fun e w' => e = .returned (.int .i64 (trimN l t n)) ∧ ∃ h', IsC g (l.drop (trimN l t n)) h' ∧ Holds w0 (h' ++ F) w' := by
  have H0 := H.alloc (.cells (sC t n) 24)
  have q0 : (w.alloc (.cells (sC t n) 24)).cell? ⟨w.heap.size, 0, none⟩ = some (.int .i64 t) := H0.cell 0
  have q1 : (w.alloc (.cells (sC t n) 24)).cell? ⟨w.heap.size, 1, none⟩ = some (.int .u8 n) := H0.cell 1
  have HU := Lib.hid (until_calls g l t n _ ((w.heap.size, .cells (sC t n) 24) :: F) w0 (w.alloc (.cells (sC t n) 24)) hI (H0.perm (by classical rw [List.perm_iff_count]; intro a; simp only [List.count_append, List.count_cons, List.count_nil]; omega)))
  have hul := until_le l t n
  have HH := Lib.hid H0
  have hq : trimN l t n = (U + 1) := by
    unfold trimN verAt
    rw [hU]
    simp [hy, hg]
  rw [hq]
  rw [hU] at HU
  have hUl : U < l.length := (List.getElem?_eq_some_iff.mp hy).1
  have HGC := Lib.hid (verV_get l U y hy 3 (by omega))
  have HCS := Lib.hid hcs
  have HRI := Lib.hid (show Rise (l.drop (U + 1)) from hri.sublist (List.drop_sublist _ _))
  have hkl : (U + 1) ≤ l.length := by omega
  have hU1 : ((U + 1 : Nat) : Int) = (U : Int) + 1 := by omega
  have hUli : (U : Int) < (l.length : Int) := by omega
  have hUll : (U : Int) + 1 ≤ (l.length : Int) := by omega
  clear hq hU hI H H0 hcs hri hy
  go_enter Try.func18, Try.ntmps18
  go_wp2_with fail
  refine HU.out.mono ?_
  rintro e w1 ⟨rfl, hb⟩
  have H1 := HH.out.grow hb
  have c0 : w1.cell? ⟨g, 0, none⟩ = some (.slice (some ⟨gL, 0, none⟩) l.length c) := H1.tail.cell 0
  have hP1 : Holds w0 (hr ++ ((w.heap.size, .cells (sC t n) 24) :: (g, chO (.slice (some ⟨gL, 0, none⟩) l.length c)) :: F)) w1 := H1.perm (by classical rw [List.perm_iff_count]; intro a; simp only [List.count_append, List.count_cons, List.count_nil]; omega)
  have p3 : w1.cell? ⟨gL, U * 4 + 3, none⟩ = some (.bool y.gone) := HCS.out w0 _ w1 hP1 _ _ HGC.out
  rw [hg] at p3
  obtain ⟨A', hA', hrd⟩ := sub_reads (w0 := w0) (F := F) (hr := hr) hkl hlc (HCS.out w0 _ w1 hP1)
  have HRD := Lib.hid hrd
  have HH1 := Lib.hid H1
  clear hb q0 q1 H1 hrd hP1
  go_wp2_with fail
  have HCL := vclone_calls (some _) (c - (U + 1)) (l.drop (U + 1)) w0 w1 _ (fun h => by cases h) HRD.out (by simp; omega) HH1.out
  simp only [List.length_drop] at HCL
  refine HCL.mono ?_
  rintro e w2 ⟨v, rfl, hv, hRv, hH⟩
  clear HCL
  obtain ⟨A7, c7, rfl, _, _⟩ := RowB.form hRv
  have h2 : Holds w0 ((g, chO (.slice (some ⟨gL, 0, none⟩) l.length c)) :: (hv ++ F)) w2 := (hH.perm (k := ((w.heap.size, .cells (sC t n) 24) :: hr) ++ ((g, chO (.slice (some ⟨gL, 0, none⟩) l.length c)) :: (hv ++ F))) (by classical rw [List.perm_iff_count]; intro a; simp only [List.count_append, List.count_cons, List.count_nil]; omega)).right
  have c2 : w2.cell? ⟨g, 0, none⟩ = some (.slice (some ⟨gL, 0, none⟩) l.length c) := h2.cell 0
  have f2 : w2.frozen? ⟨g, 0, none⟩ = false := h2.froz 0
  have HN := Lib.hid (show Holds w0 ((g, chO (.slice A7 (l.length - (U + 1)) c7)) :: (hv ++ F)) _ from h2.set 0 (.slice A7 (l.length - (U + 1)) c7))
  have HRV := Lib.hid hRv
  clear hH h2 hRv
  go_wp2_with fail
  go_ret
  exact ⟨rfl, _, ⟨_, hv, (by rw [List.length_drop]; exact HRV.out), rfl, HRI.out, by simp; omega⟩, HN.out⟩
set_option maxRecDepth 100000 in
set_option maxHeartbeats 4000000 in
theorem trim_C (g : Nat) (l : List Ver) (gL c : Nat) (hr : Hp) (t n : Int) (F : Hp) (w0 w : World) (hlc : l.length ≤ c) (hcs : ∀ w0 F w, Holds w0 (hr ++ F) w → ∀ j u, (verV l)[j]? = some u → w.cell? ⟨gL, j, none⟩ = some u) (hri : Rise l) (hl : l.length ≤ 50) (hI : IsC g l ((g, chO (.slice (some ⟨gL, 0, none⟩) l.length c)) :: hr)) (H : Holds w0 (((g, chO (.slice (some ⟨gL, 0, none⟩) l.length c)) :: hr) ++ F) w) (y : Ver) (U : Nat) (hU : untilN l t n = U + 1) (hy : l[U]? = some y) (hg : y.gone = false) :
    Calls Try.prog 18 #[.pointer (some ⟨g, 0, none⟩), .agg (sC t n)] w fun e w' => e = .returned (.int .i64 (trimN l t n)) ∧ ∃ h', IsC g (l.drop (trimN l t n)) h' ∧ Holds w0 (h' ++ F) w' := by
  have H0 := H.alloc (.cells (sC t n) 24)
  have q0 : (w.alloc (.cells (sC t n) 24)).cell? ⟨w.heap.size, 0, none⟩ = some (.int .i64 t) := H0.cell 0
  have q1 : (w.alloc (.cells (sC t n) 24)).cell? ⟨w.heap.size, 1, none⟩ = some (.int .u8 n) := H0.cell 1
  have HU := Lib.hid (until_calls g l t n _ ((w.heap.size, .cells (sC t n) 24) :: F) w0 (w.alloc (.cells (sC t n) 24)) hI (H0.perm (by classical rw [List.perm_iff_count]; intro a; simp only [List.count_append, List.count_cons, List.count_nil]; omega)))
  have hul := until_le l t n
  have HH := Lib.hid H0
  have hq : trimN l t n = U := by
    unfold trimN verAt
    rw [hU]
    simp [hy, hg]
  rw [hq]
  rw [hU] at HU
  have hUl : U < l.length := (List.getElem?_eq_some_iff.mp hy).1
  have HGC := Lib.hid (verV_get l U y hy 3 (by omega))
  have HCS := Lib.hid hcs
  have HRI := Lib.hid (show Rise (l.drop U) from hri.sublist (List.drop_sublist _ _))
  have hkl : U ≤ l.length := by omega
  have hU1 : ((U + 1 : Nat) : Int) = (U : Int) + 1 := by omega
  have hUli : (U : Int) < (l.length : Int) := by omega
  have hUll : (U : Int) + 1 ≤ (l.length : Int) := by omega
  clear hq hU hI H H0 hcs hri hy
  go_enter Try.func18, Try.ntmps18
  go_wp2_with fail
  refine HU.out.mono ?_
  rintro e w1 ⟨rfl, hb⟩
  have H1 := HH.out.grow hb
  have c0 : w1.cell? ⟨g, 0, none⟩ = some (.slice (some ⟨gL, 0, none⟩) l.length c) := H1.tail.cell 0
  have hP1 : Holds w0 (hr ++ ((w.heap.size, .cells (sC t n) 24) :: (g, chO (.slice (some ⟨gL, 0, none⟩) l.length c)) :: F)) w1 := H1.perm (by classical rw [List.perm_iff_count]; intro a; simp only [List.count_append, List.count_cons, List.count_nil]; omega)
  have p3 : w1.cell? ⟨gL, U * 4 + 3, none⟩ = some (.bool y.gone) := HCS.out w0 _ w1 hP1 _ _ HGC.out
  rw [hg] at p3
  obtain ⟨A', hA', hrd⟩ := sub_reads (w0 := w0) (F := F) (hr := hr) hkl hlc (HCS.out w0 _ w1 hP1)
  rw [if_neg (by omega)] at hA'
  obtain rfl := Option.some.inj hA'
  have HRD := Lib.hid hrd
  have HH1 := Lib.hid H1
  clear hb q0 q1 H1 hrd hP1
  go_wp2_with fail
  have HCL := vclone_calls (some _) (c - U) (l.drop U) w0 w1 _ (fun h => by cases h) HRD.out (by simp; omega) HH1.out
  simp only [List.length_drop] at HCL
  refine HCL.mono ?_
  rintro e w2 ⟨v, rfl, hv, hRv, hH⟩
  clear HCL
  obtain ⟨A7, c7, rfl, _, _⟩ := RowB.form hRv
  have h2 : Holds w0 ((g, chO (.slice (some ⟨gL, 0, none⟩) l.length c)) :: (hv ++ F)) w2 := (hH.perm (k := ((w.heap.size, .cells (sC t n) 24) :: hr) ++ ((g, chO (.slice (some ⟨gL, 0, none⟩) l.length c)) :: (hv ++ F))) (by classical rw [List.perm_iff_count]; intro a; simp only [List.count_append, List.count_cons, List.count_nil]; omega)).right
  have c2 : w2.cell? ⟨g, 0, none⟩ = some (.slice (some ⟨gL, 0, none⟩) l.length c) := h2.cell 0
  have f2 : w2.frozen? ⟨g, 0, none⟩ = false := h2.froz 0
  have HN := Lib.hid (show Holds w0 ((g, chO (.slice A7 (l.length - U) c7)) :: (hv ++ F)) _ from h2.set 0 (.slice A7 (l.length - U) c7))
  have HRV := Lib.hid hRv
  clear hH h2 hRv
  go_wp2_with fail
  go_ret
  exact ⟨rfl, _, ⟨_, hv, (by rw [List.length_drop]; exact HRV.out), rfl, HRI.out, by simp; omega⟩, HN.out⟩
theorem trim_calls (g : Nat) (l : List Ver) (t n : Int) (h F : Hp) (w0 w : World) (hI : IsC g l h) (H : Holds w0 (h ++ F) w) :
    Calls Try.prog 18 #[.pointer (some ⟨g, 0, none⟩), .agg (sC t n)] w fun e w' => e = .returned (.int .i64 (trimN l t n)) ∧ ∃ h', IsC g (l.drop (trimN l t n)) h' ∧ Holds w0 (h' ++ F) w' := by
  have hI0 := hI
  obtain ⟨v, hr, hR, rfl, hri, hl⟩ := hI
  rcases RowB.two hR with ⟨rfl, h0, rfl⟩ | ⟨gL, c, rfl, hlc, hcs⟩
  · obtain rfl : l = [] := List.eq_nil_of_length_eq_zero h0
    exact trim_N g t n F w0 w hI0 H
  · cases hU : untilN l t n with
    | zero => exact trim_A g l gL c hr t n F w0 w hlc hcs hri hl hI0 H hU
    | succ U =>
      have hul := until_le l t n
      obtain ⟨y, hy⟩ : ∃ y, l[U]? = some y := ⟨_, List.getElem?_eq_getElem (by omega)⟩
      cases hg : y.gone
      · exact trim_C g l gL c hr t n F w0 w hlc hcs hri hl hI0 H y U hU hy hg
      · exact trim_B g l gL c hr t n F w0 w hlc hcs hri hl hI0 H y U hU hy hg
end Go.Proofs.Ytgkigcobaimccaa
