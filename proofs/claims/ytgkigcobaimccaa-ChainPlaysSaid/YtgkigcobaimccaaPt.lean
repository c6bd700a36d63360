/- A chain's Put: a contract for every world. Conditions: each theorem's own. -/
import Derived.Test.YtgkigcobaimccaaIn
namespace Go.Proofs.Ytgkigcobaimccaa
open Go.RowKit Go.Proofs.Ytgkigcobaimccaa.Sp
set_option linter.unusedVariables false
set_option linter.unusedSimpArgs false
def PuI (W : World) (ad : Addr) (v : Value) (Ls : Nat → Bool) (w' : World) : Prop :=
  (Ls 8 = true → Ls 4 = true ∧ Ls 7 = true) ∧ (Ls 7 = true → Ls 6 = true) ∧ (Ls 8 = false → Below W.heap.size W w') ∧ (Ls 7 = false → w'.heap.size = W.heap.size) ∧ w'.cell? ad = some v
def PuS (x : Ver) (W : World) (k : Nat) (w1 w2 : World) : Prop := (w1.heap[W.heap.size]? = some (.cells (vC x) 30 (0, 0)) → w2.heap[W.heap.size]? = some (.cells (vC x) 30 (0, 0))) ∧ (k ≠ 8 → Below w1.heap.size w1 w2)
theorem PuS.below {x : Ver} {k : Nat} {W w1 w2 : World} (h : Below w1.heap.size w1 w2) : PuS x W k w1 w2 := ⟨fun e => (h.block _ (lt_of_block e)).trans e, fun _ => h⟩
def Pu8 (w0 : World) (rest : Hp) (n : Nat) (xs : List Value) (w : World) (v : Value) : Prop := ∃ h', RowB 30 4 v n xs h' ∧ Holds w0 (h' ++ rest) w
theorem cell_grow {w w' : World} {ad : Addr} {v : Value} (h : w.cell? ad = some v) (hb : Below w.heap.size w w') : w'.cell? ad = some v := (hb.cell (World.block_lt_of_cell? w _ h)).trans h
def verOk (v : Ver) : Bool := gd v.t && decide (v.val.size ≤ 200) && !(v.gone && decide (v.val.size ≠ 0))
set_option maxRecDepth 100000 in
set_option maxHeartbeats 4000000 in
theorem put_A (g : Nat) (l : List Ver) (x : Ver) (h F : Hp) (w0 w : World) (hI : IsC g l h) (H : Holds w0 (h ++ F) w) (hg : gd x.t = false) :
    Calls Try.prog 11 #[.pointer (some ⟨g, 0, none⟩), .agg (vC x)] w fun e w' => e = .returned (.int .i64 (putM l x).1) ∧ ∃ h', IsC g (putM l x).2 h' ∧ Holds w0 (h' ++ F) w' := by
  obtain ⟨v, hr, hR, rfl, hri, hl⟩ := hI
  obtain ⟨A, c, rfl, hnc, _⟩ := RowB.form hR
  have H0 := H.alloc (.cells (vC x) 30)
  have q0 : (w.alloc (.cells (vC x) 30)).cell? ⟨w.heap.size, 0, none⟩ = some (.int .i64 x.t) := H0.cell 0
  have q1 : (w.alloc (.cells (vC x) 30)).cell? ⟨w.heap.size, 1, none⟩ = some (.int .u8 x.n) := H0.cell 1
  have q2 : (w.alloc (.cells (vC x) 30)).cell? ⟨w.heap.size, 2, none⟩ = some (.string x.val) := H0.cell 2
  have q3 : (w.alloc (.cells (vC x) 30)).cell? ⟨w.heap.size, 3, none⟩ = some (.bool x.gone) := H0.cell 3
  have HGD := Lib.hid (fun w => good_calls x.t x.n w)
  have HH := Lib.hid H0
  have HR := Lib.hid hR; have HRI := Lib.hid hri
  clear H H0 hR hri
  have q : putM l x = (1, l) := if_pos (.inl hg)
  rw [q]
  have HG := Lib.hid hg
  clear hg
  clear q
  go_enter Try.func11, Try.ntmps11
  go_wp2_with fail
  refine (HGD.out _).mono ?_
  rintro e w1 ⟨rfl, hb⟩
  have HH1 := Lib.hid (HH.out.grow hb)
  have p0 := cell_grow q0 hb; have p1 := cell_grow q1 hb; have p2 := cell_grow q2 hb; have p3 := cell_grow q3 hb
  clear hb q0 q1 q2 q3
  simp only [HG.out]
  go_wp2_with fail
  go_ret
  exact ⟨rfl, _, ⟨_, hr, HR.out, rfl, HRI.out, hl⟩, HH1.out.tail⟩
set_option maxRecDepth 100000 in
set_option maxHeartbeats 4000000 in
theorem put_B (g : Nat) (l : List Ver) (x : Ver) (h F : Hp) (w0 w : World) (hI : IsC g l h) (H : Holds w0 (h ++ F) w) (hg : gd x.t = true) (h2 : 200 < x.val.size) :
    Calls Try.prog 11 #[.pointer (some ⟨g, 0, none⟩), .agg (vC x)] w fun e w' => e = .returned (.int .i64 (putM l x).1) ∧ ∃ h', IsC g (putM l x).2 h' ∧ Holds w0 (h' ++ F) w' := by
  obtain ⟨v, hr, hR, rfl, hri, hl⟩ := hI
  obtain ⟨A, c, rfl, hnc, _⟩ := RowB.form hR
  have H0 := H.alloc (.cells (vC x) 30)
  have q0 : (w.alloc (.cells (vC x) 30)).cell? ⟨w.heap.size, 0, none⟩ = some (.int .i64 x.t) := H0.cell 0
  have q1 : (w.alloc (.cells (vC x) 30)).cell? ⟨w.heap.size, 1, none⟩ = some (.int .u8 x.n) := H0.cell 1
  have q2 : (w.alloc (.cells (vC x) 30)).cell? ⟨w.heap.size, 2, none⟩ = some (.string x.val) := H0.cell 2
  have q3 : (w.alloc (.cells (vC x) 30)).cell? ⟨w.heap.size, 3, none⟩ = some (.bool x.gone) := H0.cell 3
  have HGD := Lib.hid (fun w => good_calls x.t x.n w)
  have HH := Lib.hid H0
  have HR := Lib.hid hR; have HRI := Lib.hid hri
  clear H H0 hR hri
  have q : putM l x = (1, l) := if_pos (.inr (.inl h2))
  rw [q]
  have HG := Lib.hid hg
  have h2i : (200 : Int) < (x.val.size : Int) := by omega
  clear hg
  clear q
  go_enter Try.func11, Try.ntmps11
  go_wp2_with fail
  refine (HGD.out _).mono ?_
  rintro e w1 ⟨rfl, hb⟩
  have HH1 := Lib.hid (HH.out.grow hb)
  have p0 := cell_grow q0 hb; have p1 := cell_grow q1 hb; have p2 := cell_grow q2 hb; have p3 := cell_grow q3 hb
  clear hb q0 q1 q2 q3
  simp only [HG.out]
  go_wp2_with fail
  go_ret
  exact ⟨rfl, _, ⟨_, hr, HR.out, rfl, HRI.out, hl⟩, HH1.out.tail⟩
set_option maxRecDepth 100000 in
set_option maxHeartbeats 4000000 in
theorem put_C (g : Nat) (l : List Ver) (x : Ver) (h F : Hp) (w0 w : World) (hI : IsC g l h) (H : Holds w0 (h ++ F) w) (hg : gd x.t = true) (h2 : ¬ 200 < x.val.size) (h3 : x.gone = true) (h4 : x.val.size ≠ 0) :
    Calls Try.prog 11 #[.pointer (some ⟨g, 0, none⟩), .agg (vC x)] w fun e w' => e = .returned (.int .i64 (putM l x).1) ∧ ∃ h', IsC g (putM l x).2 h' ∧ Holds w0 (h' ++ F) w' := by
  obtain ⟨v, hr, hR, rfl, hri, hl⟩ := hI
  obtain ⟨A, c, rfl, hnc, _⟩ := RowB.form hR
  have H0 := H.alloc (.cells (vC x) 30)
  have q0 : (w.alloc (.cells (vC x) 30)).cell? ⟨w.heap.size, 0, none⟩ = some (.int .i64 x.t) := H0.cell 0
  have q1 : (w.alloc (.cells (vC x) 30)).cell? ⟨w.heap.size, 1, none⟩ = some (.int .u8 x.n) := H0.cell 1
  have q2 : (w.alloc (.cells (vC x) 30)).cell? ⟨w.heap.size, 2, none⟩ = some (.string x.val) := H0.cell 2
  have q3 : (w.alloc (.cells (vC x) 30)).cell? ⟨w.heap.size, 3, none⟩ = some (.bool x.gone) := H0.cell 3
  have HGD := Lib.hid (fun w => good_calls x.t x.n w)
  have HH := Lib.hid H0
  have HR := Lib.hid hR; have HRI := Lib.hid hri
  clear H H0 hR hri
  have q : putM l x = (1, l) := if_pos (.inr (.inr ⟨h3, h4⟩))
  rw [q]
  have HG := Lib.hid hg
  have h2i : ¬ (200 : Int) < (x.val.size : Int) := by omega
  have hne : x.val.toList.isEmpty = false := by
    rw [ByteArray.toList_eq]
    cases hh : x.val.data.toList with
    | nil => exact absurd (by have := congrArg List.length hh; simpa using this) h4
    | cons a r => rfl
  rw [h3] at q3
  have HV := Lib.hid h4
  clear hg h3 h4
  clear q
  go_enter Try.func11, Try.ntmps11
  go_wp2_with fail
  refine (HGD.out _).mono ?_
  rintro e w1 ⟨rfl, hb⟩
  have HH1 := Lib.hid (HH.out.grow hb)
  have p0 := cell_grow q0 hb; have p1 := cell_grow q1 hb; have p2 := cell_grow q2 hb; have p3 := cell_grow q3 hb
  clear hb q0 q1 q2 q3
  simp only [HG.out]
  go_wp2_with fail
  go_ret
  exact ⟨rfl, _, ⟨_, hr, HR.out, rfl, HRI.out, hl⟩, HH1.out.tail⟩
set_option maxRecDepth 100000 in
set_option maxHeartbeats 4000000 in
theorem put_D0 (g : Nat) (l : List Ver) (x : Ver) (h F : Hp) (w0 w : World) (hI : IsC g l h) (H : Holds w0 (h ++ F) w) (hg : gd x.t = true) (h2 : ¬ 200 < x.val.size) (h3 : x.gone = false) (hf : found l x.t x.n = true) :
    Calls Try.prog 11 #[.pointer (some ⟨g, 0, none⟩), .agg (vC x)] w fun e w' => e = .returned (.int .i64 (putM l x).1) ∧ ∃ h', IsC g (putM l x).2 h' ∧ Holds w0 (h' ++ F) w' := by
  obtain ⟨v, hr, hR, rfl, hri, hl⟩ := hI
  obtain ⟨A, c, rfl, hnc, _⟩ := RowB.form hR
  have H0 := H.alloc (.cells (vC x) 30)
  have q0 : (w.alloc (.cells (vC x) 30)).cell? ⟨w.heap.size, 0, none⟩ = some (.int .i64 x.t) := H0.cell 0
  have q1 : (w.alloc (.cells (vC x) 30)).cell? ⟨w.heap.size, 1, none⟩ = some (.int .u8 x.n) := H0.cell 1
  have q2 : (w.alloc (.cells (vC x) 30)).cell? ⟨w.heap.size, 2, none⟩ = some (.string x.val) := H0.cell 2
  have q3 : (w.alloc (.cells (vC x) 30)).cell? ⟨w.heap.size, 3, none⟩ = some (.bool x.gone) := H0.cell 3
  have HGD := Lib.hid (fun w => good_calls x.t x.n w)
  have HH := Lib.hid H0
  have HR := Lib.hid hR; have HRI := Lib.hid hri
  clear H H0 hR hri
  have q : putM l x = (5, l) := by
    unfold putM
    rw [if_neg (by
      rintro (h | h | ⟨h, _⟩)
      · rw [hg] at h; cases h
      · exact h2 h
      · rw [h3] at h; cases h)]
    rw [if_pos hf]
  rw [q]
  rw [h3] at q3
  have HG := Lib.hid hg
  have h2i : ¬ (200 : Int) < (x.val.size : Int) := by omega
  have HF := Lib.hid hf
  clear hf
  have HIC := Lib.hid (show IsC g l ((g, chO (.slice A l.length c)) :: hr) from ⟨_, hr, HR.out, rfl, HRI.out, hl⟩)
  clear q hg h3
  go_enter Try.func11, Try.ntmps11
  go_wp2_with fail
  refine (HGD.out _).mono ?_
  rintro e w1 ⟨rfl, hb⟩
  have HH1 := Lib.hid (HH.out.grow hb)
  have p0 := cell_grow q0 hb; have p1 := cell_grow q1 hb; have p2 := cell_grow q2 hb; have p3 := cell_grow q3 hb
  clear hb q0 q1 q2 q3
  simp only [HG.out]
  go_wp2_with fail
  refine (place_calls g l x.t x.n _ ((w.heap.size, .cells (vC x) 30) :: F) w0 w1 HIC.out (HH1.out.perm (by classical rw [List.perm_iff_count]; intro a; simp only [List.count_append, List.count_cons, List.count_nil]; omega))).mono ?_
  rintro e w2 ⟨rfl, hb⟩
  have HH2 := Lib.hid (HH1.out.grow hb)
  have q4 : w2.cell? ⟨g, 0, none⟩ = some (.slice A l.length c) := HH2.out.tail.cell 0
  clear hb p0 p1 p2 p3
  simp only [HF.out]
  go_wp2_with fail
  go_ret
  exact ⟨rfl, _, HIC.out, HH2.out.tail⟩
set_option maxRecDepth 100000 in
set_option maxHeartbeats 4000000 in
theorem put_E0 (g : Nat) (l : List Ver) (x : Ver) (h F : Hp) (w0 w : World) (hI : IsC g l h) (H : Holds w0 (h ++ F) w) (hg : gd x.t = true) (h2 : ¬ 200 < x.val.size) (h3 : x.gone = false) (hf : found l x.t x.n = false) (hfu : 50 ≤ l.length) :
    Calls Try.prog 11 #[.pointer (some ⟨g, 0, none⟩), .agg (vC x)] w fun e w' => e = .returned (.int .i64 (putM l x).1) ∧ ∃ h', IsC g (putM l x).2 h' ∧ Holds w0 (h' ++ F) w' := by
  obtain ⟨v, hr, hR, rfl, hri, hl⟩ := hI
  obtain ⟨A, c, rfl, hnc, _⟩ := RowB.form hR
  have H0 := H.alloc (.cells (vC x) 30)
  have q0 : (w.alloc (.cells (vC x) 30)).cell? ⟨w.heap.size, 0, none⟩ = some (.int .i64 x.t) := H0.cell 0
  have q1 : (w.alloc (.cells (vC x) 30)).cell? ⟨w.heap.size, 1, none⟩ = some (.int .u8 x.n) := H0.cell 1
  have q2 : (w.alloc (.cells (vC x) 30)).cell? ⟨w.heap.size, 2, none⟩ = some (.string x.val) := H0.cell 2
  have q3 : (w.alloc (.cells (vC x) 30)).cell? ⟨w.heap.size, 3, none⟩ = some (.bool x.gone) := H0.cell 3
  have HGD := Lib.hid (fun w => good_calls x.t x.n w)
  have HH := Lib.hid H0
  have HR := Lib.hid hR; have HRI := Lib.hid hri
  clear H H0 hR hri
  have q : putM l x = (6, l) := by
    unfold putM
    rw [if_neg (by
      rintro (h | h | ⟨h, _⟩)
      · rw [hg] at h; cases h
      · exact h2 h
      · rw [h3] at h; cases h)]
    rw [hf, if_neg (by decide), if_pos hfu]
  rw [q]
  rw [h3] at q3
  have HG := Lib.hid hg
  have h2i : ¬ (200 : Int) < (x.val.size : Int) := by omega
  have HF := Lib.hid hf
  have hfi : (50 : Int) ≤ (l.length : Int) := by omega
  clear hf
  have HIC := Lib.hid (show IsC g l ((g, chO (.slice A l.length c)) :: hr) from ⟨_, hr, HR.out, rfl, HRI.out, hl⟩)
  clear q hg h3
  go_enter Try.func11, Try.ntmps11
  go_wp2_with fail
  refine (HGD.out _).mono ?_
  rintro e w1 ⟨rfl, hb⟩
  have HH1 := Lib.hid (HH.out.grow hb)
  have p0 := cell_grow q0 hb; have p1 := cell_grow q1 hb; have p2 := cell_grow q2 hb; have p3 := cell_grow q3 hb
  clear hb q0 q1 q2 q3
  simp only [HG.out]
  go_wp2_with fail
  refine (place_calls g l x.t x.n _ ((w.heap.size, .cells (vC x) 30) :: F) w0 w1 HIC.out (HH1.out.perm (by classical rw [List.perm_iff_count]; intro a; simp only [List.count_append, List.count_cons, List.count_nil]; omega))).mono ?_
  rintro e w2 ⟨rfl, hb⟩
  have HH2 := Lib.hid (HH1.out.grow hb)
  have q4 : w2.cell? ⟨g, 0, none⟩ = some (.slice A l.length c) := HH2.out.tail.cell 0
  clear hb p0 p1 p2 p3
  simp only [HF.out]
  go_wp2_with fail
  go_ret
  exact ⟨rfl, _, HIC.out, HH2.out.tail⟩
set_option maxRecDepth 100000 in
set_option maxHeartbeats 4000000 in
theorem put_D1 (g : Nat) (l : List Ver) (x : Ver) (h F : Hp) (w0 w : World) (hI : IsC g l h) (H : Holds w0 (h ++ F) w) (hg : gd x.t = true) (h2 : ¬ 200 < x.val.size) (h3 : x.gone = true) (h4 : x.val.size = 0) (hf : found l x.t x.n = true) :
    Calls Try.prog 11 #[.pointer (some ⟨g, 0, none⟩), .agg (vC x)] w fun e w' => e = .returned (.int .i64 (putM l x).1) ∧ ∃ h', IsC g (putM l x).2 h' ∧ Holds w0 (h' ++ F) w' := by
  obtain ⟨v, hr, hR, rfl, hri, hl⟩ := hI
  obtain ⟨A, c, rfl, hnc, _⟩ := RowB.form hR
  have H0 := H.alloc (.cells (vC x) 30)
  have q0 : (w.alloc (.cells (vC x) 30)).cell? ⟨w.heap.size, 0, none⟩ = some (.int .i64 x.t) := H0.cell 0
  have q1 : (w.alloc (.cells (vC x) 30)).cell? ⟨w.heap.size, 1, none⟩ = some (.int .u8 x.n) := H0.cell 1
  have q2 : (w.alloc (.cells (vC x) 30)).cell? ⟨w.heap.size, 2, none⟩ = some (.string x.val) := H0.cell 2
  have q3 : (w.alloc (.cells (vC x) 30)).cell? ⟨w.heap.size, 3, none⟩ = some (.bool x.gone) := H0.cell 3
  have HGD := Lib.hid (fun w => good_calls x.t x.n w)
  have HH := Lib.hid H0
  have HR := Lib.hid hR; have HRI := Lib.hid hri
  clear H H0 hR hri
  have q : putM l x = (5, l) := by
    unfold putM
    rw [if_neg (by
      rintro (h | h | ⟨_, h⟩)
      · rw [hg] at h; cases h
      · exact h2 h
      · exact h h4)]
    rw [if_pos hf]
  rw [q]
  have hne : x.val.toList.isEmpty = true := by
    rw [ByteArray.toList_eq]
    have : x.val.data.toList = [] := List.eq_nil_of_length_eq_zero (by simpa using h4)
    rw [this]
    rfl
  rw [h3] at q3
  have HG := Lib.hid hg
  have h2i : ¬ (200 : Int) < (x.val.size : Int) := by omega
  have HF := Lib.hid hf
  clear hf
  have HIC := Lib.hid (show IsC g l ((g, chO (.slice A l.length c)) :: hr) from ⟨_, hr, HR.out, rfl, HRI.out, hl⟩)
  clear q hg h3 h4
  go_enter Try.func11, Try.ntmps11
  go_wp2_with fail
  refine (HGD.out _).mono ?_
  rintro e w1 ⟨rfl, hb⟩
  have HH1 := Lib.hid (HH.out.grow hb)
  have p0 := cell_grow q0 hb; have p1 := cell_grow q1 hb; have p2 := cell_grow q2 hb; have p3 := cell_grow q3 hb
  clear hb q0 q1 q2 q3
  simp only [HG.out]
  go_wp2_with fail
  refine (place_calls g l x.t x.n _ ((w.heap.size, .cells (vC x) 30) :: F) w0 w1 HIC.out (HH1.out.perm (by classical rw [List.perm_iff_count]; intro a; simp only [List.count_append, List.count_cons, List.count_nil]; omega))).mono ?_
  rintro e w2 ⟨rfl, hb⟩
  have HH2 := Lib.hid (HH1.out.grow hb)
  have q4 : w2.cell? ⟨g, 0, none⟩ = some (.slice A l.length c) := HH2.out.tail.cell 0
  clear hb p0 p1 p2 p3
  simp only [HF.out]
  go_wp2_with fail
  go_ret
  exact ⟨rfl, _, HIC.out, HH2.out.tail⟩
set_option maxRecDepth 100000 in
set_option maxHeartbeats 4000000 in
theorem put_E1 (g : Nat) (l : List Ver) (x : Ver) (h F : Hp) (w0 w : World) (hI : IsC g l h) (H : Holds w0 (h ++ F) w) (hg : gd x.t = true) (h2 : ¬ 200 < x.val.size) (h3 : x.gone = true) (h4 : x.val.size = 0) (hf : found l x.t x.n = false) (hfu : 50 ≤ l.length) :
    Calls Try.prog 11 #[.pointer (some ⟨g, 0, none⟩), .agg (vC x)] w fun e w' => e = .returned (.int .i64 (putM l x).1) ∧ ∃ h', IsC g (putM l x).2 h' ∧ Holds w0 (h' ++ F) w' := by
  obtain ⟨v, hr, hR, rfl, hri, hl⟩ := hI
  obtain ⟨A, c, rfl, hnc, _⟩ := RowB.form hR
  have H0 := H.alloc (.cells (vC x) 30)
  have q0 : (w.alloc (.cells (vC x) 30)).cell? ⟨w.heap.size, 0, none⟩ = some (.int .i64 x.t) := H0.cell 0
  have q1 : (w.alloc (.cells (vC x) 30)).cell? ⟨w.heap.size, 1, none⟩ = some (.int .u8 x.n) := H0.cell 1
  have q2 : (w.alloc (.cells (vC x) 30)).cell? ⟨w.heap.size, 2, none⟩ = some (.string x.val) := H0.cell 2
  have q3 : (w.alloc (.cells (vC x) 30)).cell? ⟨w.heap.size, 3, none⟩ = some (.bool x.gone) := H0.cell 3
  have HGD := Lib.hid (fun w => good_calls x.t x.n w)
  have HH := Lib.hid H0
  have HR := Lib.hid hR; have HRI := Lib.hid hri
  clear H H0 hR hri
  have q : putM l x = (6, l) := by
    unfold putM
    rw [if_neg (by
      rintro (h | h | ⟨_, h⟩)
      · rw [hg] at h; cases h
      · exact h2 h
      · exact h h4)]
    rw [hf, if_neg (by decide), if_pos hfu]
  rw [q]
  have hne : x.val.toList.isEmpty = true := by
    rw [ByteArray.toList_eq]
    have : x.val.data.toList = [] := List.eq_nil_of_length_eq_zero (by simpa using h4)
    rw [this]
    rfl
  rw [h3] at q3
  have HG := Lib.hid hg
  have h2i : ¬ (200 : Int) < (x.val.size : Int) := by omega
  have HF := Lib.hid hf
  have hfi : (50 : Int) ≤ (l.length : Int) := by omega
  clear hf
  have HIC := Lib.hid (show IsC g l ((g, chO (.slice A l.length c)) :: hr) from ⟨_, hr, HR.out, rfl, HRI.out, hl⟩)
  clear q hg h3 h4
  go_enter Try.func11, Try.ntmps11
  go_wp2_with fail
  refine (HGD.out _).mono ?_
  rintro e w1 ⟨rfl, hb⟩
  have HH1 := Lib.hid (HH.out.grow hb)
  have p0 := cell_grow q0 hb; have p1 := cell_grow q1 hb; have p2 := cell_grow q2 hb; have p3 := cell_grow q3 hb
  clear hb q0 q1 q2 q3
  simp only [HG.out]
  go_wp2_with fail
  refine (place_calls g l x.t x.n _ ((w.heap.size, .cells (vC x) 30) :: F) w0 w1 HIC.out (HH1.out.perm (by classical rw [List.perm_iff_count]; intro a; simp only [List.count_append, List.count_cons, List.count_nil]; omega))).mono ?_
  rintro e w2 ⟨rfl, hb⟩
  have HH2 := Lib.hid (HH1.out.grow hb)
  have q4 : w2.cell? ⟨g, 0, none⟩ = some (.slice A l.length c) := HH2.out.tail.cell 0
  clear hb p0 p1 p2 p3
  simp only [HF.out]
  go_wp2_with fail
  go_ret
  exact ⟨rfl, _, HIC.out, HH2.out.tail⟩
set_option maxRecDepth 100000 in
set_option maxHeartbeats 4000000 in
theorem put_F0 (g : Nat) (l : List Ver) (x : Ver) (h F : Hp) (w0 w : World) (hI : IsC g l h) (H : Holds w0 (h ++ F) w) (hg : gd x.t = true) (h2 : ¬ 200 < x.val.size) (h3 : x.gone = false) (hf : found l x.t x.n = false) (hfu : ¬ 50 ≤ l.length) :
    Calls Try.prog 11 #[.pointer (some ⟨g, 0, none⟩), .agg (vC x)] w fun e w' => e = .returned (.int .i64 (putM l x).1) ∧ ∃ h', IsC g (putM l x).2 h' ∧ Holds w0 (h' ++ F) w' := by
  obtain ⟨v, hr, hR, rfl, hri, hl⟩ := hI
  obtain ⟨A, c, rfl, hnc, _⟩ := RowB.form hR
  have H0 := H.alloc (.cells (vC x) 30)
  have q0 : (w.alloc (.cells (vC x) 30)).cell? ⟨w.heap.size, 0, none⟩ = some (.int .i64 x.t) := H0.cell 0
  have q1 : (w.alloc (.cells (vC x) 30)).cell? ⟨w.heap.size, 1, none⟩ = some (.int .u8 x.n) := H0.cell 1
  have q2 : (w.alloc (.cells (vC x) 30)).cell? ⟨w.heap.size, 2, none⟩ = some (.string x.val) := H0.cell 2
  have q3 : (w.alloc (.cells (vC x) 30)).cell? ⟨w.heap.size, 3, none⟩ = some (.bool x.gone) := H0.cell 3
  have HGD := Lib.hid (fun w => good_calls x.t x.n w)
  have HH := Lib.hid H0
  have HR := Lib.hid hR; have HRI := Lib.hid hri
  clear H H0 hR hri
  have q : putM l x = (0, lo l x.t x.n ++ x :: hi l x.t x.n) := by
    unfold putM
    rw [if_neg (by
      rintro (h | h | ⟨h, _⟩)
      · rw [hg] at h; cases h
      · exact h2 h
      · rw [h3] at h; cases h)]
    rw [hf, if_neg (by decide), if_neg hfu]
  rw [q]
  rw [h3] at q3
  have HG := Lib.hid hg
  have h2i : ¬ (200 : Int) < (x.val.size : Int) := by omega
  have HF := Lib.hid hf
  have HFF := Lib.hid hf
  have hfi : ¬ (50 : Int) ≤ (l.length : Int) := by omega
  clear hf
  have HIC := Lib.hid (show IsC g l ((g, chO (.slice A l.length c)) :: hr) from ⟨_, hr, HR.out, rfl, HRI.out, hl⟩)
  clear q hg h3
  go_enter Try.func11, Try.ntmps11
  go_wp2_with fail
  refine (HGD.out _).mono ?_
  rintro e w1 ⟨rfl, hb⟩
  have HH1 := Lib.hid (HH.out.grow hb)
  have p0 := cell_grow q0 hb; have p1 := cell_grow q1 hb; have p2 := cell_grow q2 hb; have p3 := cell_grow q3 hb
  clear hb q0 q1 q2 q3
  simp only [HG.out]
  go_wp2_with fail
  refine (place_calls g l x.t x.n _ ((w.heap.size, .cells (vC x) 30) :: F) w0 w1 HIC.out (HH1.out.perm (by classical rw [List.perm_iff_count]; intro a; simp only [List.count_append, List.count_cons, List.count_nil]; omega))).mono ?_
  rintro e w2 ⟨rfl, hb⟩
  have HH2 := Lib.hid (HH1.out.grow hb)
  have q4 : w2.cell? ⟨g, 0, none⟩ = some (.slice A l.length c) := HH2.out.tail.cell 0
  clear hb p0 p1 p2 p3
  simp only [HF.out]
  have hPl : (lo l x.t x.n).length ≤ l.length := lo_len l x.t x.n
  obtain ⟨P, hP⟩ : ∃ P, P = (lo l x.t x.n).length := ⟨_, rfl⟩
  rw [← hP] at hPl ⊢
  have HPP := Lib.hid hP
  clear hP
  go_wp2_with fail
  obtain ⟨W, hW⟩ : ∃ W, W = w2.drew := ⟨_, rfl⟩
  have h0 := HH2.out.drew
  rw [← hW] at h0
  have HHW := Lib.hid (h0.tail.perm (k := hr ++ ((g, chO (.slice A l.length c)) :: F)) (by classical rw [List.perm_iff_count]; intro a; simp only [List.count_append, List.count_cons, List.count_nil]; omega))
  have HXX := Lib.hid (fun w' (hb : Below W.heap.size W w') => show w'.cell? ⟨w.heap.size, 0, none⟩ = some (.int .i64 x.t) ∧ w'.cell? ⟨w.heap.size, 1, none⟩ = some (.int .u8 x.n) ∧ w'.cell? ⟨w.heap.size, 2, none⟩ = some (.string x.val) ∧ w'.cell? ⟨w.heap.size, 3, none⟩ = some (.bool x.gone) from ⟨(h0.grow hb).cell 0, (h0.grow hb).cell 1, (h0.grow hb).cell 2, (h0.grow hb).cell 3⟩)
  have HQ := Lib.hid (show W.cell? ⟨g, 0, none⟩ = some (.slice A l.length c) from h0.tail.cell 0)
  have HW := Lib.hid hW
  clear h0 hW
  refine wp_region_vals3 9 (by kernel_rfl) (by kernel_rfl) (by kernel_rfl) (fun Ls w' => PuI W ⟨g, 0, none⟩ (.slice A l.length c) Ls w') (PuS x W) (fun i w v => match i with | 0 => v = .pointer (some ⟨g, 0, none⟩) | 1 => v = .pointer (some ⟨g, 0, none⟩) | 2 => v = .pointer (some ⟨g, 0, none⟩) | 3 => v = .pointer (some ⟨g, 0, none⟩) | 4 => v = .slice A l.length c | 5 => v = .int .i64 P | 6 => v = (Value.agg (vC x)) | 7 => v = .slice (some ⟨W.heap.size, 0, none⟩) 1 1 ∧ w.heap[W.heap.size]? = some (.cells (vC x) 30 (0, 0)) | 8 => Pu8 w0 ((g, chO (.slice A l.length c)) :: F) (l.length + 1) ((verV l).take (P * 4) ++ ((vC x).toList ++ (verV l).drop (P * 4))) w v | _ => True) (by rw [← HW.out]; exact ⟨fun h => (by cases h), fun h => (by cases h), fun _ => Below.refl _ _, fun _ => rfl, HQ.out⟩) ?_ ?_ ?_
  · intro i k v w1 w2 hne hS h
    match i, h with
    | 0, h => exact h
    | 1, h => exact h
    | 2, h => exact h
    | 3, h => exact h
    | 4, h => exact h
    | 5, h => exact h
    | 6, h => exact h
    | 7, h => exact ⟨h.1, hS.1 h.2⟩
    | 8, h => exact (by obtain ⟨k8, R8, H8⟩ := h; exact ⟨k8, R8, H8.grow (hS.2 (fun e => hne e.symm))⟩)
    | _ + 9, h => exact trivial
  · intro i o hi ho Ls f w1 hI hL hd
    match i, hi with
    | 0, _ =>
      obtain rfl := Option.some.inj ho
      have q2 : w1.cell? ⟨g, 0, none⟩ = some (.slice A l.length c) := hI.2.2.2.2
      clear hd ho
      unfold wpOp
      refine Or.inl ?_
      simp only [fill, List.take_succ_cons, List.take_zero, Act.put, List.setIfInBounds_toArray, List.set_cons_zero, List.set_cons_succ]
      unfold Oper.wp
      go_simp
      exact LeftBy.mk _ rfl (hI) (PuS.below (Below.refl _ _)) (rfl)
    | 1, _ =>
      obtain rfl := Option.some.inj ho
      have q2 : w1.cell? ⟨g, 0, none⟩ = some (.slice A l.length c) := hI.2.2.2.2
      clear hd ho
      unfold wpOp
      refine Or.inl ?_
      simp only [fill, List.take_succ_cons, List.take_zero, Act.put, List.setIfInBounds_toArray, List.set_cons_zero, List.set_cons_succ]
      unfold Oper.wp
      go_simp
      exact LeftBy.mk _ rfl (hI) (PuS.below (Below.refl _ _)) (rfl)
    | 2, _ =>
      obtain rfl := Option.some.inj ho
      have e1 : f 1 = .pointer (some ⟨g, 0, none⟩) := (hd ⟨1, .data⟩ (by simp) rfl).2
      have q2 : w1.cell? ⟨g, 0, none⟩ = some (.slice A l.length c) := hI.2.2.2.2
      clear hd ho
      unfold wpOp
      refine Or.inl ?_
      simp only [fill, List.take_succ_cons, List.take_zero, Act.put, List.setIfInBounds_toArray, List.set_cons_zero, List.set_cons_succ, e1]
      unfold Oper.wp
      go_simp
      exact LeftBy.mk _ rfl (hI) (PuS.below (Below.refl _ _)) (rfl)
    | 3, _ =>
      obtain rfl := Option.some.inj ho
      have e2 : f 2 = .pointer (some ⟨g, 0, none⟩) := (hd ⟨2, .data⟩ (by simp) rfl).2
      have q2 : w1.cell? ⟨g, 0, none⟩ = some (.slice A l.length c) := hI.2.2.2.2
      clear hd ho
      unfold wpOp
      refine Or.inl ?_
      simp only [fill, List.take_succ_cons, List.take_zero, Act.put, List.setIfInBounds_toArray, List.set_cons_zero, List.set_cons_succ, e2]
      unfold Oper.wp
      go_simp
      exact LeftBy.mk _ rfl (hI) (PuS.below (Below.refl _ _)) (rfl)
    | 4, _ =>
      obtain rfl := Option.some.inj ho
      have e3 : f 3 = .pointer (some ⟨g, 0, none⟩) := (hd ⟨3, .data⟩ (by simp) rfl).2
      have q2 : w1.cell? ⟨g, 0, none⟩ = some (.slice A l.length c) := hI.2.2.2.2
      clear hd ho
      unfold wpOp
      refine Or.inl ?_
      simp only [fill, List.take_succ_cons, List.take_zero, Act.put, List.setIfInBounds_toArray, List.set_cons_zero, List.set_cons_succ, e3]
      unfold Oper.wp
      go_simp
      exact LeftBy.mk _ rfl (⟨fun h => ⟨rfl, (hI.1 h).2⟩, hI.2.1, hI.2.2.1, hI.2.2.2.1, hI.2.2.2.2⟩) (PuS.below (Below.refl _ _)) (rfl)
    | 5, _ =>
      obtain rfl := Option.some.inj ho
      have q2 : w1.cell? ⟨g, 0, none⟩ = some (.slice A l.length c) := hI.2.2.2.2
      clear hd ho
      unfold wpOp
      refine Or.inl ?_
      simp only [fill, List.take_succ_cons, List.take_zero, Act.put, List.setIfInBounds_toArray, List.set_cons_zero, List.set_cons_succ]
      unfold Oper.wp
      go_simp
      exact LeftBy.mk _ rfl (hI) (PuS.below (Below.refl _ _)) (rfl)
    | 6, _ =>
      obtain rfl := Option.some.inj ho
      have q2 : w1.cell? ⟨g, 0, none⟩ = some (.slice A l.length c) := hI.2.2.2.2
      clear hd ho
      unfold wpOp
      refine Or.inl ?_
      simp only [fill, List.take_succ_cons, List.take_zero, Act.put, List.setIfInBounds_toArray, List.set_cons_zero, List.set_cons_succ]
      unfold Oper.wp
      have hX : w1.cell? ⟨w.heap.size, 0, none⟩ = some (.int .i64 x.t) ∧ w1.cell? ⟨w.heap.size, 1, none⟩ = some (.int .u8 x.n) ∧ w1.cell? ⟨w.heap.size, 2, none⟩ = some (.string x.val) ∧ w1.cell? ⟨w.heap.size, 3, none⟩ = some (.bool x.gone) := HXX.out w1 (hI.2.2.1 (by
        cases h : Ls 8
        · rfl
        · exact absurd (hI.2.1 (hI.1 h).2) (by rw [hL]; decide)))
      obtain ⟨p0, p1, p2, p3⟩ := hX
      go_simp
      exact LeftBy.mk _ rfl (⟨hI.1, fun _ => rfl, hI.2.2.1, hI.2.2.2.1, hI.2.2.2.2⟩) (PuS.below (Below.refl _ _)) (rfl)
    | 7, _ =>
      obtain rfl := Option.some.inj ho
      have e6 : f 6 = (Value.agg (vC x)) := (hd ⟨6, .data⟩ (by simp) rfl).2
      have hL6 : Ls 6 = true := (hd ⟨6, .data⟩ (by simp) rfl).1
      have q2 : w1.cell? ⟨g, 0, none⟩ = some (.slice A l.length c) := hI.2.2.2.2
      clear hd ho
      unfold wpOp
      refine Or.inl ?_
      simp only [fill, List.take_succ_cons, List.take_zero, Act.put, List.setIfInBounds_toArray, List.set_cons_zero, List.set_cons_succ, e6]
      unfold Oper.wp
      have h8 : Ls 8 = false := by
        cases h : Ls 8
        · rfl
        · rw [(hI.1 h).2] at hL; cases hL
      have hsz := hI.2.2.2.1 hL
      rw [show vC x = #[.int .i64 x.t, .int .u8 x.n, .string x.val, .bool x.gone] from rfl]
      go_simp
      exact LeftBy.mk _ rfl ⟨fun h => ⟨(hI.1 h).1, rfl⟩, fun _ => hL6, fun h => ((hI.2.2.1 h8).alloc (hI.2.2.1 h8).size _), fun h => (by cases h), cell_grow hI.2.2.2.2 ((Below.refl _ _).alloc (Nat.le_refl _) _)⟩ (PuS.below ((Below.refl _ _).alloc (Nat.le_refl _) _)) ⟨by first | rfl | rw [hsz], by rw [← hsz]; exact heap_alloc_new w1 _⟩
    | 8, _ =>
      obtain rfl := Option.some.inj ho
      have e4 : f 4 = .slice A l.length c := (hd ⟨4, .data⟩ (by simp) rfl).2
      have hLa : Ls 4 = true := (hd ⟨4, .data⟩ (by simp) rfl).1
      have e5 : f 5 = .int .i64 P := (hd ⟨5, .data⟩ (by simp) rfl).2
      have e7 := (hd ⟨7, .data⟩ (by simp) rfl).2
      have hLb : Ls 7 = true := (hd ⟨7, .data⟩ (by simp) rfl).1
      obtain ⟨e7, b7⟩ := e7
      have q2 : w1.cell? ⟨g, 0, none⟩ = some (.slice A l.length c) := hI.2.2.2.2
      clear hd ho
      unfold wpOp
      refine Or.inl ?_
      simp only [fill, List.take_succ_cons, List.take_zero, Act.put, List.setIfInBounds_toArray, List.set_cons_zero, List.set_cons_succ, e4, e5, e7]
      unfold Oper.wp
      have hB := hI.2.2.1 hL
      have hBk : W.heap.size < w1.heap.size := lt_of_block b7
      have hx : Holds w0 ((W.heap.size, .cells (vC x).toList.toArray 30 (0, 0)) :: (hr ++ ((g, chO (.slice A l.length c)) :: F))) w1 := HHW.out.add hB (Nat.le_refl _) b7
      go_simp
      refine (ins_calls (.slice A l.length c) l.length P (verV l) (vC x).toList W.heap.size hr ((g, chO (.slice A l.length c)) :: F) w0 w1 hPl (by omega) rfl (ver_one l) (by simp [vC, Value.oneCell']) HR.out (hx.perm (by classical rw [List.perm_iff_count]; intro a; simp only [List.count_append, List.count_cons, List.count_nil]; omega))).mono ?_
      rintro e w3 ⟨v8, rfl, h8, R8, H8⟩
      have H8b : Holds w0 (h8 ++ ((W.heap.size, .cells (vC x) 30 (0, 0)) :: ((g, chO (.slice A l.length c)) :: F))) w3 := H8
      have H9 : Holds w0 ((W.heap.size, .cells (vC x) 30 (0, 0)) :: (h8 ++ ((g, chO (.slice A l.length c)) :: F))) w3 := H8b.perm (by classical rw [List.perm_iff_count]; intro a; simp only [List.count_append, List.count_cons, List.count_nil]; omega)
      have H10 : Holds w0 ((g, chO (.slice A l.length c)) :: (h8 ++ F)) w3 := H9.tail.perm (by classical rw [List.perm_iff_count]; intro a; simp only [List.count_append, List.count_cons, List.count_nil]; omega)
      exact LeftBy.mk _ rfl ⟨fun _ => ⟨hLa, hLb⟩, hI.2.1, fun h => (by cases h), fun h => absurd (hLb.symm.trans h) (by decide), H10.cell 0⟩ ⟨fun _ => H9.get, fun h => absurd rfl h⟩ ⟨h8, by rw [← List.append_assoc]; exact R8, H9.tail⟩
  · intro Ls f w1 hI hL hV
    have e0 : f 0 = .pointer (some ⟨g, 0, none⟩) := hV 0 (by decide) (by simp)
    have e1 : f 1 = .pointer (some ⟨g, 0, none⟩) := hV 1 (by decide) (by simp)
    have e2 : f 2 = .pointer (some ⟨g, 0, none⟩) := hV 2 (by decide) (by simp)
    have e3 : f 3 = .pointer (some ⟨g, 0, none⟩) := hV 3 (by decide) (by simp)
    have e4 : f 4 = .slice A l.length c := hV 4 (by decide) (by simp)
    have e5 : f 5 = .int .i64 P := hV 5 (by decide) (by simp)
    have e6 : f 6 = (Value.agg (vC x)) := hV 6 (by decide) (by simp)
    have e7 := hV 7 (by decide) (by simp)
    obtain ⟨e7, b7⟩ := e7
    have e8 := hV 8 (by decide) (by simp)
    obtain ⟨k8, R8, H8⟩ := e8
    clear hV hL
    simp only [fill, List.take_succ_cons, List.take_zero, List.drop_succ_cons, List.drop_zero, Act.put, List.setIfInBounds_toArray, List.set_cons_zero, List.set_cons_succ, e0, e1, e2, e3, e4, e5, e6, e7]
    obtain ⟨A8, c8, hv8, _, _⟩ := RowB.form R8
    rw [hv8] at R8 ⊢
    have H9 : Holds w0 ((g, chO (.slice A l.length c)) :: (k8 ++ F)) w1 := H8.perm (by classical rw [List.perm_iff_count]; intro a; simp only [List.count_append, List.count_cons, List.count_nil]; omega)
    have q2 : w1.cell? ⟨g, 0, none⟩ = some (.slice A l.length c) := H9.cell 0
    have q3 : w1.frozen? ⟨g, 0, none⟩ = false := H9.froz 0
    have HNN := Lib.hid (show Holds w0 ((g, chO (.slice A8 (l.length + 1) c8)) :: (k8 ++ F)) _ from H9.set 0 (.slice A8 (l.length + 1) c8))
    have HR8 := Lib.hid R8
    clear hI H8 R8 H9 hv8
    go_wp2_with fail
    go_ret
    refine ⟨rfl, _, ⟨.slice A8 (l.length + 1) c8, k8, ?_, rfl, rise_put HRI.out HFF.out, ?_⟩, HNN.out⟩
    · have e : (lo l x.t x.n ++ x :: hi l x.t x.n).length = l.length + 1 := by have := congrArg List.length (lo_hi l x.t x.n); simp only [List.length_append, List.length_cons] at this ⊢; omega
      have e2 : verV (lo l x.t x.n ++ x :: hi l x.t x.n) = (verV l).take (P * 4) ++ ((vC x).toList ++ (verV l).drop (P * 4)) := by
        have hs := lo_hi l x.t x.n
        have h1 : l.take P = lo l x.t x.n := by conv => lhs; rw [← hs]
                                                rw [HPP.out, List.take_left]
        have h2 : l.drop P = hi l x.t x.n := by conv => lhs; rw [← hs]
                                                rw [HPP.out, List.drop_left]
        rw [verV_take, verV_drop, h1, h2, verV_app]
        simp [verV]
      rw [e, e2]
      exact HR8.out
    · have := congrArg List.length (lo_hi l x.t x.n)
      simp only [List.length_append, List.length_cons] at this ⊢
      omega
set_option maxRecDepth 100000 in
set_option maxHeartbeats 4000000 in
theorem put_F1 (g : Nat) (l : List Ver) (x : Ver) (h F : Hp) (w0 w : World) (hI : IsC g l h) (H : Holds w0 (h ++ F) w) (hg : gd x.t = true) (h2 : ¬ 200 < x.val.size) (h3 : x.gone = true) (h4 : x.val.size = 0) (hf : found l x.t x.n = false) (hfu : ¬ 50 ≤ l.length) :
    Calls Try.prog 11 #[.pointer (some ⟨g, 0, none⟩), .agg (vC x)] w fun e w' => e = .returned (.int .i64 (putM l x).1) ∧ ∃ h', IsC g (putM l x).2 h' ∧ Holds w0 (h' ++ F) w' := by
  obtain ⟨v, hr, hR, rfl, hri, hl⟩ := hI
  obtain ⟨A, c, rfl, hnc, _⟩ := RowB.form hR
  have H0 := H.alloc (.cells (vC x) 30)
  have q0 : (w.alloc (.cells (vC x) 30)).cell? ⟨w.heap.size, 0, none⟩ = some (.int .i64 x.t) := H0.cell 0
  have q1 : (w.alloc (.cells (vC x) 30)).cell? ⟨w.heap.size, 1, none⟩ = some (.int .u8 x.n) := H0.cell 1
  have q2 : (w.alloc (.cells (vC x) 30)).cell? ⟨w.heap.size, 2, none⟩ = some (.string x.val) := H0.cell 2
  have q3 : (w.alloc (.cells (vC x) 30)).cell? ⟨w.heap.size, 3, none⟩ = some (.bool x.gone) := H0.cell 3
  have HGD := Lib.hid (fun w => good_calls x.t x.n w)
  have HH := Lib.hid H0
  have HR := Lib.hid hR; have HRI := Lib.hid hri
  clear H H0 hR hri
  have q : putM l x = (0, lo l x.t x.n ++ x :: hi l x.t x.n) := by
    unfold putM
    rw [if_neg (by
      rintro (h | h | ⟨_, h⟩)
      · rw [hg] at h; cases h
      · exact h2 h
      · exact h h4)]
    rw [hf, if_neg (by decide), if_neg hfu]
  rw [q]
  have hne : x.val.toList.isEmpty = true := by
    rw [ByteArray.toList_eq]
    have : x.val.data.toList = [] := List.eq_nil_of_length_eq_zero (by simpa using h4)
    rw [this]
    rfl
  rw [h3] at q3
  have HG := Lib.hid hg
  have h2i : ¬ (200 : Int) < (x.val.size : Int) := by omega
  have HF := Lib.hid hf
  have HFF := Lib.hid hf
  have hfi : ¬ (50 : Int) ≤ (l.length : Int) := by omega
  clear hf
  have HIC := Lib.hid (show IsC g l ((g, chO (.slice A l.length c)) :: hr) from ⟨_, hr, HR.out, rfl, HRI.out, hl⟩)
  clear q hg h3 h4
  go_enter Try.func11, Try.ntmps11
  go_wp2_with fail
  refine (HGD.out _).mono ?_
  rintro e w1 ⟨rfl, hb⟩
  have HH1 := Lib.hid (HH.out.grow hb)
  have p0 := cell_grow q0 hb; have p1 := cell_grow q1 hb; have p2 := cell_grow q2 hb; have p3 := cell_grow q3 hb
  clear hb q0 q1 q2 q3
  simp only [HG.out]
  go_wp2_with fail
  refine (place_calls g l x.t x.n _ ((w.heap.size, .cells (vC x) 30) :: F) w0 w1 HIC.out (HH1.out.perm (by classical rw [List.perm_iff_count]; intro a; simp only [List.count_append, List.count_cons, List.count_nil]; omega))).mono ?_
  rintro e w2 ⟨rfl, hb⟩
  have HH2 := Lib.hid (HH1.out.grow hb)
  have q4 : w2.cell? ⟨g, 0, none⟩ = some (.slice A l.length c) := HH2.out.tail.cell 0
  clear hb p0 p1 p2 p3
  simp only [HF.out]
  have hPl : (lo l x.t x.n).length ≤ l.length := lo_len l x.t x.n
  obtain ⟨P, hP⟩ : ∃ P, P = (lo l x.t x.n).length := ⟨_, rfl⟩
  rw [← hP] at hPl ⊢
  have HPP := Lib.hid hP
  clear hP
  go_wp2_with fail
  obtain ⟨W, hW⟩ : ∃ W, W = w2.drew := ⟨_, rfl⟩
  have h0 := HH2.out.drew
  rw [← hW] at h0
  have HHW := Lib.hid (h0.tail.perm (k := hr ++ ((g, chO (.slice A l.length c)) :: F)) (by classical rw [List.perm_iff_count]; intro a; simp only [List.count_append, List.count_cons, List.count_nil]; omega))
  have HXX := Lib.hid (fun w' (hb : Below W.heap.size W w') => show w'.cell? ⟨w.heap.size, 0, none⟩ = some (.int .i64 x.t) ∧ w'.cell? ⟨w.heap.size, 1, none⟩ = some (.int .u8 x.n) ∧ w'.cell? ⟨w.heap.size, 2, none⟩ = some (.string x.val) ∧ w'.cell? ⟨w.heap.size, 3, none⟩ = some (.bool x.gone) from ⟨(h0.grow hb).cell 0, (h0.grow hb).cell 1, (h0.grow hb).cell 2, (h0.grow hb).cell 3⟩)
  have HQ := Lib.hid (show W.cell? ⟨g, 0, none⟩ = some (.slice A l.length c) from h0.tail.cell 0)
  have HW := Lib.hid hW
  clear h0 hW
  refine wp_region_vals3 9 (by kernel_rfl) (by kernel_rfl) (by kernel_rfl) (fun Ls w' => PuI W ⟨g, 0, none⟩ (.slice A l.length c) Ls w') (PuS x W) (fun i w v => match i with | 0 => v = .pointer (some ⟨g, 0, none⟩) | 1 => v = .pointer (some ⟨g, 0, none⟩) | 2 => v = .pointer (some ⟨g, 0, none⟩) | 3 => v = .pointer (some ⟨g, 0, none⟩) | 4 => v = .slice A l.length c | 5 => v = .int .i64 P | 6 => v = (Value.agg (vC x)) | 7 => v = .slice (some ⟨W.heap.size, 0, none⟩) 1 1 ∧ w.heap[W.heap.size]? = some (.cells (vC x) 30 (0, 0)) | 8 => Pu8 w0 ((g, chO (.slice A l.length c)) :: F) (l.length + 1) ((verV l).take (P * 4) ++ ((vC x).toList ++ (verV l).drop (P * 4))) w v | _ => True) (by rw [← HW.out]; exact ⟨fun h => (by cases h), fun h => (by cases h), fun _ => Below.refl _ _, fun _ => rfl, HQ.out⟩) ?_ ?_ ?_
  · intro i k v w1 w2 hne hS h
    match i, h with
    | 0, h => exact h
    | 1, h => exact h
    | 2, h => exact h
    | 3, h => exact h
    | 4, h => exact h
    | 5, h => exact h
    | 6, h => exact h
    | 7, h => exact ⟨h.1, hS.1 h.2⟩
    | 8, h => exact (by obtain ⟨k8, R8, H8⟩ := h; exact ⟨k8, R8, H8.grow (hS.2 (fun e => hne e.symm))⟩)
    | _ + 9, h => exact trivial
  · intro i o hi ho Ls f w1 hI hL hd
    match i, hi with
    | 0, _ =>
      obtain rfl := Option.some.inj ho
      have q2 : w1.cell? ⟨g, 0, none⟩ = some (.slice A l.length c) := hI.2.2.2.2
      clear hd ho
      unfold wpOp
      refine Or.inl ?_
      simp only [fill, List.take_succ_cons, List.take_zero, Act.put, List.setIfInBounds_toArray, List.set_cons_zero, List.set_cons_succ]
      unfold Oper.wp
      go_simp
      exact LeftBy.mk _ rfl (hI) (PuS.below (Below.refl _ _)) (rfl)
    | 1, _ =>
      obtain rfl := Option.some.inj ho
      have q2 : w1.cell? ⟨g, 0, none⟩ = some (.slice A l.length c) := hI.2.2.2.2
      clear hd ho
      unfold wpOp
      refine Or.inl ?_
      simp only [fill, List.take_succ_cons, List.take_zero, Act.put, List.setIfInBounds_toArray, List.set_cons_zero, List.set_cons_succ]
      unfold Oper.wp
      go_simp
      exact LeftBy.mk _ rfl (hI) (PuS.below (Below.refl _ _)) (rfl)
    | 2, _ =>
      obtain rfl := Option.some.inj ho
      have e1 : f 1 = .pointer (some ⟨g, 0, none⟩) := (hd ⟨1, .data⟩ (by simp) rfl).2
      have q2 : w1.cell? ⟨g, 0, none⟩ = some (.slice A l.length c) := hI.2.2.2.2
      clear hd ho
      unfold wpOp
      refine Or.inl ?_
      simp only [fill, List.take_succ_cons, List.take_zero, Act.put, List.setIfInBounds_toArray, List.set_cons_zero, List.set_cons_succ, e1]
      unfold Oper.wp
      go_simp
      exact LeftBy.mk _ rfl (hI) (PuS.below (Below.refl _ _)) (rfl)
    | 3, _ =>
      obtain rfl := Option.some.inj ho
      have e2 : f 2 = .pointer (some ⟨g, 0, none⟩) := (hd ⟨2, .data⟩ (by simp) rfl).2
      have q2 : w1.cell? ⟨g, 0, none⟩ = some (.slice A l.length c) := hI.2.2.2.2
      clear hd ho
      unfold wpOp
      refine Or.inl ?_
      simp only [fill, List.take_succ_cons, List.take_zero, Act.put, List.setIfInBounds_toArray, List.set_cons_zero, List.set_cons_succ, e2]
      unfold Oper.wp
      go_simp
      exact LeftBy.mk _ rfl (hI) (PuS.below (Below.refl _ _)) (rfl)
    | 4, _ =>
      obtain rfl := Option.some.inj ho
      have e3 : f 3 = .pointer (some ⟨g, 0, none⟩) := (hd ⟨3, .data⟩ (by simp) rfl).2
      have q2 : w1.cell? ⟨g, 0, none⟩ = some (.slice A l.length c) := hI.2.2.2.2
      clear hd ho
      unfold wpOp
      refine Or.inl ?_
      simp only [fill, List.take_succ_cons, List.take_zero, Act.put, List.setIfInBounds_toArray, List.set_cons_zero, List.set_cons_succ, e3]
      unfold Oper.wp
      go_simp
      exact LeftBy.mk _ rfl (⟨fun h => ⟨rfl, (hI.1 h).2⟩, hI.2.1, hI.2.2.1, hI.2.2.2.1, hI.2.2.2.2⟩) (PuS.below (Below.refl _ _)) (rfl)
    | 5, _ =>
      obtain rfl := Option.some.inj ho
      have q2 : w1.cell? ⟨g, 0, none⟩ = some (.slice A l.length c) := hI.2.2.2.2
      clear hd ho
      unfold wpOp
      refine Or.inl ?_
      simp only [fill, List.take_succ_cons, List.take_zero, Act.put, List.setIfInBounds_toArray, List.set_cons_zero, List.set_cons_succ]
      unfold Oper.wp
      go_simp
      exact LeftBy.mk _ rfl (hI) (PuS.below (Below.refl _ _)) (rfl)
    | 6, _ =>
      obtain rfl := Option.some.inj ho
      have q2 : w1.cell? ⟨g, 0, none⟩ = some (.slice A l.length c) := hI.2.2.2.2
      clear hd ho
      unfold wpOp
      refine Or.inl ?_
      simp only [fill, List.take_succ_cons, List.take_zero, Act.put, List.setIfInBounds_toArray, List.set_cons_zero, List.set_cons_succ]
      unfold Oper.wp
      have hX : w1.cell? ⟨w.heap.size, 0, none⟩ = some (.int .i64 x.t) ∧ w1.cell? ⟨w.heap.size, 1, none⟩ = some (.int .u8 x.n) ∧ w1.cell? ⟨w.heap.size, 2, none⟩ = some (.string x.val) ∧ w1.cell? ⟨w.heap.size, 3, none⟩ = some (.bool x.gone) := HXX.out w1 (hI.2.2.1 (by
        cases h : Ls 8
        · rfl
        · exact absurd (hI.2.1 (hI.1 h).2) (by rw [hL]; decide)))
      obtain ⟨p0, p1, p2, p3⟩ := hX
      go_simp
      exact LeftBy.mk _ rfl (⟨hI.1, fun _ => rfl, hI.2.2.1, hI.2.2.2.1, hI.2.2.2.2⟩) (PuS.below (Below.refl _ _)) (rfl)
    | 7, _ =>
      obtain rfl := Option.some.inj ho
      have e6 : f 6 = (Value.agg (vC x)) := (hd ⟨6, .data⟩ (by simp) rfl).2
      have hL6 : Ls 6 = true := (hd ⟨6, .data⟩ (by simp) rfl).1
      have q2 : w1.cell? ⟨g, 0, none⟩ = some (.slice A l.length c) := hI.2.2.2.2
      clear hd ho
      unfold wpOp
      refine Or.inl ?_
      simp only [fill, List.take_succ_cons, List.take_zero, Act.put, List.setIfInBounds_toArray, List.set_cons_zero, List.set_cons_succ, e6]
      unfold Oper.wp
      have h8 : Ls 8 = false := by
        cases h : Ls 8
        · rfl
        · rw [(hI.1 h).2] at hL; cases hL
      have hsz := hI.2.2.2.1 hL
      rw [show vC x = #[.int .i64 x.t, .int .u8 x.n, .string x.val, .bool x.gone] from rfl]
      go_simp
      exact LeftBy.mk _ rfl ⟨fun h => ⟨(hI.1 h).1, rfl⟩, fun _ => hL6, fun h => ((hI.2.2.1 h8).alloc (hI.2.2.1 h8).size _), fun h => (by cases h), cell_grow hI.2.2.2.2 ((Below.refl _ _).alloc (Nat.le_refl _) _)⟩ (PuS.below ((Below.refl _ _).alloc (Nat.le_refl _) _)) ⟨by first | rfl | rw [hsz], by rw [← hsz]; exact heap_alloc_new w1 _⟩
    | 8, _ =>
      obtain rfl := Option.some.inj ho
      have e4 : f 4 = .slice A l.length c := (hd ⟨4, .data⟩ (by simp) rfl).2
      have hLa : Ls 4 = true := (hd ⟨4, .data⟩ (by simp) rfl).1
      have e5 : f 5 = .int .i64 P := (hd ⟨5, .data⟩ (by simp) rfl).2
      have e7 := (hd ⟨7, .data⟩ (by simp) rfl).2
      have hLb : Ls 7 = true := (hd ⟨7, .data⟩ (by simp) rfl).1
      obtain ⟨e7, b7⟩ := e7
      have q2 : w1.cell? ⟨g, 0, none⟩ = some (.slice A l.length c) := hI.2.2.2.2
      clear hd ho
      unfold wpOp
      refine Or.inl ?_
      simp only [fill, List.take_succ_cons, List.take_zero, Act.put, List.setIfInBounds_toArray, List.set_cons_zero, List.set_cons_succ, e4, e5, e7]
      unfold Oper.wp
      have hB := hI.2.2.1 hL
      have hBk : W.heap.size < w1.heap.size := lt_of_block b7
      have hx : Holds w0 ((W.heap.size, .cells (vC x).toList.toArray 30 (0, 0)) :: (hr ++ ((g, chO (.slice A l.length c)) :: F))) w1 := HHW.out.add hB (Nat.le_refl _) b7
      go_simp
      refine (ins_calls (.slice A l.length c) l.length P (verV l) (vC x).toList W.heap.size hr ((g, chO (.slice A l.length c)) :: F) w0 w1 hPl (by omega) rfl (ver_one l) (by simp [vC, Value.oneCell']) HR.out (hx.perm (by classical rw [List.perm_iff_count]; intro a; simp only [List.count_append, List.count_cons, List.count_nil]; omega))).mono ?_
      rintro e w3 ⟨v8, rfl, h8, R8, H8⟩
      have H8b : Holds w0 (h8 ++ ((W.heap.size, .cells (vC x) 30 (0, 0)) :: ((g, chO (.slice A l.length c)) :: F))) w3 := H8
      have H9 : Holds w0 ((W.heap.size, .cells (vC x) 30 (0, 0)) :: (h8 ++ ((g, chO (.slice A l.length c)) :: F))) w3 := H8b.perm (by classical rw [List.perm_iff_count]; intro a; simp only [List.count_append, List.count_cons, List.count_nil]; omega)
      have H10 : Holds w0 ((g, chO (.slice A l.length c)) :: (h8 ++ F)) w3 := H9.tail.perm (by classical rw [List.perm_iff_count]; intro a; simp only [List.count_append, List.count_cons, List.count_nil]; omega)
      exact LeftBy.mk _ rfl ⟨fun _ => ⟨hLa, hLb⟩, hI.2.1, fun h => (by cases h), fun h => absurd (hLb.symm.trans h) (by decide), H10.cell 0⟩ ⟨fun _ => H9.get, fun h => absurd rfl h⟩ ⟨h8, by rw [← List.append_assoc]; exact R8, H9.tail⟩
  · intro Ls f w1 hI hL hV
    have e0 : f 0 = .pointer (some ⟨g, 0, none⟩) := hV 0 (by decide) (by simp)
    have e1 : f 1 = .pointer (some ⟨g, 0, none⟩) := hV 1 (by decide) (by simp)
    have e2 : f 2 = .pointer (some ⟨g, 0, none⟩) := hV 2 (by decide) (by simp)
    have e3 : f 3 = .pointer (some ⟨g, 0, none⟩) := hV 3 (by decide) (by simp)
    have e4 : f 4 = .slice A l.length c := hV 4 (by decide) (by simp)
    have e5 : f 5 = .int .i64 P := hV 5 (by decide) (by simp)
    have e6 : f 6 = (Value.agg (vC x)) := hV 6 (by decide) (by simp)
    have e7 := hV 7 (by decide) (by simp)
    obtain ⟨e7, b7⟩ := e7
    have e8 := hV 8 (by decide) (by simp)
    obtain ⟨k8, R8, H8⟩ := e8
    clear hV hL
    simp only [fill, List.take_succ_cons, List.take_zero, List.drop_succ_cons, List.drop_zero, Act.put, List.setIfInBounds_toArray, List.set_cons_zero, List.set_cons_succ, e0, e1, e2, e3, e4, e5, e6, e7]
    obtain ⟨A8, c8, hv8, _, _⟩ := RowB.form R8
    rw [hv8] at R8 ⊢
    have H9 : Holds w0 ((g, chO (.slice A l.length c)) :: (k8 ++ F)) w1 := H8.perm (by classical rw [List.perm_iff_count]; intro a; simp only [List.count_append, List.count_cons, List.count_nil]; omega)
    have q2 : w1.cell? ⟨g, 0, none⟩ = some (.slice A l.length c) := H9.cell 0
    have q3 : w1.frozen? ⟨g, 0, none⟩ = false := H9.froz 0
    have HNN := Lib.hid (show Holds w0 ((g, chO (.slice A8 (l.length + 1) c8)) :: (k8 ++ F)) _ from H9.set 0 (.slice A8 (l.length + 1) c8))
    have HR8 := Lib.hid R8
    clear hI H8 R8 H9 hv8
    go_wp2_with fail
    go_ret
    refine ⟨rfl, _, ⟨.slice A8 (l.length + 1) c8, k8, ?_, rfl, rise_put HRI.out HFF.out, ?_⟩, HNN.out⟩
    · have e : (lo l x.t x.n ++ x :: hi l x.t x.n).length = l.length + 1 := by have := congrArg List.length (lo_hi l x.t x.n); simp only [List.length_append, List.length_cons] at this ⊢; omega
      have e2 : verV (lo l x.t x.n ++ x :: hi l x.t x.n) = (verV l).take (P * 4) ++ ((vC x).toList ++ (verV l).drop (P * 4)) := by
        have hs := lo_hi l x.t x.n
        have h1 : l.take P = lo l x.t x.n := by conv => lhs; rw [← hs]
                                                rw [HPP.out, List.take_left]
        have h2 : l.drop P = hi l x.t x.n := by conv => lhs; rw [← hs]
                                                rw [HPP.out, List.drop_left]
        rw [verV_take, verV_drop, h1, h2, verV_app]
        simp [verV]
      rw [e, e2]
      exact HR8.out
    · have := congrArg List.length (lo_hi l x.t x.n)
      simp only [List.length_append, List.length_cons] at this ⊢
      omega
theorem put_calls (g : Nat) (l : List Ver) (x : Ver) (h F : Hp) (w0 w : World) (hI : IsC g l h) (H : Holds w0 (h ++ F) w) :
    Calls Try.prog 11 #[.pointer (some ⟨g, 0, none⟩), .agg (vC x)] w fun e w' => e = .returned (.int .i64 (putM l x).1) ∧ ∃ h', IsC g (putM l x).2 h' ∧ Holds w0 (h' ++ F) w' := by
  cases hg : gd x.t
  · exact put_A g l x h F w0 w hI H hg
  · by_cases h2 : 200 < x.val.size
    · exact put_B g l x h F w0 w hI H hg h2
    · cases h3 : x.gone
      · cases hf : found l x.t x.n
        · by_cases hfu : 50 ≤ l.length
          · exact put_E0 g l x h F w0 w hI H hg h2 h3 hf hfu
          · exact put_F0 g l x h F w0 w hI H hg h2 h3 hf hfu
        · exact put_D0 g l x h F w0 w hI H hg h2 h3 hf
      · by_cases h4 : x.val.size = 0
        · cases hf : found l x.t x.n
          · by_cases hfu : 50 ≤ l.length
            · exact put_E1 g l x h F w0 w hI H hg h2 h3 h4 hf hfu
            · exact put_F1 g l x h F w0 w hI H hg h2 h3 h4 hf hfu
          · exact put_D1 g l x h F w0 w hI H hg h2 h3 h4 hf
        · exact put_C g l x h F w0 w hI H hg h2 h3 h4
end Go.Proofs.Ytgkigcobaimccaa
