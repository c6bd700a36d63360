/- ChainKnown's walk. No condition. -/
import Derived.Test.YtgkigcobaimccaaAw
import Derived.Laws.MakeOwn
import Derived.Deep.Matrix
namespace Go.Proofs.Ytgkigcobaimccaa
open Go.RowKit Go.Proofs.Ytgkigcobaimccaa.Sp
set_option linter.unusedVariables false
set_option linter.unusedSimpArgs false
theorem info5 : ∃ i, Try.prog.info? 5 = some i ∧ i.zero = some (.int .u8 0) ∧ i.size = 1 ∧ i.bytes = 1 := by
  have h : (Try.prog.info? 5).any (fun i => (match i.zero with | some (.int .u8 0) => true | _ => false) && i.size == 1 && i.bytes == 1) = true := by kernel_rfl
  cases hu : Try.prog.info? 5 with
  | none => rw [hu] at h; cases h
  | some i =>
    rw [hu] at h
    simp only [Option.any_some, Bool.and_eq_true, beq_iff_eq] at h
    obtain ⟨⟨h1, h2⟩, h3⟩ := h
    refine ⟨i, rfl, ?_, h2, h3⟩
    split at h1 <;> simp_all
def zb : List UInt8 := List.replicate 201 0
def big : ByteArray := ⟨zb.toArray⟩
def bigV : Ver := ⟨1, 0, big, false⟩
theorem make201 : ∃ MC : Array Value, MC.toList = zb.map (fun x => Value.int .u8 x.toNat) ∧ ∀ w : World, (Instr.makeSlice 52 (.int .i64 201) (.int .i64 201)).run Try.prog w = .ok (.slice (some ⟨w.heap.size, 0, none⟩) 201 201) (w.alloc (.cells MC 5)) := by
  obtain ⟨i, h1, h2, h3, h4⟩ := info5
  refine ⟨madeCells (Value.int .u8 0).cells (201 * 1), by kernel_rfl, fun w => ?_⟩
  have := run_make (P := Try.prog) w 52 5 i _ Try.underlying52 h1 h2 .i64 .i64 201 201 (by decide) (by decide) (by rw [h4]; decide) (by decide)
  rw [h3] at this
  exact this
theorem conv_zb {w : World} {b : Nat} {MC : Array Value} (hM : MC.toList = zb.map (fun x => Value.int .u8 x.toNat)) (H : w.heap[b]? = some (.cells MC 5 (0, 0))) : (convert 52 9 (.slice (some ⟨b, 0, none⟩) 201 201)).run Try.prog w = .ok (.string big) w := by
  refine run_convert_bytes_back (P := Try.prog) w 52 9 5 ⟨b, 0, none⟩ 201 zb Try.underlying52 Try.underlying5 Try.underlying9 (fun j hj => ?_)
  have e : (⟨b, 0, none⟩ : Addr).add j = ⟨b, j, none⟩ := by simp [Addr.add]; omega
  rw [e]
  simp only [World.cell?, H]
  rw [← Array.getElem?_toList, hM, List.getElem?_map, List.getElem?_eq_getElem hj]
  rfl
set_option maxRecDepth 100000 in
set_option maxHeartbeats 4000000 in
theorem big_calls (g : Nat) (w : World) : Calls Try.prog 11 #[.pointer (some ⟨g, 0, none⟩), .agg (vC bigV)] w fun e w' => e = .returned (.int .i64 1) ∧ Below w.heap.size w w' := by
  have H0 := (Holds.nil w).alloc (.cells (vC bigV) 30)
  have q0 : (w.alloc (.cells (vC bigV) 30)).cell? ⟨w.heap.size, 0, none⟩ = some (.int .i64 1) := H0.cell 0
  have q1 : (w.alloc (.cells (vC bigV) 30)).cell? ⟨w.heap.size, 1, none⟩ = some (.int .u8 0) := H0.cell 1
  have q2 : (w.alloc (.cells (vC bigV) 30)).cell? ⟨w.heap.size, 2, none⟩ = some (.string big) := H0.cell 2
  have HB := Lib.hid H0.below
  have hsz : big.size = 201 := by kernel_rfl
  have hsi : (200 : Int) < (big.size : Int) := by omega
  clear H0
  go_enter Try.func11, Try.ntmps11
  go_wp2_with fail
  refine (good_calls 1 0 _).mono ?_
  rintro e w1 ⟨rfl, hb⟩
  have p2 := cell_grow q2 hb
  have HB1 := Lib.hid (HB.out.trans (hb.mono HB.out.size))
  have hg : gd 1 = true := by decide
  clear hb q0 q1 q2
  simp only [hg]
  go_wp2_with fail
  go_ret
  exact ⟨rfl, HB1.out⟩
def fv (k : Nat) : Ver := ⟨k, 0, ⟨#[]⟩, false⟩
def fullL (k : Nat) : List Ver := (List.range k).map fv
theorem dw_nil (p : Ver → Bool) : ∀ l : List Ver, (∀ x ∈ l, p x = true) → l.dropWhile p = []
  | [], _ => rfl
  | a :: l, h => by
    rw [List.dropWhile_cons, if_pos (h a List.mem_cons_self)]
    exact dw_nil p l (fun x hx => h x (List.mem_cons_of_mem _ hx))
theorem full_put (k : Nat) (hk : k < 50) : putM (fullL k) (fv k) = (0, fullL (k + 1)) := by
  have hall : ∀ x ∈ fullL k, bel (k : Int) 0 x = true := by
    intro x hx
    obtain ⟨j, hj, rfl⟩ := List.mem_map.mp hx
    have := List.mem_range.mp hj
    unfold bel
    rw [decide_eq_true_eq, cs_lt]
    left
    show (j : Int) < (k : Int)
    omega
  have hhi : hi (fullL k) (k : Int) 0 = [] := by
    exact dw_nil _ _ hall
  have hlo : lo (fullL k) (k : Int) 0 = fullL k := by
    have := lo_hi (fullL k) (k : Int) 0
    rw [hhi, List.append_nil] at this
    exact this
  have hf : found (fullL k) (k : Int) 0 = false := by unfold found; rw [hhi]
  have hl : (fullL k).length = k := by simp [fullL]
  unfold putM
  rw [if_neg]
  · show (if found (fullL k) (k : Int) 0 then _ else _) = _
    rw [hf, if_neg (by decide), if_neg (by omega)]
    show (0, lo (fullL k) (k : Int) 0 ++ fv k :: hi (fullL k) (k : Int) 0) = _
    rw [hlo, hhi]
    simp [fullL, List.range_succ]
  · rintro (h | h | ⟨h, _⟩)
    · have : gd (k : Int) = true := decide_eq_true (by omega)
      rw [show (fv k).t = (k : Int) from rfl, this] at h
      cases h
    · exact absurd h (by show ¬ 200 < (⟨#[]⟩ : ByteArray).size; decide)
    · cases h
set_option maxRecDepth 100000 in
set_option maxHeartbeats 8000000 in
theorem known_walk (w : World) : Calls Try.prog 6 #[] w fun e w' => e = .returned (.bool true) ∧ Below w.heap.size w w' := by
  obtain ⟨MC, hMC, hmk⟩ := make201
  have HMC := Lib.hid hMC
  have HMK := Lib.hid hmk
  clear hMC hmk
  go_enter Try.func6, Try.ntmps6
  go_wp2_with fail
  refine (awake_calls w).mono ?_
  rintro e w1 ⟨rfl, hb⟩
  have HS := Lib.hid (Holds.of_below hb)
  clear hb
  go_wp2_with fail
  refine (new_calls w _ [] HS.out).mono ?_
  rintro e x0 ⟨g, rfl, h, hI, hH⟩
  have HI0 := Lib.hid hI; have HH0 := Lib.hid hH
  clear hI hH HS
  go_wp2_with fail
  refine (time_calls (-1) _).mono ?_
  rintro e x1 ⟨rfl, hb⟩
  have HI1 := HI0; have HH1 := Lib.hid (HH0.out.grow hb)
  clear hb HI0 HH0
  go_wp2_with fail
  refine (put_calls g [] (⟨(-1), 0, ⟨#[]⟩, false⟩ : Ver) _ _ w _ HI1.out HH1.out).mono ?_
  rintro e x2 ⟨he, h, hI, hH⟩
  have q : putM [] (⟨(-1), 0, ⟨#[]⟩, false⟩ : Ver) = (1, []) := by kernel_rfl
  rw [q] at he hI
  subst he
  have HI2 := Lib.hid hI; have HH2 := Lib.hid hH
  clear q hI hH HI1 HH1
  go_wp2_with fail
  refine (time_calls 1 _).mono ?_
  rintro e x3 ⟨rfl, hb⟩
  have HI3 := HI2; have HH3 := Lib.hid (HH2.out.grow hb)
  clear hb HI2 HH2
  go_wp2_with fail
  refine (put_calls g [] (⟨1, 0, ⟨#[120]⟩, true⟩ : Ver) _ _ w _ HI3.out HH3.out).mono ?_
  rintro e x4 ⟨he, h, hI, hH⟩
  have q : putM [] (⟨1, 0, ⟨#[120]⟩, true⟩ : Ver) = (1, []) := by kernel_rfl
  rw [q] at he hI
  subst he
  have HI4 := Lib.hid hI; have HH4 := Lib.hid hH
  clear q hI hH HI3 HH3
  go_wp2_with fail
  obtain ⟨W, hW⟩ : ∃ W, W = x4.drew := ⟨_, rfl⟩
  have HW := Lib.hid hW
  have HHW := Lib.hid (show Holds w (h ++ []) W by rw [hW]; exact HH4.out.drew)
  clear hW
  refine wp_region_vals 6 (by kernel_rfl) (by kernel_rfl) (by kernel_rfl) (fun Ls w' => Below W.heap.size W w') (fun w1 w2 => Below w1.heap.size w1 w2) (fun i w v => match i with | 0 => v = .pointer (some ⟨g, 0, none⟩) | 1 => v = (Value.agg (sC 1 0)) | 2 => ∃ b, v = .slice (some ⟨b, 0, none⟩) 201 201 ∧ w.heap[b]? = some (.cells MC 5 (0, 0)) | 3 => v = .string big | 4 => v = (Value.agg (vC bigV)) | 5 => v = .int .i64 1 | _ => True) (by rw [← HW.out]; exact Below.refl _ _) ?_ ?_ ?_
  · intro i v w1 w2 hS h
    match i, h with
    | 0, h => exact h
    | 1, h => exact h
    | 2, h => exact (by obtain ⟨b, rfl, hb⟩ := h; exact ⟨b, rfl, (hS.block _ (lt_of_block hb)).trans hb⟩)
    | 3, h => exact h
    | 4, h => exact h
    | 5, h => exact h
    | _ + 6, h => exact trivial
  · intro i o hi ho Ls f w1 hI hL hd
    match i, hi with
    | 0, _ =>
      obtain rfl := Option.some.inj ho
      clear hd ho
      unfold wpOp
      refine Or.inl ?_
      simp only [fill, List.take_succ_cons, List.take_zero, Act.put, List.setIfInBounds_toArray, List.set_cons_zero, List.set_cons_succ]
      unfold Oper.wp
      go_simp
      exact LeftBy.mk _ rfl (hI) (Below.refl _ _) (rfl)
    | 1, _ =>
      obtain rfl := Option.some.inj ho
      clear hd ho
      unfold wpOp
      refine Or.inl ?_
      simp only [fill, List.take_succ_cons, List.take_zero, Act.put, List.setIfInBounds_toArray, List.set_cons_zero, List.set_cons_succ]
      unfold Oper.wp
      go_simp
      refine (time_calls 1 w1).mono ?_
      rintro e w3 ⟨rfl, hB⟩
      exact LeftBy.mk _ rfl (hI.trans (hB.mono hI.size)) (hB) (rfl)
    | 2, _ =>
      obtain rfl := Option.some.inj ho
      clear hd ho
      unfold wpOp
      refine Or.inl ?_
      simp only [fill, List.take_succ_cons, List.take_zero, Act.put, List.setIfInBounds_toArray, List.set_cons_zero, List.set_cons_succ]
      unfold Oper.wp
      have hmk := HMK.out w1
      go_simp
      exact LeftBy.mk _ rfl (hI.alloc hI.size _) ((Below.refl _ _).alloc (Nat.le_refl _) _) (⟨w1.heap.size, rfl, heap_alloc_new w1 _⟩)
    | 3, _ =>
      obtain rfl := Option.some.inj ho
      have e2 := (hd ⟨2, .data⟩ (by simp) rfl).2
      obtain ⟨b, e2, hb⟩ := e2
      clear hd ho
      unfold wpOp
      refine Or.inl ?_
      simp only [fill, List.take_succ_cons, List.take_zero, Act.put, List.setIfInBounds_toArray, List.set_cons_zero, List.set_cons_succ, e2]
      unfold Oper.wp
      have hcv := conv_zb HMC.out hb
      go_simp
      exact LeftBy.mk _ rfl (hI) (Below.refl _ _) (rfl)
    | 4, _ =>
      obtain rfl := Option.some.inj ho
      have e1 : f 1 = (Value.agg (sC 1 0)) := (hd ⟨1, .data⟩ (by simp) rfl).2
      have e3 : f 3 = .string big := (hd ⟨3, .data⟩ (by simp) rfl).2
      clear hd ho
      unfold wpOp
      refine Or.inl ?_
      simp only [fill, List.take_succ_cons, List.take_zero, Act.put, List.setIfInBounds_toArray, List.set_cons_zero, List.set_cons_succ, e1, e3]
      unfold Oper.wp
      go_simp
      exact LeftBy.mk _ rfl (hI) (Below.refl _ _) (rfl)
    | 5, _ =>
      obtain rfl := Option.some.inj ho
      have e0 : f 0 = .pointer (some ⟨g, 0, none⟩) := (hd ⟨0, .data⟩ (by simp) rfl).2
      have e4 : f 4 = (Value.agg (vC bigV)) := (hd ⟨4, .data⟩ (by simp) rfl).2
      clear hd ho
      unfold wpOp
      refine Or.inl ?_
      simp only [fill, List.take_succ_cons, List.take_zero, Act.put, List.setIfInBounds_toArray, List.set_cons_zero, List.set_cons_succ, e0, e4]
      unfold Oper.wp
      go_simp
      refine (big_calls g w1).mono ?_
      rintro e w3 ⟨rfl, hB⟩
      exact LeftBy.mk _ rfl (hI.trans (hB.mono hI.size)) (hB) (rfl)
  · intro Ls f w1 hI hL hV
    have e0 : f 0 = .pointer (some ⟨g, 0, none⟩) := hV 0 (by decide) (by simp)
    have e1 : f 1 = (Value.agg (sC 1 0)) := hV 1 (by decide) (by simp)
    have e2 := hV 2 (by decide) (by simp)
    obtain ⟨b, e2, hb⟩ := e2
    have e3 : f 3 = .string big := hV 3 (by decide) (by simp)
    have e4 : f 4 = (Value.agg (vC bigV)) := hV 4 (by decide) (by simp)
    have e5 : f 5 = .int .i64 1 := hV 5 (by decide) (by simp)
    clear hV hL
    simp only [fill, List.take_succ_cons, List.take_zero, List.drop_succ_cons, List.drop_zero, Act.put, List.setIfInBounds_toArray, List.set_cons_zero, List.set_cons_succ, e0, e1, e2, e3, e4, e5]
    have HI5 := HI4; have HH5 := Lib.hid (HHW.out.grow hI)
    clear hI
    go_wp2_with fail
    refine (time_calls 1 _).mono ?_
    rintro e x6 ⟨rfl, hb⟩
    have HI6 := HI5; have HH6 := Lib.hid (HH5.out.grow hb)
    clear hb HI5 HH5
    go_wp2_with fail
    refine (put_calls g [] (⟨1, 0, ⟨#[120]⟩, false⟩ : Ver) _ _ w _ HI6.out HH6.out).mono ?_
    rintro e x7 ⟨he, h, hI, hH⟩
    have q : putM [] (⟨1, 0, ⟨#[120]⟩, false⟩ : Ver) = (0, [(⟨1, 0, ⟨#[120]⟩, false⟩ : Ver)]) := by kernel_rfl
    rw [q] at he hI
    subst he
    have HI7 := Lib.hid hI; have HH7 := Lib.hid hH
    clear q hI hH HI6 HH6
    go_wp2_with fail
    refine (time_calls 1 _).mono ?_
    rintro e x8 ⟨rfl, hb⟩
    have HI8 := HI7; have HH8 := Lib.hid (HH7.out.grow hb)
    clear hb HI7 HH7
    go_wp2_with fail
    refine (put_calls g [(⟨1, 0, ⟨#[120]⟩, false⟩ : Ver)] (⟨1, 0, ⟨#[121]⟩, false⟩ : Ver) _ _ w _ HI8.out HH8.out).mono ?_
    rintro e x9 ⟨he, h, hI, hH⟩
    have q : putM [(⟨1, 0, ⟨#[120]⟩, false⟩ : Ver)] (⟨1, 0, ⟨#[121]⟩, false⟩ : Ver) = (5, [(⟨1, 0, ⟨#[120]⟩, false⟩ : Ver)]) := by kernel_rfl
    rw [q] at he hI
    subst he
    have HI9 := Lib.hid hI; have HH9 := Lib.hid hH
    clear q hI hH HI8 HH8
    go_wp2_with fail
    refine (time_calls 2 _).mono ?_
    rintro e x10 ⟨rfl, hb⟩
    have HI10 := HI9; have HH10 := Lib.hid (HH9.out.grow hb)
    clear hb HI9 HH9
    go_wp2_with fail
    refine (put_calls g [(⟨1, 0, ⟨#[120]⟩, false⟩ : Ver)] (⟨2, 0, ⟨#[]⟩, true⟩ : Ver) _ _ w _ HI10.out HH10.out).mono ?_
    rintro e x11 ⟨he, h, hI, hH⟩
    have q : putM [(⟨1, 0, ⟨#[120]⟩, false⟩ : Ver)] (⟨2, 0, ⟨#[]⟩, true⟩ : Ver) = (0, [(⟨1, 0, ⟨#[120]⟩, false⟩ : Ver), (⟨2, 0, ⟨#[]⟩, true⟩ : Ver)]) := by kernel_rfl
    rw [q] at he hI
    subst he
    have HI11 := Lib.hid hI; have HH11 := Lib.hid hH
    clear q hI hH HI10 HH10
    go_wp2_with fail
    refine (time_calls 5 _).mono ?_
    rintro e x12 ⟨rfl, hb⟩
    have HI12 := HI11; have HH12 := Lib.hid (HH11.out.grow hb)
    clear hb HI11 HH11
    go_wp2_with fail
    refine (put_calls g [(⟨1, 0, ⟨#[120]⟩, false⟩ : Ver), (⟨2, 0, ⟨#[]⟩, true⟩ : Ver)] (⟨5, 0, ⟨#[118]⟩, false⟩ : Ver) _ _ w _ HI12.out HH12.out).mono ?_
    rintro e x13 ⟨he, h, hI, hH⟩
    have q : putM [(⟨1, 0, ⟨#[120]⟩, false⟩ : Ver), (⟨2, 0, ⟨#[]⟩, true⟩ : Ver)] (⟨5, 0, ⟨#[118]⟩, false⟩ : Ver) = (0, [(⟨1, 0, ⟨#[120]⟩, false⟩ : Ver), (⟨2, 0, ⟨#[]⟩, true⟩ : Ver), (⟨5, 0, ⟨#[118]⟩, false⟩ : Ver)]) := by kernel_rfl
    rw [q] at he hI
    subst he
    have HI13 := Lib.hid hI; have HH13 := Lib.hid hH
    clear q hI hH HI12 HH12
    go_wp2_with fail
    refine (time_calls 0 _).mono ?_
    rintro e x14 ⟨rfl, hb⟩
    have HI14 := HI13; have HH14 := Lib.hid (HH13.out.grow hb)
    clear hb HI13 HH13
    go_wp2_with fail
    refine (trim_calls g [(⟨1, 0, ⟨#[120]⟩, false⟩ : Ver), (⟨2, 0, ⟨#[]⟩, true⟩ : Ver), (⟨5, 0, ⟨#[118]⟩, false⟩ : Ver)] 0 0 _ _ w _ HI14.out HH14.out).mono ?_
    rintro e x15 ⟨he, h, hI, hH⟩
    have q : trimN [(⟨1, 0, ⟨#[120]⟩, false⟩ : Ver), (⟨2, 0, ⟨#[]⟩, true⟩ : Ver), (⟨5, 0, ⟨#[118]⟩, false⟩ : Ver)] 0 0 = 0 := by kernel_rfl
    rw [q] at he hI
    replace hI : IsC g [(⟨1, 0, ⟨#[120]⟩, false⟩ : Ver), (⟨2, 0, ⟨#[]⟩, true⟩ : Ver), (⟨5, 0, ⟨#[118]⟩, false⟩ : Ver)] h := hI
    subst he
    have HI15 := Lib.hid hI; have HH15 := Lib.hid hH
    clear q hI hH HI14 HH14
    go_wp2_with fail
    refine (time_calls 1 _).mono ?_
    rintro e x16 ⟨rfl, hb⟩
    have HI16 := HI15; have HH16 := Lib.hid (HH15.out.grow hb)
    clear hb HI15 HH15
    go_wp2_with fail
    refine (trim_calls g [(⟨1, 0, ⟨#[120]⟩, false⟩ : Ver), (⟨2, 0, ⟨#[]⟩, true⟩ : Ver), (⟨5, 0, ⟨#[118]⟩, false⟩ : Ver)] 1 0 _ _ w _ HI16.out HH16.out).mono ?_
    rintro e x17 ⟨he, h, hI, hH⟩
    have q : trimN [(⟨1, 0, ⟨#[120]⟩, false⟩ : Ver), (⟨2, 0, ⟨#[]⟩, true⟩ : Ver), (⟨5, 0, ⟨#[118]⟩, false⟩ : Ver)] 1 0 = 0 := by kernel_rfl
    rw [q] at he hI
    replace hI : IsC g [(⟨1, 0, ⟨#[120]⟩, false⟩ : Ver), (⟨2, 0, ⟨#[]⟩, true⟩ : Ver), (⟨5, 0, ⟨#[118]⟩, false⟩ : Ver)] h := hI
    subst he
    have HI17 := Lib.hid hI; have HH17 := Lib.hid hH
    clear q hI hH HI16 HH16
    go_wp2_with fail
    refine (time_calls 4 _).mono ?_
    rintro e x18 ⟨rfl, hb⟩
    have HI18 := HI17; have HH18 := Lib.hid (HH17.out.grow hb)
    clear hb HI17 HH17
    go_wp2_with fail
    refine (trim_calls g [(⟨1, 0, ⟨#[120]⟩, false⟩ : Ver), (⟨2, 0, ⟨#[]⟩, true⟩ : Ver), (⟨5, 0, ⟨#[118]⟩, false⟩ : Ver)] 4 0 _ _ w _ HI18.out HH18.out).mono ?_
    rintro e x19 ⟨he, h, hI, hH⟩
    have q : trimN [(⟨1, 0, ⟨#[120]⟩, false⟩ : Ver), (⟨2, 0, ⟨#[]⟩, true⟩ : Ver), (⟨5, 0, ⟨#[118]⟩, false⟩ : Ver)] 4 0 = 2 := by kernel_rfl
    rw [q] at he hI
    replace hI : IsC g [(⟨5, 0, ⟨#[118]⟩, false⟩ : Ver)] h := hI
    subst he
    have HI19 := Lib.hid hI; have HH19 := Lib.hid hH
    clear q hI hH HI18 HH18
    go_wp2_with fail
    refine (time_calls 9 _).mono ?_
    rintro e x20 ⟨rfl, hb⟩
    have HI20 := HI19; have HH20 := Lib.hid (HH19.out.grow hb)
    clear hb HI19 HH19
    go_wp2_with fail
    refine (trim_calls g [(⟨5, 0, ⟨#[118]⟩, false⟩ : Ver)] 9 0 _ _ w _ HI20.out HH20.out).mono ?_
    rintro e x21 ⟨he, h, hI, hH⟩
    have q : trimN [(⟨5, 0, ⟨#[118]⟩, false⟩ : Ver)] 9 0 = 0 := by kernel_rfl
    rw [q] at he hI
    replace hI : IsC g [(⟨5, 0, ⟨#[118]⟩, false⟩ : Ver)] h := hI
    subst he
    have HI21 := Lib.hid hI; have HH21 := Lib.hid hH
    clear q hI hH HI20 HH20
    go_wp2_with fail
    refine (all_calls g [(⟨5, 0, ⟨#[118]⟩, false⟩ : Ver)] _ _ w _ HI21.out HH21.out).mono ?_
    rintro e y1 ⟨v, rfl, hv, hRv, hH⟩
    obtain ⟨gL, cL, hvv, hlc, hcs⟩ := ver_at hRv 0 (⟨5, 0, ⟨#[118]⟩, false⟩ : Ver) rfl
    replace hvv : v = .slice (some ⟨gL, 0, none⟩) 1 cL := hvv
    subst hvv
    have HCS := Lib.hid hcs
    have HHa := Lib.hid hH
    clear hRv hH hcs HI21 HH21
    go_wp2_with fail
    refine (new_calls w _ (hv ++ (h ++ [])) HHa.out).mono ?_
    rintro e y2 ⟨g2, rfl, h2, hI, hH⟩
    have HI2 := Lib.hid hI; have HH2 := Lib.hid hH
    clear hI hH HHa
    go_wp2_with fail
    go_loopw [12] (fun i wr => ∃ (k : Nat) (h3 : Hp), k ≤ 50 ∧ i = .int .i64 k ∧ IsC g2 (fullL k) h3 ∧ Holds w (h3 ++ (hv ++ (h ++ []))) wr) (fun i _ => 50 - (intOf i).toNat)
    case atStart => exact ⟨0, h2, by omega, rfl, HI2.out, HH2.out⟩
    case round =>
      obtain ⟨k, h3, hk, rfl, hI, hH⟩ := hrel
      have HI3 := Lib.hid hI; have HH3 := Lib.hid hH
      clear hI hH HI2 HH2
      by_cases hlt : k < 50
      · go_wp2_with fail
        refine (time_calls k _).mono ?_
        rintro e z1 ⟨rfl, hb⟩
        have HH4 := Lib.hid (HH3.out.grow hb)
        have HQ := Lib.hid (full_put k hlt)
        clear hb
        go_wp2_with fail
        refine (put_calls g2 (fullL k) (fv k) _ _ w _ HI3.out HH4.out).mono ?_
        rintro e z2 ⟨he, h4, hI, hH⟩
        rw [HQ.out] at he hI
        subst he
        have HI5 := Lib.hid hI; have HH5 := Lib.hid hH
        clear hI hH
        go_wp2_with fail
        go_roundw
        case rel => exact ⟨k + 1, h4, by omega, by go_num, HI5.out, HH5.out⟩
        case measure => simp [intOf]; omega
      · obtain rfl : k = 50 := by omega
        obtain ⟨p0, p1, p2, p3⟩ := HCS.out w (h3 ++ (h ++ [])) wr (HH3.out.perm (by classical rw [List.perm_iff_count]; intro a; simp only [List.count_append, List.count_cons, List.count_nil]; omega))
        simp only [Nat.zero_mul, Nat.zero_add] at p0 p1 p2 p3
        clear p0 p1 p3
        go_wp2_with fail
        refine (time_calls 99 _).mono ?_
        rintro e z1 ⟨rfl, hb⟩
        have HH4 := Lib.hid (HH3.out.grow hb)
        clear hb p2
        go_wp2_with fail
        refine (put_calls g2 (fullL 50) (⟨99, 0, ⟨#[]⟩, false⟩ : Ver) _ _ w _ HI3.out HH4.out).mono ?_
        rintro e z2 ⟨he, h4, hI, hH⟩
        have q : putM (fullL 50) (⟨99, 0, ⟨#[]⟩, false⟩ : Ver) = (6, fullL 50) := by kernel_rfl
        rw [q] at he hI
        subst he
        have HI5 := Lib.hid hI; have HH5 := Lib.hid hH
        clear hI hH q
        go_wp2_with fail
        refine (time_calls 9 _).mono ?_
        rintro e z3 ⟨rfl, hb⟩
        have HH6 := Lib.hid (HH5.out.grow hb)
        clear hb
        go_wp2_with fail
        refine (put_calls g2 (fullL 50) (⟨9, 0, ⟨#[]⟩, false⟩ : Ver) _ _ w _ HI5.out HH6.out).mono ?_
        rintro e z4 ⟨he, h5, hI, hH⟩
        have q : putM (fullL 50) (⟨9, 0, ⟨#[]⟩, false⟩ : Ver) = (5, fullL 50) := by kernel_rfl
        rw [q] at he hI
        subst he
        have HH7 := Lib.hid hH
        clear hI hH q
        go_wp2_with fail
        go_ret
        exact ⟨rfl, HH7.out.below⟩
end Go.Proofs.Ytgkigcobaimccaa
