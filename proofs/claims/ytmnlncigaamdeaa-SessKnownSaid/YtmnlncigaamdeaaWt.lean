/- Whose requests wait, where all wait: Waiting's contract. Conditions: the theorems' own. -/
import Derived.Test.YtmnlncigaamdeaaAl
import Derived.Test.YtmnlncigaamdeaaClo
namespace Go.Proofs.Ytmnlncigaamdeaa
open Go.RowKit Go.Proofs.Ytmnlncigaamdeaa.Sp
set_option linter.unusedVariables false
set_option linter.unusedSimpArgs false
/-- The closure: does a session's request not wait? -/
theorem clo_calls (g bx : Nat) (m : SM) (h F : Hp) (id : Int) (c : Cli) (w0 w : World) (hid : (Lit.int .i64 id).wf = true) (hI : IsS g m h) (H : Sp.Holds w0 (h ++ F) w) (hf : m.find id = some (id, c)) (hbx : w.cell? ⟨bx, 0, none⟩ = some (.pointer (some ⟨g, 0, none⟩))) :
    Calls Try.prog 24 #[.int .i64 id, .pointer (some ⟨bx, 0, none⟩)] w fun e w' => e = .returned (.bool (!c.waits)) ∧ w = w' := by
  obtain ⟨mb, o, L, hM, hcl, rfl, hok⟩ := hI
  have c2 : w.cell? ⟨g, 2, none⟩ = some (.map (some mb)) := H.cell 2
  have hmb : w.heap[mb]? = some o := H.tail.get
  unfold SM.find at hf
  rw [hcl, find_abs] at hf
  rcases look id hid hmb hM with ⟨hf2, hlk⟩ | ⟨x, hf2, hlk⟩
  · rw [hf2] at hf
    cases hf
  · rw [hf2] at hf
    obtain ⟨L1, L2, rfl, hxi, _⟩ := find_split hf2
    obtain ⟨xi, b, c'⟩ := x
    injection hf with hf
    injection hf with hf1 hf3
    subst hf3
    have hb : w.heap[b]? = some (cliO c') := H.mem (x := (b, cliO c')) (by simp [sessH, clis])
    have c3 : w.cell? ⟨b, 3, none⟩ = some (.bool c'.waits) := by simp [World.cell?, hb, cliO, cliC]
    clear hf2 hM hcl hok H hmb hb hf1 hxi
    go_enter Try.func24, Try.ntmps24
    go_wp2
    go_ret
    exact ⟨rfl, rfl⟩
/-- IndexFunc where no element is met. -/
theorem idx_none (fb : Array Value) (ad : Addr) (zs : List Int) (cap : Nat) (w : World) (hz : zs.length ≤ 1000000000) (hr : ∀ j z, zs[j]? = some z → w.cell? (ad.add j) = some (.int .i64 z))
    (hc : Hid (∀ z ∈ zs, Calls Try.prog 24 (#[.int .i64 z] ++ fb) w fun e w' => e = .returned (.bool false) ∧ w = w')) :
    Calls Try.prog 28 #[.slice (some ad) zs.length cap, .func (.func 24) #[] fb] w fun e w' => e = .returned (.int .i64 (-1)) ∧ w = w' := by
  have HR := Lib.hid hr
  clear hr
  go_enter Try.func28, Try.ntmps28
  go_wp2
  go_loopw [8] (fun i wr => w = wr ∧ ∃ k : Nat, k ≤ zs.length ∧ i = .int .i64 k) (fun i _ => zs.length - (intOf i).toNat)
  case atStart => exact ⟨rfl, 0, by omega, rfl⟩
  case round =>
    obtain ⟨rfl, k, hk, rfl⟩ := hrel
    by_cases hlt : k < zs.length
    · obtain ⟨z, hzk⟩ : ∃ z, zs[k]? = some z := ⟨_, List.getElem?_eq_getElem hlt⟩
      have hcell := HR.out k z hzk
      have HC := hc.out z (List.mem_of_getElem? hzk)
      have HC2 := Lib.hid HC
      clear HC hzk
      go_wp2_with fail
      refine HC2.out.mono ?_
      rintro e w' ⟨rfl, rfl⟩
      go_wp2_with fail
      exact ⟨⟨trivial, k + 1, by omega, by simp⟩, by simp [intOf]; omega⟩
    · go_wp2_with fail
      go_ret
      exact ⟨rfl, rfl⟩
theorem del_none (fb : Array Value) (ad : Addr) (zs : List Int) (cap : Nat) (w : World) (hz : zs.length ≤ 1000000000) (hr : ∀ j z, zs[j]? = some z → w.cell? (ad.add j) = some (.int .i64 z))
    (hc : Hid (∀ z ∈ zs, Calls Try.prog 24 (#[.int .i64 z] ++ fb) w fun e w' => e = .returned (.bool false) ∧ w = w')) :
    Calls Try.prog 23 #[.slice (some ad) zs.length cap, .func (.func 24) #[] fb] w fun e w' => e = .returned (.slice (some ad) zs.length cap) ∧ w = w' := by
  have HX := Lib.hid (idx_none fb ad zs cap w hz hr hc)
  clear hr
  go_enter Try.func23, Try.ntmps23
  go_wp2_with fail
  refine HX.out.mono ?_
  rintro e w' ⟨rfl, rfl⟩
  go_wp2_with fail
  go_ret
  exact ⟨rfl, rfl⟩
theorem row_reads {w0 w : World} {F hv : Hp} {v : Value} {zs : List Int} (R : RowB 2 1 v zs.length (zs.map encZ) hv) (H : Sp.Holds w0 (hv ++ F) w) (hne : zs ≠ []) :
    ∃ ad cap, v = .slice (some ad) zs.length cap ∧ ∀ j z, zs[j]? = some z → w.cell? (ad.add j) = some (.int .i64 z) := by
  obtain ⟨A, c, rfl, _, hc, hr⟩ := R.reads H
  cases A with
  | none => exact absurd (List.eq_nil_of_length_eq_zero (hr.2.1 rfl)) hne
  | some ad => exact ⟨ad, c, rfl, fun j z hj => hr.2.2 ad rfl j _ (by simp [hj, encZ])⟩
theorem waiting_calls (g : Nat) (m : SM) (h F : Hp) (w0 w : World) (hcnt : m.cl.length < 1000000000) (hne : m.cl ≠ []) (hw : ∀ x ∈ m.cl, m.find x.1 = some x ∧ x.2.waits = true ∧ (Lit.int .i64 x.1).wf = true) (hI : IsS g m h) (H : Sp.Holds w0 (h ++ F) w) :
    Calls Try.prog 12 #[.pointer (some ⟨g, 0, none⟩)] w fun e w' => ∃ v, e = .returned v ∧ ∃ hv, RowB 2 1 v (allM m).length ((allM m).map encZ) hv ∧ ∃ h', IsS g m h' ∧ Sp.Holds w0 (h' ++ (hv ++ F)) w' := by
  have HI := Lib.hid hI
  have H1 := (H.alloc (.cells #[.pointer (some ⟨g, 0, none⟩)] 24)).perm (k := h ++ ((w.heap.size, .cells #[.pointer (some ⟨g, 0, none⟩)] 24 (0, 0)) :: F)) (List.perm_middle.symm)
  have c0 : (w.alloc (.cells #[.pointer (some ⟨g, 0, none⟩)] 24)).cell? ⟨w.heap.size, 0, none⟩ = some (.pointer (some ⟨g, 0, none⟩)) := H1.right.cell 0
  have HH := Lib.hid H1
  have HW := Lib.hid hw
  clear hI H H1 hw
  go_enter Try.func12, Try.ntmps12
  go_wp2_with fail
  refine (all_calls g m h _ w0 _ hcnt HI.out HH.out).mono ?_
  rintro e w1 ⟨v, rfl, hv, R, h', hI, hH⟩
  have hne2 : allM m ≠ [] := by unfold allM; simpa using hne
  obtain ⟨ad, cap, rfl, hr⟩ := row_reads R (hH.perm (k := hv ++ (h' ++ ((w.heap.size, .cells #[.pointer (some ⟨g, 0, none⟩)] 24 (0, 0)) :: F))) (by classical rw [List.perm_iff_count]; intro a; simp only [List.count_append, List.count_cons, List.count_nil]; omega)) hne2
  have hbx : w1.cell? ⟨w.heap.size, 0, none⟩ = some (.pointer (some ⟨g, 0, none⟩)) := hH.right.right.cell 0
  have hc : ∀ z ∈ allM m, Calls Try.prog 24 (#[.int .i64 z] ++ #[.pointer (some ⟨w.heap.size, 0, none⟩)]) w1 fun e w' => e = .returned (.bool false) ∧ w1 = w' := by
    intro z hz
    obtain ⟨x, hx, rfl⟩ := List.mem_map.mp hz
    obtain ⟨k1, k2, k3⟩ := HW.out x hx
    have := clo_calls g w.heap.size m h' _ x.1 x.2 w0 w1 k3 hI hH k1 hbx
    rw [k2] at this
    exact this
  have HD := Lib.hid (del_none #[.pointer (some ⟨w.heap.size, 0, none⟩)] ad (allM m) cap w1 (by unfold allM; simp; omega) hr hc)
  have HI2 := Lib.hid hI; have HR2 := Lib.hid R; have HH2 := Lib.hid hH
  clear hI R hH hr hbx hc hne2 c0
  go_wp2_with fail
  refine HD.out.mono ?_
  rintro e w' ⟨rfl, rfl⟩
  go_wp2_with fail
  go_ret
  exact ⟨_, rfl, hv, HR2.out, h', HI2.out, HH2.out.sub (List.Sublist.append (List.Sublist.refl _) (List.Sublist.append (List.Sublist.refl _) (List.sublist_cons_self _ _)))⟩
theorem bel_drewN {w w' : World} (h : Below w.heap.size w w') (n : Nat) : Below w.heap.size w (w'.drewN n) := ⟨h.os, h.tape, h.output, h.size, h.block⟩
/-- Two rows of the same numbers are alike. -/
theorem same_eq (a b : Addr) (zs : List Int) (ca cb : Nat) (w : World) (hz : zs.length ≤ 1000000000) (hr : ∀ w', Below w.heap.size w w' → ∀ j z, zs[j]? = some z → w'.cell? (a.add j) = some (.int .i64 z)) (hs : ∀ w', Below w.heap.size w w' → ∀ j z, zs[j]? = some z → w'.cell? (b.add j) = some (.int .i64 z)) :
    Calls Try.prog 14 #[.slice (some a) zs.length ca, .slice (some b) zs.length cb] w fun e w' => e = .returned (.bool true) ∧ Below w.heap.size w w' := by
  have HR := Lib.hid hr; have HS := Lib.hid hs
  clear hr hs
  go_enter Try.func14, Try.ntmps14
  go_wp2
  go_loopw [5] (fun i wr => Below w.heap.size w wr ∧ ∃ k : Nat, k ≤ zs.length ∧ i = .int .i64 k) (fun i _ => zs.length - (intOf i).toNat)
  case atStart => exact ⟨Below.refl _ w, 0, by omega, rfl⟩
  case round =>
    obtain ⟨hb, k, hk, rfl⟩ := hrel
    have HB := Lib.hid hb
    clear hb
    by_cases hlt : k < zs.length
    · obtain ⟨z, hzk⟩ : ∃ z, zs[k]? = some z := ⟨_, List.getElem?_eq_getElem hlt⟩
      have h1 : ∀ n, (wr.drewN n).cell? (a.add k) = some (.int .i64 z) := fun n => HR.out _ (bel_drewN HB.out n) k z hzk
      have h2 : ∀ n, (wr.drewN n).cell? (b.add k) = some (.int .i64 z) := fun n => HS.out _ (bel_drewN HB.out n) k z hzk
      clear hzk
      go_wp2_with fail
      go_quiet (fail)
      go_wp2_with fail
      exact ⟨⟨bel_drewN HB.out _, k + 1, by omega, by simp⟩, by simp [intOf]; omega⟩
    · go_wp2_with fail
      go_ret
      exact ⟨rfl, HB.out⟩
end Go.Proofs.Ytmnlncigaamdeaa
