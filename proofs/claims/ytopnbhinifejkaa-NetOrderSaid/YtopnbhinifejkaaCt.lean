/- A net's Cut and Heal: contracts for every world. Conditions: each theorem's own. -/
import Derived.Test.YtopnbhinifejkaaNt
namespace Go.Proofs.Ytopnbhinifejkaa
open Go.RowKit Go.Proofs.Ytopnbhinifejkaa.Sp Go.ChangeMaps
set_option linter.unusedVariables false
set_option linter.unusedSimpArgs false
def cutM (m : NM) (a b : Int) (x : Bool) : NM := { m with cut := putKey (wayK a b) (.lit (.bool x)) m.cut }
def healM (m : NM) : NM := { m with cut := [] }
set_option maxRecDepth 100000 in
set_option maxHeartbeats 4000000 in
theorem cut_calls (g : Nat) (m : NM) (h F : Hp) (a b : Int) (x : Bool) (w0 w : World) (ha : (Lit.int .i64 a).wf = true) (hb : (Lit.int .i64 b).wf = true) (hn : m.cut.length < 1000000000) (hI : IsN g m h) (H : Holds w0 (h ++ F) w) :
    Calls Try.prog 20 #[.pointer (some ⟨g, 0, none⟩), .int .i64 a, .int .i64 b, .bool x] w fun e w' => e = .returned (.tuple #[]) ∧ ∃ h', IsN g (cutM m a b x) h' ∧ Holds w0 (h' ++ F) w' := by
  obtain ⟨mb, o, v, L, hr, hp, hM, hR, hP, hml, rfl, hok⟩ := hI
  obtain ⟨AL, cL, rfl, _, _⟩ := RowB.form hR
  have hH := H.drew
  obtain ⟨W, hW⟩ : ∃ W, W = w.drew := ⟨_, rfl⟩
  rw [← hW] at hH
  have HC3 := Lib.hid (fun w' (hb : Below W.heap.size W w') => show w'.cell? ⟨g, 3, none⟩ = some (.map (some mb)) from (hH.grow hb).cell 3)
  have HM := Lib.hid hM; have HR := Lib.hid hR; have HP := Lib.hid hP; have HML := Lib.hid hml; have HOK := Lib.hid hok
  have HH := Lib.hid hH
  have HW := Lib.hid hW
  have hmx : maxLen = 9223372036854775807 := rfl
  clear hM hR hP hml hok H hH hW
  go_enter Try.func20, Try.ntmps20
  go_wp2_with fail
  refine wp_region_vals 8 (by kernel_rfl) (by kernel_rfl) (by kernel_rfl) (fun Ls w' => Below W.heap.size W w') (fun w1 w2 => Below w1.heap.size w1 w2) (fun i w v => match i with | 0 => v = .pointer (some ⟨g, 0, none⟩) | 1 => v = .pointer (some ⟨g, 0, none⟩) | 2 => v = .pointer (some ⟨g, 3, none⟩) | 3 => v = .map (some mb) | 4 => v = .int .i64 a | 5 => v = .int .i64 b | 6 => v = (Value.agg (wayC a b)) | 7 => v = .bool x | _ => True) (by rw [HW.out]; exact Below.refl _ _) ?_ ?_ ?_
  · intro i v w1 w2 hS h
    match i, h with
    | 0, h => exact h
    | 1, h => exact h
    | 2, h => exact h
    | 3, h => exact h
    | 4, h => exact h
    | 5, h => exact h
    | 6, h => exact h
    | 7, h => exact h
    | _ + 8, h => exact trivial
  · intro i o hi ho Ls f w1 hI hL hd
    match i, hi with
    | 0, _ =>
      obtain rfl := Option.some.inj ho
      have q3 := HC3.out w1 hI
      clear hd ho
      unfold wpOp
      refine Or.inl ?_
      simp only [fill, List.take_succ_cons, List.take_zero, Act.put, List.setIfInBounds_toArray, List.set_cons_zero, List.set_cons_succ]
      unfold Oper.wp
      go_simp
      exact LeftBy.mk _ rfl (hI) (Below.refl _ _) (rfl)
    | 1, _ =>
      obtain rfl := Option.some.inj ho
      have e0 : f 0 = .pointer (some ⟨g, 0, none⟩) := (hd ⟨0, .data⟩ (by simp) rfl).2
      have q3 := HC3.out w1 hI
      clear hd ho
      unfold wpOp
      refine Or.inl ?_
      simp only [fill, List.take_succ_cons, List.take_zero, Act.put, List.setIfInBounds_toArray, List.set_cons_zero, List.set_cons_succ, e0]
      unfold Oper.wp
      go_simp
      exact LeftBy.mk _ rfl (hI) (Below.refl _ _) (rfl)
    | 2, _ =>
      obtain rfl := Option.some.inj ho
      have e1 : f 1 = .pointer (some ⟨g, 0, none⟩) := (hd ⟨1, .data⟩ (by simp) rfl).2
      have q3 := HC3.out w1 hI
      clear hd ho
      unfold wpOp
      refine Or.inl ?_
      simp only [fill, List.take_succ_cons, List.take_zero, Act.put, List.setIfInBounds_toArray, List.set_cons_zero, List.set_cons_succ, e1]
      unfold Oper.wp
      go_simp
      exact LeftBy.mk _ rfl (hI) (Below.refl _ _) (rfl)
    | 3, _ =>
      obtain rfl := Option.some.inj ho
      have e2 : f 2 = .pointer (some ⟨g, 3, none⟩) := (hd ⟨2, .data⟩ (by simp) rfl).2
      have q3 := HC3.out w1 hI
      clear hd ho
      unfold wpOp
      refine Or.inl ?_
      simp only [fill, List.take_succ_cons, List.take_zero, Act.put, List.setIfInBounds_toArray, List.set_cons_zero, List.set_cons_succ, e2]
      unfold Oper.wp
      go_simp
      exact LeftBy.mk _ rfl (hI) (Below.refl _ _) (rfl)
    | 4, _ =>
      obtain rfl := Option.some.inj ho
      have q3 := HC3.out w1 hI
      clear hd ho
      unfold wpOp
      refine Or.inl ?_
      simp only [fill, List.take_succ_cons, List.take_zero, Act.put, List.setIfInBounds_toArray, List.set_cons_zero, List.set_cons_succ]
      unfold Oper.wp
      go_simp
      exact LeftBy.mk _ rfl (hI) (Below.refl _ _) (rfl)
    | 5, _ =>
      obtain rfl := Option.some.inj ho
      have q3 := HC3.out w1 hI
      clear hd ho
      unfold wpOp
      refine Or.inl ?_
      simp only [fill, List.take_succ_cons, List.take_zero, Act.put, List.setIfInBounds_toArray, List.set_cons_zero, List.set_cons_succ]
      unfold Oper.wp
      go_simp
      exact LeftBy.mk _ rfl (hI) (Below.refl _ _) (rfl)
    | 6, _ =>
      obtain rfl := Option.some.inj ho
      have e4 : f 4 = .int .i64 a := (hd ⟨4, .data⟩ (by simp) rfl).2
      have e5 : f 5 = .int .i64 b := (hd ⟨5, .data⟩ (by simp) rfl).2
      have q3 := HC3.out w1 hI
      clear hd ho
      unfold wpOp
      refine Or.inl ?_
      simp only [fill, List.take_succ_cons, List.take_zero, Act.put, List.setIfInBounds_toArray, List.set_cons_zero, List.set_cons_succ, e4, e5]
      unfold Oper.wp
      go_simp
      refine (way_calls a b w1).mono ?_
      rintro e w3 ⟨rfl, hB⟩
      exact LeftBy.mk _ rfl (hI.trans (hB.mono hI.size)) (hB) (rfl)
    | 7, _ =>
      obtain rfl := Option.some.inj ho
      have q3 := HC3.out w1 hI
      clear hd ho
      unfold wpOp
      refine Or.inl ?_
      simp only [fill, List.take_succ_cons, List.take_zero, Act.put, List.setIfInBounds_toArray, List.set_cons_zero, List.set_cons_succ]
      unfold Oper.wp
      go_simp
      exact LeftBy.mk _ rfl (hI) (Below.refl _ _) (rfl)
  · intro Ls f w1 hI hL hV
    have e0 : f 0 = .pointer (some ⟨g, 0, none⟩) := hV 0 (by decide) (by simp)
    have e1 : f 1 = .pointer (some ⟨g, 0, none⟩) := hV 1 (by decide) (by simp)
    have e2 : f 2 = .pointer (some ⟨g, 3, none⟩) := hV 2 (by decide) (by simp)
    have e3 : f 3 = .map (some mb) := hV 3 (by decide) (by simp)
    have e4 : f 4 = .int .i64 a := hV 4 (by decide) (by simp)
    have e5 : f 5 = .int .i64 b := hV 5 (by decide) (by simp)
    have e6 : f 6 = (Value.agg (wayC a b)) := hV 6 (by decide) (by simp)
    have e7 : f 7 = .bool x := hV 7 (by decide) (by simp)
    clear hV hL
    simp only [fill, List.take_succ_cons, List.take_zero, List.drop_succ_cons, List.drop_zero, Act.put, List.setIfInBounds_toArray, List.set_cons_zero, List.set_cons_succ, e0, e1, e2, e3, e4, e5, e6, e7]
    have hH1 := HH.out.grow hI
    obtain ⟨w2, o2, hrun, ho2, hM2, hgr⟩ := mp_put hH1.tail.get HM.out key59 Try.underlying55 (by omega) (way_key a b ha hb) (d := .lit (.bool x)) (ps := []) (show boolR (.bool x) = _ from rfl)
    have hH2 : Holds w0 ([(g, netO m.nodes m.room (.slice AL L.length cL) mb)] ++ (mb, o2) :: (hr ++ hp ++ F)) w2 := Holds.turn_mid (h := [(g, netO m.nodes m.room (.slice AL L.length cL) mb)]) hH1 hgr ho2
    have HN := Lib.hid hH2
    have HM2 := Lib.hid hM2
    clear hH1 hH2 hM2 hgr ho2 hI
    go_wp2_with fail
    refine bodyPost_end (v := .tuple #[]) (by simp [results, Try.results20, go_sem]) rfl ⟨rfl, _, ⟨mb, o2, _, L, hr, hp, HM2.out, HR.out, HP.out, HML.out, rfl, ?_⟩, HN.out⟩
    exact ⟨HOK.out.nodes, HOK.out.room, HOK.out.len, HOK.out.small, HOK.out.wf⟩
theorem heal_calls (g : Nat) (m : NM) (h F : Hp) (w0 w : World) (hI : IsN g m h) (H : Holds w0 (h ++ F) w) :
    Calls Try.prog 22 #[.pointer (some ⟨g, 0, none⟩)] w fun e w' => e = .returned (.tuple #[]) ∧ ∃ h', IsN g (healM m) h' ∧ Holds w0 (h' ++ F) w' := by
  obtain ⟨mb, o, v, L, hr, hp, hM, hR, hP, hml, rfl, hok⟩ := hI
  have hb : w.heap[mb]? = some o := H.tail.get
  obtain ⟨es, clock, rfl, _⟩ := hM
  have c3 : w.cell? ⟨g, 3, none⟩ = some (.map (some mb)) := H.cell 3
  have hrun : ∀ ty, (Builtin.clear_ #[55] ty #[.map (some mb)]).run Try.prog w = .ok (.tuple #[]) (setBlock w mb (.map #[] clock)) := by
    intro ty
    simp [Builtin.clear_, run_underlying Try.underlying55, MapKept.run_getObj_map hb, MapKept.run_setObj_map _ hb, Result.andThen, setBlock]
  have hgr : w.grownBy (setBlock w mb (.map #[] clock)) (some mb) := ⟨rfl, rfl, rfl, by simp [setBlock], fun i _ hi => heap_setBlock_other hb _ (fun e1 => hi (by rw [e1]))⟩
  have hob : (setBlock w mb (.map #[] clock)).heap[mb]? = some (.map #[] clock) := heap_setBlock_same hb _
  have hH2 : Holds w0 ([(g, netO m.nodes m.room v mb)] ++ (mb, .map #[] clock) :: (hr ++ hp ++ F)) (setBlock w mb (.map #[] clock)) := Holds.turn_mid (h := [(g, netO m.nodes m.room v mb)]) H hgr hob
  have HN := Lib.hid hH2
  have HR := Lib.hid hR; have HP := Lib.hid hP; have HML := Lib.hid hml; have HOK := Lib.hid hok
  have HRUN := Lib.hid hrun
  clear hb hgr hob hH2 hR hP hml hok H
  go_enter Try.func22, Try.ntmps22
  go_wp2
  refine bodyPost_end (v := .tuple #[]) (by simp [results, Try.results22, go_sem]) rfl ⟨rfl, _, ⟨mb, .map #[] clock, _, L, hr, hp, ⟨#[], clock, rfl, ⟨by simp, Go.MapKept.stamped_empty clock, by simp⟩, rfl⟩, HR.out, HP.out, HML.out, rfl, ?_⟩, HN.out⟩
  exact ⟨HOK.out.nodes, HOK.out.room, HOK.out.len, HOK.out.small, HOK.out.wf⟩
end Go.Proofs.Ytopnbhinifejkaa
