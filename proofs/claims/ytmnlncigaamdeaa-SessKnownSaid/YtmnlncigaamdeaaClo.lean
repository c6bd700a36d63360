/- Closing a session: a contract for every world. Conditions: the theorem's own. -/
import Derived.Test.YtmnlncigaamdeaaCli
namespace Go.Proofs.Ytmnlncigaamdeaa
open Go.RowKit Go.Proofs.Ytmnlncigaamdeaa.Sp
set_option linter.unusedVariables false
set_option linter.unusedSimpArgs false
def closed (m : SM) (id : Int) : Int × SM := match m.find id with
  | some _ => (0, { m with cl := m.cl.filter fun x => !decide (x.1 = id) })
  | none => (4, m)
theorem del_Es (id : Int) (L : List Row) : Go.ChangeMaps.delKey (.int .i64 id) (Es L) = Es (L.filter fun x => !decide (x.1 = id)) := by
  unfold Go.ChangeMaps.delKey Es
  rw [List.filter_map]
  congr 1
  refine List.filter_congr fun x hx => ?_
  by_cases h : x.1 = id
  · simp [Function.comp, Go.ChangeMaps.notKey, h, Lit.sameKey]
  · simp [Function.comp, Go.ChangeMaps.notKey, h, Lit.sameKey]
theorem off_abs (id : Int) (L : List Row) : (absL L).filter (fun x => !decide (x.1 = id)) = absL (L.filter fun x => !decide (x.1 = id)) := by
  unfold absL
  rw [List.filter_map]
  rfl
set_option maxRecDepth 100000 in
set_option maxHeartbeats 2000000 in
theorem close_calls (g : Nat) (m : SM) (h F : Hp) (id : Int) (w0 w : World) (hid : (Lit.int .i64 id).wf = true) (hI : IsS g m h) (H : Holds w0 (h ++ F) w) :
    Calls Try.prog 13 #[.pointer (some ⟨g, 0, none⟩), .int .i64 id] w fun e w' => e = .returned (.int .i64 (closed m id).1) ∧ ∃ h', IsS g (closed m id).2 h' ∧ Holds w0 (h' ++ F) w' := by
  obtain ⟨mb, o, L, hM, hcl, rfl, hok⟩ := hI
  have c2 : w.cell? ⟨g, 2, none⟩ = some (.map (some mb)) := H.cell 2
  have hmb : w.heap[mb]? = some o := H.tail.get
  unfold closed SM.find
  rw [hcl, find_abs]
  rcases look id hid hmb hM with ⟨hf, hlk⟩ | ⟨x, hf, hlk⟩
  · rw [hf]
    have HH := Lib.hid H
    have HI := Lib.hid (show IsS g m _ from ⟨mb, o, L, hM, hcl, rfl, hok⟩)
    clear H hM hcl hok hmb hf
    go_enter Try.func13, Try.ntmps13
    go_wp2
    go_ret
    exact ⟨rfl, _, HI.out, HH.out⟩
  · rw [hf]
    obtain ⟨w4, o4, hrun, ho4, hM4, hg4⟩ := mp_del hmb hM (Go.Maps.int_keyed Try.underlying2) Try.underlying45 (Go.Maps.keyOf_int_mk Try.underlying2 hid) 0
    rw [del_Es] at hM4
    have H4 : Holds w0 ((g, sessO m.room m.last mb) :: (mb, o4) :: (clis (L.filter fun x => !decide (x.1 = id)) ++ F)) w4 :=
      (((H.perm (k := (mb, o) :: ((g, sessO m.room m.last mb) :: (clis L ++ F))) (List.Perm.swap _ _ _)).turn hg4 ho4).perm (List.Perm.swap _ _ _)).sub (((List.Sublist.append ((List.filter_sublist).map _) (List.Sublist.refl F)).cons_cons _).cons_cons _)
    have HH4 := Lib.hid H4; have HM4 := Lib.hid hM4; have HCL := Lib.hid hcl; have HOK := Lib.hid hok
    clear H hM hcl hok hmb hf H4 hM4 hg4 ho4
    go_enter Try.func13, Try.ntmps13
    go_wp2
    go_ret
    refine ⟨rfl, _, ⟨mb, o4, _, HM4.out, ?_, rfl, ?_⟩, HH4.out⟩
    · exact off_abs id L
    · obtain ⟨k1, k2, k3⟩ := HOK.out
      rw [HCL.out] at k1 k2
      exact ⟨k1.sublist (List.filter_sublist.map _), fun x hx => k2 x (List.filter_sublist.subset hx), k3⟩
end Go.Proofs.Ytmnlncigaamdeaa
