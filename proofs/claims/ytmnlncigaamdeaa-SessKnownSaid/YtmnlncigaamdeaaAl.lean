/- All sessions: slices.Sorted(maps.Keys(m)) at whole numbers by the shelf's contracts; All's contract. Conditions: the theorems' own. -/
import Derived.Shelf.SlIterI.Sorted
import Derived.Shelf.SlIterI.Collect
import Derived.Shelf.SortM.Plain
import Derived.Shelf.SortM.SortNone
import Derived.Ground.GgzProg
import Derived.Ground.SlgmProg
import Derived.Lib.SlKeysI
import Derived.Test.YtmnlncigaamdeaaCli
import Derived.Test.YtmnlncigaamdeaaRw
namespace Go.Proofs
open Go.RowKit Go.Maps Go.Sort Go.Shelf
shelf_lay_g SlLaysZI.n7 Ggz 7 at Try 26 as Try.keys26
shelf_lay_g SlLaysZI.n6 Ggz 6 at Try 25 as Try.sorted25
shelf_lay_g SlLaysM.n5 Slgm 5 at Try 30 as Try.sort30
theorem Try.sorts25 (m : Nat) : AnyZI.SortsIn Try.prog Try.sorted25_ren Fence.wide m :=
  ⟨fun blk off cap ss W hH hblk hsz => callsIn_wide.2 (AnyM.slices_Sort_int Try.sort30 blk off cap ss W hH hblk hsz),
   fun p cap W => callsIn_wide.2 (AnyM.slices_Sort_int_none Try.sort30 p cap W)⟩
theorem Try.maps_Keys_26 (mb : Option Nat) (W : World) : CallsIn Fence.wide 5 Try.prog 26 #[.map mb] W fun e w' => e = .returned (.func (.func 31) #[] #[.pointer (some ⟨W.heap.size, 0, none⟩)]) ∧ w' = W.alloc (.cells #[.map mb] 45) :=
  AnyZI.keys_in Try.keys26 Fence.wide 5 trivial rfl mb W
set_option maxHeartbeats 1000000 in
theorem Try.slices_Sorted_keys_25 {H : Type} (b nn : Nat) (D0 : DataW H) (R : Value → Option (DataW H × List MemPlace)) (w : World) (hown : w.ownsMap Try.prog 2 R b nn D0) (hmax : Maps.size D0 ≤ maxLen) (hbytes : Maps.size D0 * 8 ≤ 140737488355328) :
    CallsIn Fence.wide 5 Try.prog 25 #[.func (.func 31) #[] #[.pointer (some ⟨w.heap.size, 0, none⟩)]] (w.alloc (.cells #[.map (some b)] 45)) fun e w' => ∃ (v : Value) (ss : List Int), e = .returned v ∧ ss.Perm (intKeys D0) ∧
      w'.ownsRow (w.alloc (.cells #[.map (some b)] 45)).heap.size 2 1 v ss.length ((ss.mergeSort (fun x y => decide (x ≤ y))).map encZ) ∧ (v = .slice none 0 0 ↔ ss = []) ∧ Below (w.alloc (.cells #[.map (some b)] 45)).heap.size (w.alloc (.cells #[.map (some b)] 45)) w' := by
  have hbl := hown.lt
  have hseq : SeqGives Fence.wide 2 Try.prog 31 #[.pointer (some ⟨w.heap.size, 0, none⟩)] encZ (fun ss => ss.Perm (intKeys D0)) (Maps.size D0) (w.alloc (.cells #[.map (some b)] 45)) :=
    AnyZI.keys_gives (ρ := Try.keys26_ren) { Try.keys26 with } Fence.wide _ trivial rfl (by omega) w.heap.size b nn D0 _ (by simp) (by simp) (by
      obtain ⟨es, clock, hb, Ft, hs, hD⟩ := hown
      exact ⟨es, clock, (Below.heap_alloc _ _ b hbl).trans hb, Ft, hs, hD⟩)
  exact AnyZI.sorted_in Try.sorted25 Fence.wide 5 trivial trivial trivial trivial rfl (by omega) (Try.sorts25 _) (enters_of Try.func30 (by kernel_rfl) rfl) 31 #[.pointer (some ⟨w.heap.size, 0, none⟩)] trivial (enters_of Try.func31 (by kernel_rfl) rfl) _ _ hmax hbytes _ hseq
end Go.Proofs
namespace Go.Proofs.Ytmnlncigaamdeaa
open Go.RowKit Go.Maps Go.Sort Go.Shelf Go.Proofs.Ytmnlncigaamdeaa.Sp
set_option linter.unusedVariables false
set_option linter.unusedSimpArgs false
def allM (m : SM) : List Int := m.cl.map (·.1)
theorem intKeys_Es (L : List Row) : intKeys (DataW.map (Es L)) = (absL L).map (·.1) := by
  simp only [intKeys, Es, absL, List.map_map]
  rfl
theorem sort_all {m : SM} (hok : m.ok) {ss : List Int} (h : ss.Perm (allM m)) : ss.mergeSort (fun x y => decide (x ≤ y)) = allM m := by
  have e := mergeSort_of_perm_i h
  refine e.trans (List.mergeSort_of_pairwise ?_)
  exact hok.1.imp (fun {a b} h => by simp only [leI, decide_eq_true_eq]; omega)
set_option maxRecDepth 100000 in
set_option maxHeartbeats 2000000 in
theorem all_calls (g : Nat) (m : SM) (h F : Hp) (w0 w : World) (hcnt : m.cl.length < 1000000000) (hI : IsS g m h) (H : Sp.Holds w0 (h ++ F) w) :
    Calls Try.prog 15 #[.pointer (some ⟨g, 0, none⟩)] w fun e w' => ∃ v, e = .returned v ∧ ∃ hv, RowB 2 1 v (allM m).length ((allM m).map encZ) hv ∧ ∃ h', IsS g m h' ∧ Sp.Holds w0 (h' ++ (hv ++ F)) w' := by
  obtain ⟨mb, o, L, hM, hcl, rfl, hok⟩ := hI
  have HI := Lib.hid (show IsS g m _ from ⟨mb, o, L, hM, hcl, rfl, hok⟩)
  have c2 : w.cell? ⟨g, 2, none⟩ = some (.map (some mb)) := H.cell 2
  have hown := MapB.owns H.tail.get hM
  have HH := Lib.hid H
  have hsz : Maps.size (DataW.map (Es L)) = m.cl.length := by rw [hcl]; simp [Maps.size, Es, absL]
  have hks : intKeys (DataW.map (Es L)) = allM m := by unfold allM; rw [hcl]; exact intKeys_Es L
  have HSZ := Lib.hid hsz
  have HKS := Lib.hid hks
  have HOK := Lib.hid hok
  clear hM hcl hok H hsz hks
  have HOWN := Lib.hid hown
  clear hown
  refine (callsIn_wide (n := 6)).1 ?_
  have hfK : Fence.wide.fn 26 := trivial
  have hfS : Fence.wide.fn 25 := trivial
  refine callsIn_of_wp Try.func15 rfl trivial ?_ rfl
  simp only [Try.ntmps15, List.size_toArray, List.length_cons, List.length_nil, Nat.reduceAdd, Nat.reduceSub, Array.replicate_succ, Array.replicate_zero, List.push_toArray, List.append_toArray, List.nil_append, List.cons_append]
  gi_wp2_with (first
    | (gi_at_call 26; refine (Try.maps_Keys_26 _ _).mono ?_; rintro e w' ⟨rfl, rfl⟩)
    | (gi_at_call 25; refine (Try.slices_Sorted_keys_25 mb _ _ ptrR w HOWN.out (by rw [HSZ.out]; unfold maxLen; omega) (by rw [HSZ.out]; omega)).mono ?_; rintro e w' ⟨v, ss, rfl, hS, hrow, hnil, hb⟩))
  have h1 := hS
  rw [HKS.out] at h1
  have hs2 := sort_all HOK.out h1
  have hl2 : ss.length = (allM m).length := h1.length_eq
  rw [hs2, hl2] at hrow
  obtain ⟨hv, R, hR⟩ := RowB.of_owns hrow
  have H2 := (HH.out.alloc_ (.cells #[.map (some mb)] 45)).grow hb
  have H3 : Sp.Holds w0 (hv ++ (sessH g mb o m.room m.last L ++ F)) w' := by
    cases hv with
    | nil => exact H2
    | cons x l =>
      obtain ⟨a1, a2, a3, a4⟩ := hR x List.mem_cons_self
      obtain rfl : l = [] := by simpa using a4
      have hge := HH.out.size
      have hsz : (w.alloc (.cells #[.map (some mb)] 45)).heap.size = w.heap.size + 1 := by simp
      refine H2.cons (by omega) a1 (fun y hy e => ?_)
      have := lt_of_block (HH.out.mem hy)
      omega
  exact bodyPost_ret (v := v) (by simp [results, Try.results15, go_sem]) rfl ⟨v, rfl, hv, R, _, HI.out, H3.perm (by classical rw [List.perm_iff_count]; intro a; simp only [List.count_append, List.count_cons, List.count_nil]; omega)⟩
end Go.Proofs.Ytmnlncigaamdeaa
