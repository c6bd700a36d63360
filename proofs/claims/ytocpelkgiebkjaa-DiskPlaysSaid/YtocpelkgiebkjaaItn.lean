/- A disk's names: slices.Sorted over maps.Keys by the shelf's contracts (printed by lay-iter.mjs, lay-plain.mjs); Names' contract. Conditions: each theorem's own. -/
import Derived.Test.YtocpelkgiebkjaaItp
import Derived.Test.YtocpelkgiebkjaaDc
namespace Go.Proofs
open Go.RowKit Go.Maps Go.Sort Go.Shelf

/-- slices.Sort's two contracts at this dump, at the fence that asks nothing. -/
theorem Try.sorts34 (m : Nat) : AnyZ.SortsIn Try.prog Try.sorted34_ren Fence.wide m :=
  ⟨fun blk off cap ss W hH hblk hsz => callsIn_wide.2 (AnyM.slices_Sort_string Try.sort46 blk off cap ss W hH hblk hsz),
   fun p cap W => callsIn_wide.2 (AnyM.slices_Sort_string_none Try.sort46 p cap W)⟩

/-- **maps.Keys[map[string]*hourglass/disk.file,string,*hourglass/disk.file], at whatever map, the nil one too:** a function value over ONE NEW BLOCK, which holds the map. -/
theorem Try.maps_Keys_35 (mb : Option Nat) (W : World) : CallsIn Fence.wide 5 Try.prog 35 #[.map mb] W fun e w' => e = .returned (.func (.func 47) #[] #[.pointer (some ⟨W.heap.size, 0, none⟩)]) ∧ w' = W.alloc (.cells #[.map mb] 53) :=
  AnyZ.keys_in Try.keys35 Fence.wide 5 trivial rfl mb W

set_option maxHeartbeats 1000000 in
/-- **slices.Sorted[string] AT WHAT maps.Keys[map[string]*hourglass/disk.file,string,*hourglass/disk.file] HANDED BACK FOR A MAP THAT IS NOT nil** ('w': the world AHEAD of maps.Keys' call): A NEW SLICE THAT HOLDS THE MAP's KEYS, SORTED; nil just where it has none; nothing that lay before has turned. -/
theorem Try.slices_Sorted_keys_34_35 {H : Type} (b nn : Nat) (D0 : DataW H) (R : Value → Option (DataW H × List MemPlace)) (w : World) (hown : w.ownsMap Try.prog 9 R b nn D0) (hmax : Maps.size D0 ≤ maxLen) (hbytes : Maps.size D0 * 16 ≤ 140737488355328) :
    CallsIn Fence.wide 5 Try.prog 34 #[.func (.func 47) #[] #[.pointer (some ⟨w.heap.size, 0, none⟩)]] (w.alloc (.cells #[.map (some b)] 53)) fun e w' => ∃ (v : Value) (ss : List (List UInt8)), e = .returned v ∧ ss.Perm (strKeys D0) ∧
      w'.ownsRow (w.alloc (.cells #[.map (some b)] 53)).heap.size 9 1 v ss.length ((ss.mergeSort (fun x y => decide (x ≤ y))).map encStr) ∧ (v = .slice none 0 0 ↔ ss = []) ∧ Below (w.alloc (.cells #[.map (some b)] 53)).heap.size (w.alloc (.cells #[.map (some b)] 53)) w' := by
  have hbl := hown.lt
  have hseq : SeqGives Fence.wide 2 Try.prog 47 #[.pointer (some ⟨w.heap.size, 0, none⟩)] encStr (fun ss => ss.Perm (strKeys D0)) (Maps.size D0) (w.alloc (.cells #[.map (some b)] 53)) :=
    AnyZ.keys_gives (ρ := Try.keys35_ren) { Try.keys35 with } Fence.wide _ trivial rfl (by omega) w.heap.size b nn D0 _ (by simp) (by simp) (by
      obtain ⟨es, clock, hb, Ft, hs, hD⟩ := hown
      exact ⟨es, clock, (Below.heap_alloc _ _ b hbl).trans hb, Ft, hs, hD⟩)
  exact AnyZ.sorted_in Try.sorted34 Fence.wide 5 trivial trivial trivial trivial rfl (by omega) (Try.sorts34 _) (enters_of Try.func46 (by kernel_rfl) rfl) 47 #[.pointer (some ⟨w.heap.size, 0, none⟩)] trivial (enters_of Try.func47 (by kernel_rfl) rfl) _ _ hmax hbytes _ hseq

set_option maxHeartbeats 1000000 in
/-- **.. AND FOR THE nil MAP: nil.** -/
theorem Try.slices_Sorted_keys_nil_34_35 (w : World) :
    CallsIn Fence.wide 5 Try.prog 34 #[.func (.func 47) #[] #[.pointer (some ⟨w.heap.size, 0, none⟩)]] (w.alloc (.cells #[.map none] 53)) fun e w' => ∃ (v : Value) (ss : List (List UInt8)), e = .returned v ∧ ss = [] ∧
      w'.ownsRow (w.alloc (.cells #[.map none] 53)).heap.size 9 1 v ss.length ((ss.mergeSort (fun x y => decide (x ≤ y))).map encStr) ∧ (v = .slice none 0 0 ↔ ss = []) ∧ Below (w.alloc (.cells #[.map none] 53)).heap.size (w.alloc (.cells #[.map none] 53)) w' := by
  have hseq : SeqGives Fence.wide 2 Try.prog 47 #[.pointer (some ⟨w.heap.size, 0, none⟩)] encStr (fun ss : List (List UInt8) => ss = []) 0 (w.alloc (.cells #[.map none] 53)) :=
    AnyZ.keys_gives_nil (ρ := Try.keys35_ren) { Try.keys35 with } Fence.wide _ trivial rfl w.heap.size _ (by simp) (by simp)
  exact AnyZ.sorted_in Try.sorted34 Fence.wide 5 trivial trivial trivial trivial rfl (by omega) (Try.sorts34 _) (enters_of Try.func46 (by kernel_rfl) rfl) 47 #[.pointer (some ⟨w.heap.size, 0, none⟩)] trivial (enters_of Try.func47 (by kernel_rfl) rfl) _ 0 (Nat.zero_le _) (by omega) _ hseq

end Go.Proofs
namespace Go.Proofs.Ytocpelkgiebkjaa
open Go.RowKit Go.Maps Go.Sort Go.Shelf Go.Proofs.Ytocpelkgiebkjaa.Sp
set_option linter.unusedVariables false
set_option linter.unusedSimpArgs false
def namesM (m : DM) : List (List UInt8) := if m.power then (m.fl.map fun x => x.1.data.toList).mergeSort (fun x y => decide (x ≤ y)) else []
theorem strKeys_Es (L : List Ent) : strKeys (DataW.map (Es L)) = (absL L).map fun x => x.1.data.toList := by
  simp only [strKeys, Es, absL, List.map_map, List.filterMap_map]
  rfl
theorem sort_perm {l l' : List (List UInt8)} (h : l.Perm l') : l.mergeSort (fun x y => decide (x ≤ y)) = l'.mergeSort (fun x y => decide (x ≤ y)) := mergeSort_of_perm h
set_option maxRecDepth 100000 in
set_option maxHeartbeats 2000000 in
theorem names_calls (g : Nat) (m : DM) (h F : Hp) (w0 w : World) (hcnt : m.fl.length < 1000000000) (hI : IsD g m h) (H : Holds w0 (h ++ F) w) :
    Calls Try.prog 17 #[.pointer (some ⟨g, 0, none⟩)] w fun e w' => ∃ v, e = .returned v ∧ ∃ hv, RowB 9 1 v (namesM m).length ((namesM m).map encStr) hv ∧ ∃ h', IsD g m h' ∧ Holds w0 (h' ++ (hv ++ F)) w' := by
  obtain ⟨mb, o, L, hf, hM, hfl, hF, rfl, hok⟩ := hI
  have HI := Lib.hid (show IsD g m _ from ⟨mb, o, L, hf, hM, hfl, hF, rfl, hok⟩)
  have c2 : w.cell? ⟨g, 2, none⟩ = some (.bool m.power) := H.cell 2
  have c3 : w.cell? ⟨g, 3, none⟩ = some (.map (some mb)) := H.cell 3
  have hown := MapB.owns H.tail.get hM
  have HH := Lib.hid H
  have hsz : Maps.size (DataW.map (Es L)) = m.fl.length := by rw [hfl]; simp [Maps.size, Es, absL]
  have hks : strKeys (DataW.map (Es L)) = m.fl.map fun x => x.1.data.toList := by rw [hfl]; exact strKeys_Es L
  have HFL := Lib.hid hfl
  have HSZ := Lib.hid hsz
  have HKS := Lib.hid hks
  clear hM hfl hF hok H hsz hks
  have HOWN := Lib.hid hown
  clear hown
  unfold namesM
  cases hp : m.power
  · rw [hp] at c2
    go_enter Try.func17, Try.ntmps17
    go_wp2
    exact bodyPost_ret (v := .slice none 0 0) (by simp [results, Try.results17, go_sem]) rfl ⟨_, rfl, [], RowB.nil _ _, _, HI.out, HH.out⟩
  · rw [hp] at c2
    rw [if_pos rfl]
    obtain ⟨nm, hnm⟩ : ∃ nm, (m.fl.map fun x => x.1.data.toList).mergeSort (fun x y => decide (x ≤ y)) = nm := ⟨_, rfl⟩
    rw [hnm]
    have HNM := Lib.hid hnm
    clear hnm
    refine (callsIn_wide (n := 6)).1 ?_
    have hfK : Fence.wide.fn 35 := trivial
    have hfS : Fence.wide.fn 34 := trivial
    refine callsIn_of_wp Try.func17 rfl trivial ?_ rfl
    simp only [Try.ntmps17, List.size_toArray, List.length_cons, List.length_nil, Nat.reduceAdd, Nat.reduceSub, Array.replicate_succ, Array.replicate_zero, List.push_toArray, List.append_toArray, List.nil_append, List.cons_append]
    gi_wp2_with (first
      | (gi_at_call 35; refine (Try.maps_Keys_35 _ _).mono ?_; rintro e w' ⟨rfl, rfl⟩)
      | (gi_at_call 34; refine (Try.slices_Sorted_keys_34_35 mb _ _ ptrR w HOWN.out (by rw [HSZ.out]; unfold maxLen; omega) (by rw [HSZ.out]; omega)).mono ?_; rintro e w' ⟨v, ss, rfl, hS, hrow, hnil, hb⟩))
    have hs2 : ss.mergeSort (fun x y => decide (x ≤ y)) = nm := by
      have h1 := hS
      rw [HKS.out] at h1
      rw [sort_perm h1, HNM.out]
    have hl2 : ss.length = nm.length := by rw [← hs2]; exact (List.length_mergeSort _).symm
    rw [hs2, hl2] at hrow
    obtain ⟨hv, R, hR⟩ := RowB.of_owns hrow
    have H2 := (HH.out.alloc_ (.cells #[.map (some mb)] 53)).grow hb
    have H3 : Sp.Holds w0 (hv ++ (((g, dskO m.room m.lives m.power mb) :: (mb, o) :: hf) ++ F)) w' := by
      cases hv with
      | nil => exact H2
      | cons x l =>
        obtain ⟨a1, a2, a3, a4⟩ := hR x List.mem_cons_self
        obtain rfl : l = [] := by simpa using a4
        have hge := HH.out.size
        have hsz : (w.alloc (.cells #[.map (some mb)] 53)).heap.size = w.heap.size + 1 := by simp
        refine H2.cons (by omega) a1 (fun y hy e => ?_)
        have := lt_of_block (HH.out.mem hy)
        omega
    exact bodyPost_ret (v := v) (by simp [results, Try.results17, go_sem]) rfl ⟨v, rfl, hv, R, _, HI.out, H3.perm (by classical rw [List.perm_iff_count]; intro a; simp only [List.count_append, List.count_cons, List.count_nil]; omega)⟩
end Go.Proofs.Ytocpelkgiebkjaa
