/- Package key's Sort, the library's part: slices.SortFunc at keys (the shelf's contract, laid), and what a row of keys holds behind it. No condition but the reach. -/
import Derived.Test.YtnmnniknklfemaaFk
import Derived.Shelf.SlSortCmp.NoneTotal
import Derived.Shelf.SlIterI.Sorted
namespace Go.Proofs
open Go.RowKit Go.Shelf
shelf_lay_g SlLaysF0.n6 Slsf 6 at Try 35 as Try.sort35
end Go.Proofs
namespace Go.Proofs.Ytnmnniknklfemaa
open Go.RowKit Go.Maps Go.Sort Go.Shelf
set_option linter.unusedVariables false
set_option linter.unusedSimpArgs false

theorem flatK_flat (ks : List K16) : flatK encK 16 ks.toArray = (flat ks).toArray := by
  refine ext_get! (by simp [flat_len]) fun t ht => ?_
  have ht' : t < ks.toArray.size * 16 := by simpa using ht
  have hj : t % 16 < 16 := Nat.mod_lt _ (by omega)
  have hi : t / 16 < ks.length := by simp at ht'; omega
  rw [get_flatK _ _ _ t ht']
  have e : t = t / 16 * 16 + t % 16 := by omega
  have h := flat_get ks (t / 16) (t % 16) hj
  rw [← e, List.getElem?_eq_getElem hi] at h
  have h2 : (encK ks[t / 16])[t % 16]? = some ((encK ks[t / 16])[t % 16]'(by rw [encK_len]; exact hj)) := List.getElem?_eq_getElem _
  simp only [Option.bind_some, h2] at h
  have hlt : t < (flat ks).length := by rw [flat_len]; omega
  rw [List.getElem?_eq_getElem hlt] at h
  injection h with h
  have h3 : (encK ks[t / 16])[t % 16]! = (encK ks[t / 16])[t % 16]'(by rw [encK_len]; exact hj) := getElem!_pos _ _ _
  simp [hi, hlt, h, h3]

/-! ### the order -/
def cmp16 (a b : K16) : Int := Lib.compareBytes (pad a.1) (pad b.1)
theorem pad16 (l : List UInt8) (h : l.length = 16) : pad l = l := by
  apply List.ext_getElem
  · simp [pad, h]
  · intro i h1 h2
    simp [pad, List.getD_eq_getElem?_getD, h2]
theorem cmp16_eq (a b : K16) : cmp16 a b = Lib.compareBytes a.1 b.1 := by unfold cmp16; rw [pad16 _ a.2, pad16 _ b.2]
theorem swo16 : SWO (ltOf cmp16) where
  irrefl x := by
    have := (cmp_zero x.1 x.1).2 rfl
    simp [ltOf, cmp16_eq, this]
  trans x y z h1 h2 := by
    simp only [ltOf, cmp16_eq, decide_eq_true_eq] at *
    exact (cmp_trans _ _ _ (by omega) (by omega)).2 (.inl h1)
  ntrans x y z h1 h2 := by
    simp only [ltOf, cmp16_eq, decide_eq_false_iff_not] at *
    have a := cmp_neg x.1 y.1
    have b := cmp_neg y.1 z.1
    have c := cmp_neg x.1 z.1
    have := (cmp_trans z.1 y.1 x.1 (by omega) (by omega)).1
    omega
theorem tot16 (x y : K16) (h1 : ltOf cmp16 x y = false) (h2 : ltOf cmp16 y x = false) : x = y := by
  simp only [ltOf, cmp16_eq, decide_eq_false_iff_not] at *
  have a := cmp_neg x.1 y.1
  exact Subtype.ext ((cmp_zero _ _).1 (by omega))
def le16 (x y : K16) : Bool := !(ltOf cmp16) y x
def sortK (ks : List K16) : List K16 := ks.mergeSort le16

/-! ### Cmp, as the sort asks it -/
theorem grow_two (w : World) (a b : Obj) (n : Nat) : ((w.alloc a).alloc b).drewN n = grow (w.drewN n) #[a, b] := by
  rw [alloc_eq_grow, alloc_eq_grow, grow_grow]; rfl
set_option maxHeartbeats 1000000 in
theorem cmp_grow (l m : List UInt8) (w : World) :
    Calls Try.prog 13 #[.agg (kv l), .agg (kv m)] w fun e w' => e = .returned (.int .i64 (Lib.compareBytes (pad l) (pad m))) ∧ ∃ q os', w' = grow (w.drewN q) os' := by
  have h1 : ∀ n, (((w.alloc (.cells (kv l) 23)).alloc (.cells (kv m) 23)).drewN n).heap[w.heap.size]? = some (.cells (kv l) 23 (0, 0)) := fun n => by
    show ((w.alloc (.cells (kv l) 23)).alloc (.cells (kv m) 23)).heap[w.heap.size]? = _
    rw [heap_alloc2_old]
  have h2 : ∀ n, (((w.alloc (.cells (kv l) 23)).alloc (.cells (kv m) 23)).drewN n).heap[w.heap.size + 1]? = some (.cells (kv m) 23 (0, 0)) := fun n => by
    show ((w.alloc (.cells (kv l) 23)).alloc (.cells (kv m) 23)).heap[w.heap.size + 1]? = _
    rw [heap_alloc2_new]
  have H1 := Lib.hid h1
  have H2 := Lib.hid h2
  clear h1 h2
  go_enter Try.func13, Try.ntmps13
  go_wp2_with fail
  go_quiet ((go_at_call 27; exact Calls.quiet_of_same ((compare_calls _ _ _ _ l m _ (H1.out _) (H2.out _)).mono fun _ _ hx => ⟨hx.1, hx.2.symm⟩)))
  go_wp2_with fail
  go_ret
  exact ⟨rfl, _, _, grow_two w _ _ _⟩
theorem e13 : ∀ args w, (callFunc 13 args).run Try.prog w = .ok (.enter 13 args) w := enters_of Try.func13 (by kernel_rfl) rfl
theorem lays13 (blk off size : Nat) (w : World) : CmpLays Try.prog 13 #[] encK 16 cmp16 blk off size w :=
  fun m os dk _ x y => cmp_grow x.1 y.1 _

/-! ### slices.SortFunc at keys -/
theorem sortF_calls (blk cap : Nat) (ks : List K16) (w : World) (hH : Holds id w blk 0 (flat ks).toArray) (hblk : blk < w.heap.size) (hsz : ks.length < 4611686018427387904) :
    Calls Try.prog 35 #[.slice (some ⟨blk, 0, none⟩) ks.length cap, .func (.func 13) #[] #[]] w fun e w' =>
      e = .returned (.tuple #[]) ∧ ∃ n os, w' = grow (putRow id (Sort.ahead w n) blk 0 (flat (sortK ks)).toArray) os := by
  have h := AnyQ.slices_SortFunc_total (P := Try.prog) Try.sort35 16 agg23 size23 encK encK_len encK_one cmp16 swo16 13 #[] blk 0 cap ks.toArray w e13 (lays13 _ _ _ _) (by unfold HoldsK; rw [flatK_flat]; exact hH) hblk (by simpa using hsz) tot16
  refine (show Calls Try.prog 35 _ _ _ from h).mono ?_
  rintro e w' ⟨rfl, n, os, rfl⟩
  refine ⟨rfl, n, os, ?_⟩
  unfold sortWorldK putRowK
  rw [flatK_flat]; rfl
theorem sortF_none (p : Option Addr) (cap : Nat) (fv : Value) (w : World) :
    Calls Try.prog 35 #[.slice p 0 cap, fv] w fun e w' => e = .returned (.tuple #[]) ∧ w' = w := AnyF.slices_SortFunc_none Try.sort35 p cap fv w
end Go.Proofs.Ytnmnniknklfemaa
