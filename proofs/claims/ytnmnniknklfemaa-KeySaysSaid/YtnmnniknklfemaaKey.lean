/- Contracts of package key: what Of, Text, Good, Cmp, Within and Sum answer, for every world; keys are arrays of sixteen bytes. No condition but that the bytes are bytes. -/
import Derived.Test.YtnmnniknklfemaaProg
import Derived.WalkKit
import Derived.KernelRfl
import Derived.StillTailTactics
import Derived.Deep.QuietTactic
import Derived.BigQuiet
import Derived.Lib.Hide
import Derived.Lib.BytesEntry
import Derived.Laws.BytesArg
import Derived.WalkSpells
import Derived.WalkLawsBesides
import Derived.LoopTactic
import Derived.Laws.CopyOwn
import Derived.ChangeKeysEq
import Derived.Test.YtnmnniknklfemaaShelf
namespace Go.Proofs.Ytnmnniknklfemaa
open Go.RowKit
set_option linter.unusedVariables false
set_option linter.unusedSimpArgs false

def kb (l : List UInt8) (i : Nat) : Int := ((l.getD i 0).toNat : Int)
theorem kb_range (l : List UInt8) (i : Nat) : 0 ≤ kb l i ∧ kb l i ≤ 255 := by
  have := (l.getD i 0).toNat_lt
  unfold kb; omega
def kv (l : List UInt8) : Array Value := #[.int .u8 (kb l 0), .int .u8 (kb l 1), .int .u8 (kb l 2), .int .u8 (kb l 3), .int .u8 (kb l 4), .int .u8 (kb l 5), .int .u8 (kb l 6), .int .u8 (kb l 7), .int .u8 (kb l 8), .int .u8 (kb l 9), .int .u8 (kb l 10), .int .u8 (kb l 11), .int .u8 (kb l 12), .int .u8 (kb l 13), .int .u8 (kb l 14), .int .u8 (kb l 15)]
theorem kv_get (l : List UInt8) (i : Nat) (hi : i < 16) : (kv l)[i]? = some (.int .u8 (kb l i)) := by
  obtain rfl | rfl | rfl | rfl | rfl | rfl | rfl | rfl | rfl | rfl | rfl | rfl | rfl | rfl | rfl | rfl : i = 0 ∨ i = 1 ∨ i = 2 ∨ i = 3 ∨ i = 4 ∨ i = 5 ∨ i = 6 ∨ i = 7 ∨ i = 8 ∨ i = 9 ∨ i = 10 ∨ i = 11 ∨ i = 12 ∨ i = 13 ∨ i = 14 ∨ i = 15 := by omega
  all_goals rfl

/-! ### Cmp -/
def pad (l : List UInt8) : List UInt8 := (List.range 16).map fun i => l.getD i 0
def kints (l : List UInt8) : List Int := (List.range 16).map fun i => kb l i
theorem kints_get (l : List UInt8) (i : Nat) (hi : i < 16) : (kints l).getD i 0 = kb l i := by
  simp [kints, List.getD_eq_getElem?_getD, hi]

theorem kv_cell {w : World} {g : Nat} {l : List UInt8} (H : w.heap[g]? = some (.cells (kv l) 23 (0, 0))) (i : Nat) (hi : i < 16) : w.cell? ⟨g, i, none⟩ = some (.int .u8 (kb l i)) := by
  simp [World.cell?, H, kv_get l i hi]
theorem kints_bytes (l : List UInt8) : Lib.bytesOf (kints l) = pad l := by
  simp [Lib.bytesOf, kints, pad, kb]
theorem run_bytesOf_kv {P : Program} {w : World} {g c : Nat} {l : List UInt8} (H : w.heap[g]? = some (.cells (kv l) 23 (0, 0))) :
    (Extern.Bytes.bytesOf (.slice (some ⟨g, 0, none⟩) 16 c)).run P w = .ok ⟨(pad l).toArray⟩ w := by
  have h := Lib.run_loadBytesX (P := P) w (kints l) ⟨g, 0, none⟩ .empty (fun j x hj => by
    have hjl : j < 16 := by have := (List.getElem?_eq_some_iff.1 hj).1; simpa [kints] using this
    have e : (⟨g, 0, none⟩ : Addr).add j = ⟨g, j, none⟩ := by unfold Addr.add; split <;> simp_all
    rw [e, kv_cell H j hjl]
    have : (kints l)[j]? = some (kb l j) := by simp [kints, hjl]
    rw [this] at hj
    injection hj with hj
    rw [hj])
  have e16 : (kints l).length = 16 := by simp [kints]
  rw [e16, kints_bytes] at h
  unfold Extern.Bytes.bytesOf
  rw [h]
  congr 1
theorem run_compare_kv {P : Program} {w : World} {g g' c c' : Nat} {l m : List UInt8} (H : w.heap[g]? = some (.cells (kv l) 23 (0, 0))) (H' : w.heap[g']? = some (.cells (kv m) 23 (0, 0))) :
    (Extern.BytealgCompare.compare #[.slice (some ⟨g, 0, none⟩) 16 c, .slice (some ⟨g', 0, none⟩) 16 c']).run P w = .ok (.int .i64 (Lib.compareBytes (pad l) (pad m))) w := by
  change Sem.run P (do pure (goInt (Extern.BytealgCompare.cmp (← Extern.Bytes.bytesOf (.slice (some ⟨g, 0, none⟩) 16 c)) (← Extern.Bytes.bytesOf (.slice (some ⟨g', 0, none⟩) 16 c'))))) w = _
  simp only [Sem.run_bind, run_bytesOf_kv H, run_bytesOf_kv H', Sem.run_pure, Result.andThen]
  rw [Lib.cmp_eq]
  rfl

set_option maxHeartbeats 1000000 in
theorem compare_calls (g g' c c' : Nat) (l m : List UInt8) (w : World) (H : w.heap[g]? = some (.cells (kv l) 23 (0, 0))) (H' : w.heap[g']? = some (.cells (kv m) 23 (0, 0))) :
    Calls Try.prog 27 #[.slice (some ⟨g, 0, none⟩) 16 c, .slice (some ⟨g', 0, none⟩) 16 c'] w fun e w' => e = .returned (.int .i64 (Lib.compareBytes (pad l) (pad m))) ∧ w = w' := by
  have HH := Lib.hid H
  have HH' := Lib.hid H'
  clear H H'
  go_enter Try.func27, Try.ntmps27
  go_wp2
  rw [run_callFunc_extern Try.func33 (by kernel_rfl) (by kernel_rfl) (by kernel_rfl) (e := Extern.BytealgCompare.compare) (by kernel_rfl), run_compare_kv HH.out HH'.out]
  simp only [Result.andThen]
  rw [Oper.upon_value]
  go_wp2
  go_ret
  exact ⟨rfl, rfl⟩

set_option maxHeartbeats 1000000 in
theorem cmp_calls (l m : List UInt8) (w : World) :
    Calls Try.prog 13 #[.agg (kv l), .agg (kv m)] w fun e w' => e = .returned (.int .i64 (Lib.compareBytes (pad l) (pad m))) ∧ Below w.heap.size w w' := by
  have h1 : ∀ n, (((w.alloc (.cells (kv l) 23)).alloc (.cells (kv m) 23)).drewN n).heap[w.heap.size]? = some (.cells (kv l) 23 (0, 0)) := fun n => by
    show ((w.alloc (.cells (kv l) 23)).alloc (.cells (kv m) 23)).heap[w.heap.size]? = _
    rw [heap_alloc2_old]
  have h2 : ∀ n, (((w.alloc (.cells (kv l) 23)).alloc (.cells (kv m) 23)).drewN n).heap[w.heap.size + 1]? = some (.cells (kv m) 23 (0, 0)) := fun n => by
    show ((w.alloc (.cells (kv l) 23)).alloc (.cells (kv m) 23)).heap[w.heap.size + 1]? = _
    rw [heap_alloc2_new]
  have H1 := Lib.hid h1
  have H2 := Lib.hid h2
  clear h1 h2
  go_enter Try.func13, Try.ntmps13
  go_wp2_with fail
  go_quiet ((go_at_call 27; exact Calls.quiet_of_same ((compare_calls _ _ _ _ l m _ (H1.out _) (H2.out _)).mono fun _ _ hx => ⟨hx.1, hx.2.symm⟩)))
  go_wp2_with fail
  go_ret
  exact ⟨rfl, ((((Below.refl _ _).alloc (Nat.le_refl _) _).alloc (by simp) _).trans (below_drewN (Below.refl _ _) _))⟩

def tx (l : List UInt8) : List UInt8 := (pad l).takeWhile (· != 0)
theorem pad_get (l : List UInt8) (i : Nat) (hi : i < 16) : (pad l)[i]? = some (l.getD i 0) := by simp [pad, hi]
theorem takeWhile_take {α : Type} (p : α → Bool) : ∀ (l : List α) (k : Nat), k ≤ l.length → (∀ j x, j < k → l[j]? = some x → p x = true) → (∀ x, l[k]? = some x → p x = false) → l.takeWhile p = l.take k
  | l, 0, _, _, h => by
    cases l with
    | nil => rfl
    | cons x l => simp [List.takeWhile_cons, h x rfl]
  | [], k + 1, hk, _, _ => by simp at hk
  | x :: l, k + 1, hk, h1, h2 => by
    have := h1 0 x (by omega) rfl
    rw [List.takeWhile_cons, this]
    simp only [if_true, List.take_succ_cons]
    rw [takeWhile_take p l k (by simpa using hk) (fun j y hj hy => h1 (j + 1) y (by omega) (by simpa using hy)) (fun y hy => h2 y (by simpa using hy))]
theorem kb_zero (l : List UInt8) (i : Nat) : kb l i = 0 ↔ l.getD i 0 = 0 := by
  unfold kb
  constructor
  · intro h
    have : (l.getD i 0).toNat = 0 := by omega
    exact UInt8.toNat_inj.1 (by simpa using this)
  · intro h; rw [h]; rfl
theorem tx_eq (l : List UInt8) (k : Nat) (hk : k ≤ 16) (h1 : ∀ j, j < k → kb l j ≠ 0) (h2 : k = 16 ∨ kb l k = 0) : tx l = (pad l).take k := by
  refine takeWhile_take _ _ _ (by simpa [pad] using hk) (fun j x hj hx => ?_) (fun x hx => ?_)
  · rw [pad_get l j (by omega)] at hx
    injection hx with hx
    have := h1 j hj
    rw [Ne, kb_zero] at this
    rw [← hx]
    simpa using this
  · rcases h2 with rfl | h2
    · simp [pad] at hx
    · have hk' : k < 16 := by
        rcases Nat.lt_or_ge k 16 with h | h
        · exact h
        · rw [List.getElem?_eq_none (by simpa [pad] using h)] at hx; cases hx
      rw [pad_get l k hk'] at hx
      injection hx with hx
      rw [← hx, (kb_zero l k).1 h2]
      rfl
theorem str_kints (l : List UInt8) (k : Nat) : strOfNums ((kints l).take k) = ⟨((pad l).take k).toArray⟩ := by
  apply ByteArray.ext
  have : (strOfNums ((kints l).take k)).data.toList = (pad l).take k := by
    rw [strOfNums_data, List.map_take]
    congr 1
    simp [kints, pad, kb]
  rw [← this]

set_option maxHeartbeats 1000000 in
theorem text_calls (l : List UInt8) (w : World) :
    Calls Try.prog 26 #[.agg (kv l)] w fun e w' => e = .returned (.string ⟨(tx l).toArray⟩) ∧ Below w.heap.size w w' := by
  go_enter Try.func26, Try.ntmps26
  go_wp2_with fail
  go_loop [3] (fun n => ∃ k : Nat, k ≤ 16 ∧ n = .int .i64 k ∧ ∀ j, j < k → kb l j ≠ 0) (fun n => 16 - (intOf n).toNat)
  case atStart => exact ⟨0, by omega, rfl, fun j hj => by omega⟩
  case round =>
    obtain ⟨k, hk, rfl, hne⟩ := hrel
    have HN := Lib.hid hne
    clear hne
    have hb := kb_range l k
    have hkI : (k : Int) ≤ 16 := by omega
    have hfin : (k = 16 ∨ kb l k = 0) → ∀ W : World, W.heap[w.heap.size]? = some (.cells (kv l) 23 (0, 0)) → (convert 45 9 (.slice (some ⟨w.heap.size, 0, none⟩) k 16)).run Try.prog W = .ok (.string ⟨(tx l).toArray⟩) W := fun hz W hW => by
      rw [tx_eq l k hk HN.out hz, ← str_kints]
      refine run_convert_bytes_arg W 45 5 Try.underlying45 Try.underlying5 w.heap.size 0 k 16 _ (by simp [kints]; omega) (fun i hi => ?_) 9 Try.underlying9
      rw [Nat.zero_add, kv_cell hW i (by omega)]
      simp [List.getD_eq_getElem?_getD, List.getElem?_take, hi, kints, show i < 16 by omega]
    by_cases hlt : k < 16
    · have hc : (w.alloc (.cells (kv l) 23)).cell? ⟨w.heap.size, k, none⟩ = some (.int .u8 (kb l k)) := kv_cell (heap_alloc_new w _) k hlt
      by_cases hz : kb l k = 0
      · have hcv := hfin (.inr hz) _ (heap_alloc_new w _)
        have hz1 : (kb l k == 0) = true := by simpa using hz
        have hz2 : (kb l k != 0) = false := by simpa using hz
        clear hfin hz
        go_wp2
        go_ret
        exact ⟨rfl, (Below.refl _ _).alloc (Nat.le_refl _) _⟩
      · have hz1 : (kb l k == 0) = false := by simpa using hz
        have hz2 : (kb l k != 0) = true := by simpa using hz
        have HZ := Lib.hid hz
        clear hfin hz
        go_wp2
        go_round
        case rel => exact ⟨k + 1, by omega, by go_num, fun j hj => by
          by_cases h : j = k
          · subst h; exact HZ.out
          · exact HN.out j (by omega)⟩
        case measure => simp [intOf]; omega
    · have hk16 : k = 16 := by omega
      have hcv := hfin (.inl hk16) _ (heap_alloc_new w _)
      subst hk16
      clear hfin hkI
      go_wp2
      go_ret
      exact ⟨rfl, (Below.refl _ _).alloc (Nat.le_refl _) _⟩

/-! ### Of -/
theorem kv_nil : (#[.int .u8 0, .int .u8 0, .int .u8 0, .int .u8 0, .int .u8 0, .int .u8 0, .int .u8 0, .int .u8 0, .int .u8 0, .int .u8 0, .int .u8 0, .int .u8 0, .int .u8 0, .int .u8 0, .int .u8 0, .int .u8 0] : Array Value) = kv [] := rfl
theorem kv_size (l : List UInt8) : (kv l).size = 16 := rfl
theorem kv_one (l : List UInt8) : (kv l).all (·.oneCell') = true := by simp [kv, Value.oneCell']
theorem info23 (l : List UInt8) : (Try.prog.info? 23).map (·.size) = some (kv l).size := by rw [kv_size]; kernel_rfl
theorem und23 : Try.prog.underlying 23 = some (.array 16 5) := by kernel_rfl
/-- A key's load and store, at a block that is a key. -/
theorem ld {ops : Array Oper} {rest : List Oper} {o : Oper} {a : Act} {w : World} {Q : Exit → Act → World → Prop} (x : Operand) (hgd : o.guard = none) (ho : o.op = .load 23 x)
    (g : Nat) (hx : a.eval x = .pointer (some ⟨g, 0, none⟩)) (l : List UInt8) (hg : w.heap[g]? = some (.cells (kv l) 23 (0, 0)))
    (hh : wpList Try.prog ops Q rest (a.put o.dst (.agg (kv l))) w) : wpList Try.prog ops Q (o :: rest) a w :=
  wpList_load_row hgd 23 x ho g hx 23 (kv l) (0, 0) _ hg und23 rfl (info23 l) hh
theorem st {ops : Array Oper} {rest : List Oper} {o : Oper} {a : Act} {w : World} {Q : Exit → Act → World → Prop} (x y : Operand) (hgd : o.guard = none) (ho : o.op = .store 23 x y)
    (g : Nat) (l m : List UInt8) (hx : a.eval x = .pointer (some ⟨g, 0, none⟩)) (hy : a.eval y = .agg (kv l)) (hg : w.heap[g]? = some (.cells (kv m) 23 (0, 0)))
    (hh : wpList Try.prog ops Q rest (a.put o.dst undef) (w.setRow g (kv l))) : wpList Try.prog ops Q (o :: rest) a w :=
  wpList_store_row hgd 23 x y ho g (kv l) hx hy 23 (kv m) hg (info23 l) (by rw [kv_size, kv_size]) (kv_one l) hh

abbrev W2 (w : World) : World := (w.alloc (.cells (kv []) 23)).alloc (.cells (kv []) 23)
theorem W2_0 (w : World) : (W2 w).heap[w.heap.size]? = some (.cells (kv []) 23 (0, 0)) := heap_alloc2_old w _ _
theorem W2_1 (w : World) : (W2 w).heap[w.heap.size + 1]? = some (.cells (kv []) 23 (0, 0)) := heap_alloc2_new w _ _
theorem W2_below (w : World) : Below w.heap.size w (W2 w) := ((Below.refl _ _).alloc (Nat.le_refl _) _).alloc (by simp) _
theorem set_below {w W : World} (H : Below w.heap.size w W) (cs : Array Value) : Below w.heap.size w (W.setRow w.heap.size cs) := below_setRow H (Nat.le_refl _) cs
theorem set_at {W : World} {g : Nat} {m : List UInt8} (H : W.heap[g]? = some (.cells (kv m) 23 (0, 0))) (l : List UInt8) : (W.setRow g (kv l)).heap[g]? = some (.cells (kv l) 23 (0, 0)) := setRow_heap W g _ _ _ _ H
/-- What Of hands back: the key in the result's block, and the error. -/
theorem of_res (s : ByteArray) (tmps : Array Value) (W : World) (l : List UInt8) (g : Nat) (e : Int) (h2 : tmps.getD 2 undef = .pointer (some ⟨g, 0, none⟩)) (h3 : tmps.getD 3 undef = .int .i64 e)
    (H : W.heap[g]? = some (.cells (kv l) 23 (0, 0))) : (results Try.f10 tmps).run Try.prog W = .ok (.tuple #[.agg (kv l), .int .i64 e]) W := by
  have hr := run_loadVar_row (P := Try.prog) W g 23 23 (kv l) (0, 0) _ H und23 rfl (info23 l)
  rw [results_cell_tmp Try.results10, h2, h3]
  simp [asAddr, hr, Result.andThen]

theorem of_empty (s : ByteArray) (w : World) (hs : s.toList.isEmpty = true) :
    Calls Try.prog 10 #[.string s] w fun e w' => e = .returned (.tuple #[.agg (kv []), .int .i64 1]) ∧ Below w.heap.size w w' := by
  have hz := kv_nil
  have H0 := Lib.hid (W2_0 w)
  have H1 := Lib.hid (W2_1 w)
  go_enter Try.func10, Try.ntmps10
  go_wp2_with (first | refine ld (.tmp 4) rfl rfl _ rfl [] H1.out ?_ | refine st (.tmp 2) (.tmp 17) rfl rfl _ [] [] rfl rfl H0.out ?_)
  exact bodyPost_ret (of_res s _ _ [] w.heap.size 1 rfl rfl (set_at (W := W2 w) (m := []) H0.out [])) rfl ⟨rfl, set_below (W2_below w) _⟩

theorem of_big (s : ByteArray) (w : World) (hs : s.toList.isEmpty = false) (h2 : (16 : Int) < (s.size : Int)) :
    Calls Try.prog 10 #[.string s] w fun e w' => e = .returned (.tuple #[.agg (kv []), .int .i64 1]) ∧ Below w.heap.size w w' := by
  have hz := kv_nil
  have H0 := Lib.hid (W2_0 w)
  have H1 := Lib.hid (W2_1 w)
  go_enter Try.func10, Try.ntmps10
  go_wp2_with (first | refine ld (.tmp 4) rfl rfl _ rfl [] H1.out ?_ | refine st (.tmp 2) (.tmp 17) rfl rfl _ [] [] rfl rfl H0.out ?_)
  exact bodyPost_ret (of_res s _ _ [] w.heap.size 1 rfl rfl (set_at (W := W2 w) (m := []) H0.out [])) rfl ⟨rfl, set_below (W2_below w) _⟩

theorem of_nul (s : ByteArray) (w : World) (hs : s.toList.isEmpty = false) (h2 : ¬ (16 : Int) < (s.size : Int)) (h3 : 0 ≤ Lib.indexByte s.data.toList (0 : Int).toNat.toUInt8) :
    Calls Try.prog 10 #[.string s] w fun e w' => e = .returned (.tuple #[.agg (kv []), .int .i64 1]) ∧ Below w.heap.size w w' := by
  have hz := kv_nil
  have H0 := Lib.hid (W2_0 w)
  have H1 := Lib.hid (W2_1 w)
  obtain ⟨ix, hix⟩ : ∃ ix, Lib.indexByte s.data.toList (0 : Int).toNat.toUInt8 = ix := ⟨_, rfl⟩
  rw [hix] at h3
  have HI := Lib.hid hix
  clear hix
  go_enter Try.func10, Try.ntmps10
  go_wp2_with (first | (go_at_call 25; refine (Try.strings_IndexByte _ _ _).mono ?_; rw [HI.out]; rintro e w' ⟨rfl, rfl⟩) | refine ld (.tmp 4) rfl rfl _ rfl [] H1.out ?_ | refine st (.tmp 2) (.tmp 17) rfl rfl _ [] [] rfl rfl H0.out ?_)
  exact bodyPost_ret (of_res s _ _ [] w.heap.size 1 rfl rfl (set_at (W := W2 w) (m := []) H0.out [])) rfl ⟨rfl, set_below (W2_below w) _⟩

/-- copy(k[:], s) into a fresh key. -/
theorem copy_list (l : List UInt8) (hl : l.length ≤ 16) : (l.map (fun b => Value.int .u8 b.toNat) ++ (kv []).toList.drop l.length).toArray = kv l := by
  apply Array.ext'
  apply List.ext_getElem?
  intro i
  rcases Nat.lt_or_ge i 16 with hi | hi
  · have h1 : (kv l).toList[i]? = some (.int .u8 (kb l i)) := by rw [Array.getElem?_toList]; exact kv_get l i hi
    have h2 : (kv []).toList[i]? = some (.int .u8 (kb [] i)) := by rw [Array.getElem?_toList]; exact kv_get [] i hi
    rw [h1]
    show (l.map (fun b => Value.int .u8 b.toNat) ++ (kv []).toList.drop l.length)[i]? = _
    rw [List.getElem?_append]
    split
    · rename_i hlt
      have hlt' : i < l.length := by simpa using hlt
      simp [List.getElem?_map, List.getElem?_eq_getElem hlt', kb, List.getD_eq_getElem?_getD]
    · rename_i hge
      have hge' : l.length ≤ i := by simpa using hge
      rw [List.getElem?_drop, List.length_map, show l.length + (i - l.length) = i by omega, h2]
      simp [kb, List.getD_eq_getElem?_getD, List.getElem?_eq_none hge']
  · rw [List.getElem?_eq_none, List.getElem?_eq_none]
    · show (kv l).size ≤ i; rw [kv_size]; exact hi
    · have : (kv []).toList.length = 16 := rfl
      simp [this]; omega
theorem run_copy_key (W : World) (g : Nat) (s : ByteArray) (hs : s.size ≤ 16) (H : W.heap[g]? = some (.cells (kv []) 23 (0, 0))) :
    (Builtin.copy_ #[45, 9] 3 #[.slice (some ⟨g, 0, none⟩) 16 16, .string s]).run Try.prog W = .ok (.int .i64 s.size) (W.setRow g (kv s.data.toList)) := by
  have hlen : s.data.toList.length = s.size := rfl
  have hst := run_storeCells_at Try.prog g 0 23 (s.data.toList.map fun b => Value.int .u8 b.toNat) 0 (kv []) W H (by simp [kv_size]; exact hs) (by simp; intro a _; rfl)
  simp only [Nat.zero_add, List.take_zero, List.nil_append, List.length_map] at hst
  rw [copy_list _ (by rw [hlen]; exact hs)] at hst
  have hi5 : (Try.prog.info? 5).map (·.size) = some 1 := by kernel_rfl
  obtain ⟨i5, hi5, hz5⟩ := Option.map_eq_some_iff.1 hi5
  simp [Builtin.copy_, run_underlying Try.underlying45, Builtin.lenOf, Builtin.firstCells, sizeOf, typeInfo, hi5]
  have e : s.size.min 16 = s.size := Nat.min_eq_left hs
  rw [e, List.take_of_length_le (by simp), hst]
  rfl

theorem of_ok (s : ByteArray) (w : World) (hs : s.toList.isEmpty = false) (h2 : ¬ (16 : Int) < (s.size : Int)) (h3 : Lib.indexByte s.data.toList (0 : Int).toNat.toUInt8 < 0) :
    Calls Try.prog 10 #[.string s] w fun e w' => e = .returned (.tuple #[.agg (kv s.data.toList), .int .i64 0]) ∧ Below w.heap.size w w' := by
  have hz := kv_nil
  have H0 := Lib.hid (show ((W2 w).setRow (w.heap.size + 1) (kv s.data.toList)).heap[w.heap.size]? = some (.cells (kv []) 23 (0, 0)) by
    rw [setRow_other _ _ _ _ (by omega)]; exact W2_0 w)
  have H1 := Lib.hid (set_at (W := W2 w) (W2_1 w) s.data.toList)
  obtain ⟨ix, hix⟩ : ∃ ix, Lib.indexByte s.data.toList (0 : Int).toNat.toUInt8 = ix := ⟨_, rfl⟩
  rw [hix] at h3
  have HI := Lib.hid hix
  clear hix
  have hcp : (Builtin.copy_ #[45, 9] 3 #[.slice (some ⟨w.heap.size + 1, 0, none⟩) 16 16, .string s]).run Try.prog (W2 w) = .ok (.int .i64 s.size) ((W2 w).setRow (w.heap.size + 1) (kv s.data.toList)) :=
    run_copy_key (W2 w) (w.heap.size + 1) s (by omega) (W2_1 w)
  have hB : Below w.heap.size w ((W2 w).setRow (w.heap.size + 1) (kv s.data.toList)) := below_setRow (W2_below w) (by omega) _
  have HB := Lib.hid hB
  clear hB
  go_enter Try.func10, Try.ntmps10
  go_wp2_with (first | (go_at_call 25; refine (Try.strings_IndexByte _ _ _).mono ?_; rw [HI.out]; rintro e w' ⟨rfl, rfl⟩) | refine ld (.tmp 4) rfl rfl _ rfl s.data.toList H1.out ?_ | refine st (.tmp 2) (.tmp 21) rfl rfl _ s.data.toList [] rfl rfl H0.out ?_)
  exact bodyPost_ret (of_res s _ _ s.data.toList w.heap.size 0 rfl rfl (set_at (W := (W2 w).setRow (w.heap.size + 1) (kv s.data.toList)) (m := []) H0.out _)) rfl ⟨rfl, set_below HB.out _⟩

/-! ### Of, whatever the text -/
def okS (l : List UInt8) : Bool := !l.isEmpty && decide (l.length ≤ 16) && !l.contains 0
def ofK (l : List UInt8) : List UInt8 := if okS l = true then l else []
def ofE (l : List UInt8) : Int := if okS l = true then 0 else 1
theorem index_iff (l : List UInt8) (c : UInt8) : 0 ≤ Lib.indexByte l c ↔ c ∈ l := by
  induction l with
  | nil => simp [Lib.indexByte]
  | cons b l ih =>
    have hge := Lib.indexByte_ge l c
    unfold Lib.indexByte
    by_cases hb : b = c
    · subst hb; simp
    · have hb' : (b == c) = false := by simpa using hb
      simp only [hb', Bool.false_eq_true, if_false, List.mem_cons]
      by_cases hm : Lib.indexByte l c = -1
      · have hn : ¬ c ∈ l := fun h => by have := ih.2 h; omega
        simp [hm, hn, Ne.symm hb]
      · have hm' : (Lib.indexByte l c == -1) = false := by simpa using hm
        simp only [hm', Bool.false_eq_true, if_false]
        constructor
        · intro _; exact .inr (ih.1 (by omega))
        · intro h
          rcases h with h | h
          · exact absurd h (Ne.symm hb)
          · have := ih.2 h; omega
theorem of_calls (s : ByteArray) (w : World) :
    Calls Try.prog 10 #[.string s] w fun e w' => e = .returned (.tuple #[.agg (kv (ofK s.data.toList)), .int .i64 (ofE s.data.toList)]) ∧ Below w.heap.size w w' := by
  have hl : s.data.toList.length = s.size := rfl
  have hlist : s.toList = s.data.toList := ByteArray.toList_eq s
  by_cases h1 : s.toList.isEmpty = true
  · have e : okS s.data.toList = false := by rw [hlist] at h1; simp [okS, h1]
    simp only [ofK, ofE, e, Bool.false_eq_true, if_false]
    exact of_empty s w h1
  · have h1' : s.toList.isEmpty = false := by simpa using h1
    by_cases h2 : (16 : Int) < (s.size : Int)
    · have e : okS s.data.toList = false := by simp [okS, hl]; intro _ h; omega
      simp only [ofK, ofE, e, Bool.false_eq_true, if_false]
      exact of_big s w h1' h2
    · by_cases h3 : 0 ≤ Lib.indexByte s.data.toList (0 : Int).toNat.toUInt8
      · have hm : (0 : UInt8) ∈ s.data.toList := (index_iff _ _).1 h3
        have e : okS s.data.toList = false := by simp [okS]; intro _ _; simpa using hm
        simp only [ofK, ofE, e, Bool.false_eq_true, if_false]
        exact of_nul s w h1' h2 h3
      · have hm : ¬ (0 : UInt8) ∈ s.data.toList := fun h => h3 ((index_iff _ _).2 h)
        have e : okS s.data.toList = true := by
          rw [hlist] at h1'
          simp only [okS, h1', hl, Bool.not_false, Bool.true_and, Bool.and_eq_true, decide_eq_true_eq, Bool.not_eq_true', List.contains_eq_mem, decide_eq_false_iff_not]
          exact ⟨by omega, hm⟩
        simp only [ofK, ofE, e, if_true]
        exact of_ok s w h1' h2 (by omega)

/-! ### Keys that are equal -/
def keq (l m : List UInt8) : Bool := pad l == pad m
theorem run_items (l m : List UInt8) (w : World) (d : Nat) : ∀ is : List Nat, (∀ i ∈ is, i < 16) → (Op.eqItems (d + 1) 5 (Try.prog.cellsOf 5) (kv l) (kv m) is).run Try.prog w = .ok (is.all fun i => kb l i == kb m i) w
  | [], _ => by simp [Op.eqItems]
  | i :: is, hi => by
    have hc : Try.prog.cellsOf 5 = 1 := by kernel_rfl
    have hp : Try.prog.plainKey 5 = true := by kernel_rfl
    have h0 := hi i (by simp)
    have p1 := run_part_plain (P := Try.prog) w hp (xs := kv l) (off := i * Try.prog.cellsOf 5) (by rw [hc, Nat.mul_one]; exact kv_get l i h0)
    have p2 := run_part_plain (P := Try.prog) w hp (xs := kv m) (off := i * Try.prog.cellsOf 5) (by rw [hc, Nat.mul_one]; exact kv_get m i h0)
    have p3 := run_equalIn_int (P := Try.prog) w d 5 .u8 .u8 (kb l i) (kb m i) Try.underlying5
    have ih := run_items l m w d is (fun j hj => hi j (by simp [hj]))
    simp only [Op.eqItems, Sem.run_bind, p1, p2, p3, Result.andThen_ok]
    cases hb : (kb l i == kb m i)
    · simp [hb]
    · simp [hb, ih]
theorem all_pad (l m : List UInt8) : ((List.range 16).all fun i => kb l i == kb m i) = keq l m := by
  have h1 : ∀ a b : UInt8, (((a.toNat : Int)) == ((b.toNat : Int))) = (a == b) := fun a b => by
    rw [Bool.eq_iff_iff]
    simp only [beq_iff_eq]
    constructor
    · intro h; exact UInt8.toNat_inj.1 (by omega)
    · intro h; rw [h]
  rw [Bool.eq_iff_iff]
  unfold keq
  simp only [List.all_eq_true, List.mem_range, kb, h1, beq_iff_eq]
  constructor
  · intro h
    unfold pad
    exact List.map_congr_left fun i hi => h i (by simpa using hi)
  · intro h i hi
    have e1 := pad_get l i hi
    rw [h, pad_get m i hi] at e1
    exact (Option.some.inj e1).symm
theorem run_keq (l m : List UInt8) (w : World) : (binOp .eql 23 (.agg (kv l)) (.agg (kv m))).run Try.prog w = .ok (.bool (keq l m)) w := by
  obtain ⟨i5, hi5, _⟩ := Option.map_eq_some_iff.1 (show (Try.prog.info? 5).map (·.size) = some 1 by kernel_rfl)
  rw [run_eql_struct, show (10000 : Nat) = (9998 + 1) + 1 from rfl, run_equalIn_array w (9998 + 1) (kv l) (kv m) und23 hi5, run_items l m w 9998 _ (fun i hi => by simpa using hi), all_pad]
  rfl

end Go.Proofs.Ytnmnniknklfemaa
