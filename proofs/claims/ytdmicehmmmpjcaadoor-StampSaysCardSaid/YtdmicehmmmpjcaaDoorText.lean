/- What stamp's Text writes, for every stamp, where the library's table of powers is as its own text lays it. -/
import Derived.Test.YtdmicehmmmpjcaaDoorOrdL
import Derived.Test.YtdmicehmmmpjcaaDoorRows
import Derived.ProofKit
import Derived.Lib.LaidTab
import Derived.Lib.ItoaLen
namespace Go.Proofs.YtdmicehmmmpjcaaDoor
open Go.RowKit Go.Sort
set_option linter.unusedVariables false
set_option linter.unusedSimpArgs false
def Tab (w : World) : Prop := Lib.TabIs Tryd.prog w "internal/strconv.uint64pow10" .u64 Lib.pow10Tab
theorem gTab : Tryd.prog.globalNamed "internal/strconv.uint64pow10" = some 0 := by kernel_rfl
theorem gTabType : (Tryd.prog.globals[0]?).map (·.type) = some 61 := by kernel_rfl
theorem cells61 : Tryd.prog.cellsOf 61 = 20 := by kernel_rfl
theorem cells24 : Tryd.prog.cellsOf 24 = 1 := by kernel_rfl
theorem tab_pos {w : World} (h : Tab w) : 0 < w.heap.size := by
  unfold Tab Lib.TabIs World.var? at h
  rw [gTab] at h
  simp only [Option.bind_some] at h
  rcases Nat.eq_zero_or_pos w.heap.size with h0 | h0
  · rw [Array.getElem?_eq_none (by omega)] at h; cases h
  · exact h0
theorem tab_below {b : Nat} {w w' : World} (h : Tab w) (H : Below b w w') (hb : 0 < b) : Tab w' := by
  unfold Tab Lib.TabIs World.var? at *
  rw [gTab] at h ⊢
  simp only [Option.bind_some] at h ⊢
  rw [H.block 0 hb]
  exact h
theorem below_grow {b : Nat} {w w' : World} (H : Below b w w') (hb : b ≤ w'.heap.size) (k : Nat) (os : Array Obj) : Below b w (grow (w'.drewN k) os) :=
  H.trans ⟨rfl, rfl, rfl, by simp [grow, World.drewN], fun i hi => by
    show (w'.heap ++ os)[i]? = w'.heap[i]?
    rw [Array.getElem?_append_left (by omega)]⟩

def txt (t n : Int) : ByteArray := ⟨(Lib.itoa t ++ [46] ++ Lib.itoa n).toArray⟩
theorem text_calls (t n : Int) (h0 : -9223372036854775808 ≤ t) (h1 : t ≤ 9223372036854775807) (hn : 0 ≤ n ∧ n ≤ 255) (w : World) (hT : Tab w) :
    Calls Tryd.prog 15 #[.agg #[.int .i64 t, .int .u8 n]] w fun e w' => e = .returned (.string (txt t n)) ∧ Below w.heap.size w w' := by
  have HI := Lib.hid (Tryd.strconv_FormatInt_10 t h0 h1)
  have HS := Lib.hid (Tryd.strconv_Itoa n (by omega) (by omega))
  have l1 := Lib.itoa_length_le t h0 h1
  have l2 := Lib.itoa_length_le n (by omega) (by omega)
  have I0 := Lib.hid (isSt_new w t n)
  have wn : IntKind.i64.wrap n = n := by rw [IntKind.wrap_i64]; omega
  have s1 : ∀ w : World, (Op.stringOp .add ⟨(Lib.itoa t).toArray⟩ ⟨#[46]⟩).run Tryd.prog w = .ok (.string ⟨(Lib.itoa t ++ [46]).toArray⟩) w := fun w => run_string_add_lists w (Lib.itoa t) [46] (by omega) (by decide)
  have s2 : ∀ w : World, (Op.stringOp .add ⟨(Lib.itoa t ++ [46]).toArray⟩ ⟨(Lib.itoa n).toArray⟩).run Tryd.prog w = .ok (.string ⟨(Lib.itoa t ++ [46] ++ Lib.itoa n).toArray⟩) w := fun w => run_string_add_lists w (Lib.itoa t ++ [46]) (Lib.itoa n) (by simp; omega) (by omega)
  unfold txt
  obtain ⟨sA, hA⟩ : ∃ s : ByteArray, ⟨(Lib.itoa t).toArray⟩ = s := ⟨_, rfl⟩
  obtain ⟨sB, hB⟩ : ∃ s : ByteArray, ⟨(Lib.itoa t ++ [46]).toArray⟩ = s := ⟨_, rfl⟩
  obtain ⟨sC, hC⟩ : ∃ s : ByteArray, ⟨(Lib.itoa n).toArray⟩ = s := ⟨_, rfl⟩
  obtain ⟨sD, hD⟩ : ∃ s : ByteArray, ⟨(Lib.itoa t ++ [46] ++ Lib.itoa n).toArray⟩ = s := ⟨_, rfl⟩
  rw [hA] at HI s1
  rw [hB] at s1 s2
  rw [hC] at HS s2
  rw [hD] at s2 ⊢
  clear hA hB hC hD l1 l2
  have hT' : Tab (w.alloc (.cells #[.int .i64 t, .int .u8 n] 23)) := tab_below hT ((Below.refl _ _).alloc (Nat.le_refl _) _) (tab_pos hT)
  have P0 := tab_pos hT
  have BA := Lib.hid ((Below.refl w.heap.size w).alloc (Nat.le_refl _) (.cells #[.int .i64 t, .int .u8 n] 23))
  go_enter Tryd.func15, Tryd.ntmps15
  go_wp2_with fail
  obtain ⟨W, hW⟩ : ∃ W, w.alloc (.cells #[.int .i64 t, .int .u8 n] 23) = W := ⟨_, rfl⟩
  rw [hW] at I0 hT' BA ⊢
  have SZ : w.heap.size < W.heap.size := I0.out.lt
  clear hW
  refine region_quiet_lit (C := fun w' => Below W.heap.size W w') (by kernel_rfl) (by kernel_rfl) (Below.refl _ _).drew ?_
  refine BigFrame.wpQuiet_want rfl (fun K hK => ?_)
  refine quiet_val (.pointer (some ⟨w.heap.size, 0, none⟩)) (fun w2 hw => by simp [go_sem]) (hK _ ?_)
  clear hK K
  simp only [Act.put, List.setIfInBounds_toArray, List.set_cons_zero, List.set_cons_succ]
  refine BigFrame.wpQuiet_want rfl (fun K hK => ?_)
  refine quiet_val (.int .i64 t) (fun w2 hw => by simp [go_sem, (I0.out.to hw SZ).c0]) (hK _ ?_)
  clear hK K
  simp only [Act.put, List.setIfInBounds_toArray, List.set_cons_zero, List.set_cons_succ]
  refine BigFrame.wpQuiet_want rfl (fun K hK => ?_)
  refine quiet_call 25 #[.int .i64 t, .int .i64 10] (.string sA) (fun w2 => by simp [go_sem]) (fun w2 hw => (HI.out w2 (tab_below hT' hw (by omega))).mono fun e w3 hh => ⟨hh.1, by obtain ⟨k, os, rfl⟩ := hh.2; exact below_grow hw hw.size k os⟩) (hK _ ?_)
  clear hK K
  simp only [Act.put, List.setIfInBounds_toArray, List.set_cons_zero, List.set_cons_succ]
  refine BigFrame.wpQuiet_want rfl (fun K hK => ?_)
  refine quiet_val (.string sB) (fun w2 hw => by simp [go_sem, s1]) (hK _ ?_)
  clear hK K
  simp only [Act.put, List.setIfInBounds_toArray, List.set_cons_zero, List.set_cons_succ]
  refine BigFrame.wpQuiet_want rfl (fun K hK => ?_)
  refine quiet_val (.pointer (some ⟨w.heap.size, 1, none⟩)) (fun w2 hw => by simp [go_sem]) (hK _ ?_)
  clear hK K
  simp only [Act.put, List.setIfInBounds_toArray, List.set_cons_zero, List.set_cons_succ]
  refine BigFrame.wpQuiet_want rfl (fun K hK => ?_)
  refine quiet_val (.int .u8 n) (fun w2 hw => by simp [go_sem, (I0.out.to hw SZ).c1]) (hK _ ?_)
  clear hK K
  simp only [Act.put, List.setIfInBounds_toArray, List.set_cons_zero, List.set_cons_succ]
  refine BigFrame.wpQuiet_want rfl (fun K hK => ?_)
  refine quiet_val (.int .i64 n) (fun w2 hw => by simp [go_sem, wn]) (hK _ ?_)
  clear hK K
  simp only [Act.put, List.setIfInBounds_toArray, List.set_cons_zero, List.set_cons_succ]
  refine BigFrame.wpQuiet_want rfl (fun K hK => ?_)
  refine quiet_call 26 #[.int .i64 n] (.string sC) (fun w2 => by simp [go_sem]) (fun w2 hw => (HS.out w2 (tab_below hT' hw (by omega))).mono fun e w3 hh => ⟨hh.1, by obtain ⟨k, os, rfl⟩ := hh.2; exact below_grow hw hw.size k os⟩) (hK _ ?_)
  clear hK K
  simp only [Act.put, List.setIfInBounds_toArray, List.set_cons_zero, List.set_cons_succ]
  refine BigFrame.wpQuiet_want rfl (fun K hK => ?_)
  refine quiet_val (.string sD) (fun w2 hw => by simp [go_sem, s2]) (hK _ ?_)
  clear hK K
  simp only [Act.put, List.setIfInBounds_toArray, List.set_cons_zero, List.set_cons_succ]
  refine BigFrame.wpQuiet_want rfl (fun K hK => ?_)
  refine quiet_val (.string sD) (fun w2 hw => rfl) (hK _ ?_)
  clear hK K
  simp only [Act.put, List.setIfInBounds_toArray, List.set_cons_zero, List.set_cons_succ]
  refine wpQuiet_nil ?_
  intro w2 hw2
  have B2 := Lib.hid (BA.out.trans (hw2.mono (by omega)))
  clear hw2 s1 s2 I0 hT'
  go_wp2_with fail
  go_ret
  exact ⟨rfl, B2.out⟩
end Go.Proofs.YtdmicehmmmpjcaaDoor
