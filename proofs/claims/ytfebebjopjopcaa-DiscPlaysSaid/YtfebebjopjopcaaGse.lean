/- What See does to a clock (of disc, of hourglassref6) in a block of three cells: contracts for every world, by cases: the stamp no good one, not above the clock's last time, above it. -/
import Derived.Test.YtfebebjopjopcaaGcl
import Derived.WalkKit
import Derived.KernelRfl
import Derived.Deep.QuietTactic
import Derived.BigQuiet
import Derived.Lib.Hide
namespace Go.Proofs.YtfebebjopjopcaaG
open Go.RowKit
set_option linter.unusedVariables false
set_option linter.unusedSimpArgs false
section
variable {P : Program} {C : World → Prop} {K : Act → Prop} {o : Oper} {a : Act}
theorem quiet_call (f : FuncId) (args : Array Value) (v : Value) (hrun : ∀ w, (execOp a.eval o).run P w = .ok (.enter f args) w) (hc : ∀ w, C w → Calls P f args w fun e w' => e = .returned v ∧ C w') (hk : K (a.put o.dst v)) : o.quiet P a C K :=
  ⟨v, fun w hw => by unfold Oper.quietAt; rw [hrun w]; exact ⟨rfl, hc w hw⟩, hk⟩
theorem quiet_val (v : Value) (hrun : ∀ w, C w → (execOp a.eval o).run P w = .ok (.value v) w) (hk : K (a.put o.dst v)) : o.quiet P a C K :=
  ⟨v, fun w hw => by unfold Oper.quietAt; rw [hrun w hw]; exact ⟨rfl, rfl⟩, hk⟩
end
theorem region_quiet_lit {P : Program} {C : World → Prop} {id : Nat} {Q : Exit → Act → World → Prop} {a : Act} {w : World} {l : List Oper} (hm : P.follows .mixedOrders = true) (hB : Region.lexB .any l.toArray = true) (hC : C w.drew)
    (hh : wpQuiet P l.toArray C (fun a' => ∀ w', C w' → Q .normal a' w') l a) : (Code.region id l.toArray true).wp P Q a w :=
  wp_region_quiet hm hB hC (by simpa using hh)
def IsB (w : World) (g : Nat) (cs : Array Value) (t : TypeId) : Prop := w.heap[g]? = some (.cells cs t (0, 0))
theorem IsB.to {w w' : World} {b g : Nat} {cs : Array Value} {t : TypeId} (H : IsB w g cs t) (hb : Below b w w') (hg : g < b) : IsB w' g cs t := (hb.block g hg).trans H
theorem IsB.lt {w : World} {g : Nat} {cs : Array Value} {t : TypeId} (H : IsB w g cs t) : g < w.heap.size := lt_of_block H
theorem IsB.at {w : World} {g : Nat} {cs : Array Value} {t : TypeId} (H : IsB w g cs t) (i : Nat) : w.cell? ⟨g, i, none⟩ = cs[i]? := by unfold IsB at H; simp [World.cell?, H]
theorem isB_new (w : World) (cs : Array Value) (t : TypeId) : IsB (w.alloc (.cells cs t)) w.heap.size cs t := heap_alloc_new w _
theorem IsB.set1 {w : World} {g : Nat} {x y z : Value} {t : TypeId} (H : IsB w g #[x, y, z] t) (u : Value) : IsB (w.setCell ⟨g, 1, none⟩ u) g #[x, u, z] t := by
  have hlt := H.lt
  unfold IsB at *
  have h' : w.heap[g] = .cells #[x, y, z] t (0, 0) := by simpa [Array.getElem?_eq_getElem hlt] using H
  show (w.heap.modify g _)[g]? = _
  rw [Array.getElem?_eq_getElem (by simpa using hlt), Array.getElem_modify_self, h']
  rfl
theorem gob {w w' : World} (h : Below w.heap.size w w') (r : Option Nat) : w.grownBy w' r := ⟨h.os, h.tape, h.output, h.size, fun i hi _ => h.block i hi⟩
theorem IsB.fr {w : World} {g : Nat} {cs : Array Value} {t : TypeId} (H : IsB w g cs t) (i : Nat) : w.frozen? ⟨g, i, none⟩ = false := by unfold IsB at H; simp [World.frozen?, H]

theorem see_bad (g : Nat) (n h o t m : Int) (w : World) (H : IsB w g #[.int .u8 n, .int .i64 h, .int .i64 o] 49) 
    (HG : Hid (∀ w, Calls Try.prog 24 #[.agg #[.int .i64 t, .int .u8 m]] w fun e w' => e = .returned (.bool false) ∧ Below w.heap.size w w')) :
    Calls Try.prog 14 #[.pointer (some ⟨g, 0, none⟩), .agg #[.int .i64 t, .int .u8 m]] w fun e w' => e = .returned (.bool false) ∧ Below w.heap.size w w' := by
  have hu := Try.underlying29
  have hl := H.lt
  have I0 := Lib.hid (isB_new w #[.int .i64 t, .int .u8 m] 29)
  have BA := Lib.hid ((Below.refl w.heap.size w).alloc (Nat.le_refl _) (.cells #[.int .i64 t, .int .u8 m] 29))
  have I1 := Lib.hid (show IsB (w.alloc (.cells #[.int .i64 t, .int .u8 m] 29)) g #[.int .u8 n, .int .i64 h, .int .i64 o] 49 from H.to (BA.out) hl)
  have HL := Lib.hid hl
  clear hl H
  go_enter Try.func14, Try.ntmps14
  go_wp2_with fail
  obtain ⟨W, hW⟩ : ∃ W, w.alloc (.cells #[.int .i64 t, .int .u8 m] 29) = W := ⟨_, rfl⟩
  rw [hW] at I0 I1 BA ⊢
  have hz : w.heap.size < W.heap.size := I0.out.lt
  have hg : g < W.heap.size := I1.out.lt
  have HZ := Lib.hid (And.intro hz hg)
  clear hz hg
  refine region_quiet_lit (C := fun w' => Below W.heap.size W w') (by kernel_rfl) (by kernel_rfl) (Below.refl _ _).drew ?_
  refine BigFrame.wpQuiet_want rfl (fun K hK => ?_)
  refine quiet_val (.agg #[.int .i64 t, .int .u8 m]) (fun w2 hw => by have a0 := (I0.out.to hw HZ.out.1).at 0; have a1 := (I0.out.to hw HZ.out.1).at 1; simp at a0 a1; simp [go_sem, a0, a1, hu]) (hK _ ?_)
  clear hK K
  simp only [Act.put, List.setIfInBounds_toArray, List.set_cons_zero, List.set_cons_succ]
  refine BigFrame.wpQuiet_want rfl (fun K hK => ?_)
  refine quiet_call 24 #[.agg #[.int .i64 t, .int .u8 m]] (.bool false) (fun w2 => by simp [go_sem]) (fun w2 hw => (HG.out w2).mono fun e w' hx => ⟨hx.1, hw.trans (hx.2.mono hw.size)⟩) (hK _ ?_)
  clear hK K
  simp only [Act.put, List.setIfInBounds_toArray, List.set_cons_zero, List.set_cons_succ]
  refine BigFrame.wpQuiet_want rfl (fun K hK => ?_)
  refine quiet_val (.bool true) (fun w2 hw => rfl) (hK _ ?_)
  clear hK K
  simp only [Act.put, List.setIfInBounds_toArray, List.set_cons_zero, List.set_cons_succ]
  refine BigFrame.wpQuiet_want rfl (fun K hK => ?_)
  refine quiet_val (.bool true) (fun w2 hw => rfl) (hK _ ?_)
  clear hK K
  simp only [Act.put, List.setIfInBounds_toArray, List.set_cons_zero, List.set_cons_succ]
  refine BigFrame.wpQuiet_skip rfl ?_
  simp only [Act.put, List.setIfInBounds_toArray, List.set_cons_zero, List.set_cons_succ]
  refine BigFrame.wpQuiet_skip rfl ?_
  simp only [Act.put, List.setIfInBounds_toArray, List.set_cons_zero, List.set_cons_succ]
  refine BigFrame.wpQuiet_skip rfl ?_
  simp only [Act.put, List.setIfInBounds_toArray, List.set_cons_zero, List.set_cons_succ]
  refine BigFrame.wpQuiet_skip rfl ?_
  simp only [Act.put, List.setIfInBounds_toArray, List.set_cons_zero, List.set_cons_succ]
  refine BigFrame.wpQuiet_skip rfl ?_
  simp only [Act.put, List.setIfInBounds_toArray, List.set_cons_zero, List.set_cons_succ]
  refine BigFrame.wpQuiet_skip rfl ?_
  simp only [Act.put, List.setIfInBounds_toArray, List.set_cons_zero, List.set_cons_succ]
  refine BigFrame.wpQuiet_skip rfl ?_
  simp only [Act.put, List.setIfInBounds_toArray, List.set_cons_zero, List.set_cons_succ]
  refine BigFrame.wpQuiet_want rfl (fun K hK => ?_)
  refine quiet_val (.bool true) (fun w2 hw => rfl) (hK _ ?_)
  clear hK K
  simp only [Act.put, List.setIfInBounds_toArray, List.set_cons_zero, List.set_cons_succ]
  refine wpQuiet_nil ?_
  intro w5 hw5
  go_wp2
  go_ret
  exact ⟨rfl, BA.out.trans (hw5.mono (Nat.le_of_lt HZ.out.1))⟩

theorem see_low (g : Nat) (n h o t m : Int) (w : World) (H : IsB w g #[.int .u8 n, .int .i64 h, .int .i64 o] 49) (hc : t ≤ h)
    (HG : Hid (∀ w, Calls Try.prog 24 #[.agg #[.int .i64 t, .int .u8 m]] w fun e w' => e = .returned (.bool true) ∧ Below w.heap.size w w')) :
    Calls Try.prog 14 #[.pointer (some ⟨g, 0, none⟩), .agg #[.int .i64 t, .int .u8 m]] w fun e w' => e = .returned (.bool false) ∧ Below w.heap.size w w' := by
  have hu := Try.underlying29
  have hl := H.lt
  have I0 := Lib.hid (isB_new w #[.int .i64 t, .int .u8 m] 29)
  have BA := Lib.hid ((Below.refl w.heap.size w).alloc (Nat.le_refl _) (.cells #[.int .i64 t, .int .u8 m] 29))
  have I1 := Lib.hid (show IsB (w.alloc (.cells #[.int .i64 t, .int .u8 m] 29)) g #[.int .u8 n, .int .i64 h, .int .i64 o] 49 from H.to (BA.out) hl)
  have HL := Lib.hid hl
  clear hl H
  go_enter Try.func14, Try.ntmps14
  go_wp2_with fail
  obtain ⟨W, hW⟩ : ∃ W, w.alloc (.cells #[.int .i64 t, .int .u8 m] 29) = W := ⟨_, rfl⟩
  rw [hW] at I0 I1 BA ⊢
  have hz : w.heap.size < W.heap.size := I0.out.lt
  have hg : g < W.heap.size := I1.out.lt
  have HZ := Lib.hid (And.intro hz hg)
  clear hz hg
  refine region_quiet_lit (C := fun w' => Below W.heap.size W w') (by kernel_rfl) (by kernel_rfl) (Below.refl _ _).drew ?_
  refine BigFrame.wpQuiet_want rfl (fun K hK => ?_)
  refine quiet_val (.agg #[.int .i64 t, .int .u8 m]) (fun w2 hw => by have a0 := (I0.out.to hw HZ.out.1).at 0; have a1 := (I0.out.to hw HZ.out.1).at 1; simp at a0 a1; simp [go_sem, a0, a1, hu]) (hK _ ?_)
  clear hK K
  simp only [Act.put, List.setIfInBounds_toArray, List.set_cons_zero, List.set_cons_succ]
  refine BigFrame.wpQuiet_want rfl (fun K hK => ?_)
  refine quiet_call 24 #[.agg #[.int .i64 t, .int .u8 m]] (.bool true) (fun w2 => by simp [go_sem]) (fun w2 hw => (HG.out w2).mono fun e w' hx => ⟨hx.1, hw.trans (hx.2.mono hw.size)⟩) (hK _ ?_)
  clear hK K
  simp only [Act.put, List.setIfInBounds_toArray, List.set_cons_zero, List.set_cons_succ]
  refine BigFrame.wpQuiet_want rfl (fun K hK => ?_)
  refine quiet_val (.bool false) (fun w2 hw => rfl) (hK _ ?_)
  clear hK K
  simp only [Act.put, List.setIfInBounds_toArray, List.set_cons_zero, List.set_cons_succ]
  refine BigFrame.wpQuiet_want rfl (fun K hK => ?_)
  refine quiet_val (.bool false) (fun w2 hw => rfl) (hK _ ?_)
  clear hK K
  simp only [Act.put, List.setIfInBounds_toArray, List.set_cons_zero, List.set_cons_succ]
  refine BigFrame.wpQuiet_want rfl (fun K hK => ?_)
  refine quiet_val (.pointer (some ⟨w.heap.size, 0, none⟩)) (fun w2 hw => rfl) (hK _ ?_)
  clear hK K
  simp only [Act.put, List.setIfInBounds_toArray, List.set_cons_zero, List.set_cons_succ]
  refine BigFrame.wpQuiet_want rfl (fun K hK => ?_)
  refine quiet_val (.int .i64 t) (fun w2 hw => by have a0 := (I0.out.to hw HZ.out.1).at 0; simp at a0; simp [go_sem, a0]) (hK _ ?_)
  clear hK K
  simp only [Act.put, List.setIfInBounds_toArray, List.set_cons_zero, List.set_cons_succ]
  refine BigFrame.wpQuiet_want rfl (fun K hK => ?_)
  refine quiet_val (.pointer (some ⟨g, 0, none⟩)) (fun w2 hw => rfl) (hK _ ?_)
  clear hK K
  simp only [Act.put, List.setIfInBounds_toArray, List.set_cons_zero, List.set_cons_succ]
  refine BigFrame.wpQuiet_want rfl (fun K hK => ?_)
  refine quiet_val (.pointer (some ⟨g, 0, none⟩)) (fun w2 hw => rfl) (hK _ ?_)
  clear hK K
  simp only [Act.put, List.setIfInBounds_toArray, List.set_cons_zero, List.set_cons_succ]
  refine BigFrame.wpQuiet_want rfl (fun K hK => ?_)
  refine quiet_val (.pointer (some ⟨g, 1, none⟩)) (fun w2 hw => rfl) (hK _ ?_)
  clear hK K
  simp only [Act.put, List.setIfInBounds_toArray, List.set_cons_zero, List.set_cons_succ]
  refine BigFrame.wpQuiet_want rfl (fun K hK => ?_)
  refine quiet_val (.int .i64 h) (fun w2 hw => by have a0 := (I1.out.to hw HZ.out.2).at 1; simp at a0; simp [go_sem, a0]) (hK _ ?_)
  clear hK K
  simp only [Act.put, List.setIfInBounds_toArray, List.set_cons_zero, List.set_cons_succ]
  refine BigFrame.wpQuiet_want rfl (fun K hK => ?_)
  refine quiet_val (.bool true) (fun w2 hw => by simp [go_sem]; omega) (hK _ ?_)
  clear hK K
  simp only [Act.put, List.setIfInBounds_toArray, List.set_cons_zero, List.set_cons_succ]
  refine BigFrame.wpQuiet_want rfl (fun K hK => ?_)
  refine quiet_val (.bool true) (fun w2 hw => rfl) (hK _ ?_)
  clear hK K
  simp only [Act.put, List.setIfInBounds_toArray, List.set_cons_zero, List.set_cons_succ]
  refine wpQuiet_nil ?_
  intro w5 hw5
  go_wp2
  go_ret
  exact ⟨rfl, BA.out.trans (hw5.mono (Nat.le_of_lt HZ.out.1))⟩

theorem see_yes (g : Nat) (n h o t m : Int) (w : World) (H : IsB w g #[.int .u8 n, .int .i64 h, .int .i64 o] 49) (hc : ¬ t ≤ h)
    (HG : Hid (∀ w, Calls Try.prog 24 #[.agg #[.int .i64 t, .int .u8 m]] w fun e w' => e = .returned (.bool true) ∧ Below w.heap.size w w')) :
    Calls Try.prog 14 #[.pointer (some ⟨g, 0, none⟩), .agg #[.int .i64 t, .int .u8 m]] w fun e w' => e = .returned (.bool true) ∧ w.grownBy w' (some g) ∧ IsB w' g #[.int .u8 n, .int .i64 t, .int .i64 o] 49 := by
  have hu := Try.underlying29
  have hl := H.lt
  have I0 := Lib.hid (isB_new w #[.int .i64 t, .int .u8 m] 29)
  have BA := Lib.hid ((Below.refl w.heap.size w).alloc (Nat.le_refl _) (.cells #[.int .i64 t, .int .u8 m] 29))
  have I1 := Lib.hid (show IsB (w.alloc (.cells #[.int .i64 t, .int .u8 m] 29)) g #[.int .u8 n, .int .i64 h, .int .i64 o] 49 from H.to (BA.out) hl)
  have HL := Lib.hid hl
  clear hl H
  go_enter Try.func14, Try.ntmps14
  go_wp2_with fail
  obtain ⟨W, hW⟩ : ∃ W, w.alloc (.cells #[.int .i64 t, .int .u8 m] 29) = W := ⟨_, rfl⟩
  rw [hW] at I0 I1 BA ⊢
  have hz : w.heap.size < W.heap.size := I0.out.lt
  have hg : g < W.heap.size := I1.out.lt
  have HZ := Lib.hid (And.intro hz hg)
  clear hz hg
  refine region_quiet_lit (C := fun w' => Below W.heap.size W w') (by kernel_rfl) (by kernel_rfl) (Below.refl _ _).drew ?_
  refine BigFrame.wpQuiet_want rfl (fun K hK => ?_)
  refine quiet_val (.agg #[.int .i64 t, .int .u8 m]) (fun w2 hw => by have a0 := (I0.out.to hw HZ.out.1).at 0; have a1 := (I0.out.to hw HZ.out.1).at 1; simp at a0 a1; simp [go_sem, a0, a1, hu]) (hK _ ?_)
  clear hK K
  simp only [Act.put, List.setIfInBounds_toArray, List.set_cons_zero, List.set_cons_succ]
  refine BigFrame.wpQuiet_want rfl (fun K hK => ?_)
  refine quiet_call 24 #[.agg #[.int .i64 t, .int .u8 m]] (.bool true) (fun w2 => by simp [go_sem]) (fun w2 hw => (HG.out w2).mono fun e w' hx => ⟨hx.1, hw.trans (hx.2.mono hw.size)⟩) (hK _ ?_)
  clear hK K
  simp only [Act.put, List.setIfInBounds_toArray, List.set_cons_zero, List.set_cons_succ]
  refine BigFrame.wpQuiet_want rfl (fun K hK => ?_)
  refine quiet_val (.bool false) (fun w2 hw => rfl) (hK _ ?_)
  clear hK K
  simp only [Act.put, List.setIfInBounds_toArray, List.set_cons_zero, List.set_cons_succ]
  refine BigFrame.wpQuiet_want rfl (fun K hK => ?_)
  refine quiet_val (.bool false) (fun w2 hw => rfl) (hK _ ?_)
  clear hK K
  simp only [Act.put, List.setIfInBounds_toArray, List.set_cons_zero, List.set_cons_succ]
  refine BigFrame.wpQuiet_want rfl (fun K hK => ?_)
  refine quiet_val (.pointer (some ⟨w.heap.size, 0, none⟩)) (fun w2 hw => rfl) (hK _ ?_)
  clear hK K
  simp only [Act.put, List.setIfInBounds_toArray, List.set_cons_zero, List.set_cons_succ]
  refine BigFrame.wpQuiet_want rfl (fun K hK => ?_)
  refine quiet_val (.int .i64 t) (fun w2 hw => by have a0 := (I0.out.to hw HZ.out.1).at 0; simp at a0; simp [go_sem, a0]) (hK _ ?_)
  clear hK K
  simp only [Act.put, List.setIfInBounds_toArray, List.set_cons_zero, List.set_cons_succ]
  refine BigFrame.wpQuiet_want rfl (fun K hK => ?_)
  refine quiet_val (.pointer (some ⟨g, 0, none⟩)) (fun w2 hw => rfl) (hK _ ?_)
  clear hK K
  simp only [Act.put, List.setIfInBounds_toArray, List.set_cons_zero, List.set_cons_succ]
  refine BigFrame.wpQuiet_want rfl (fun K hK => ?_)
  refine quiet_val (.pointer (some ⟨g, 0, none⟩)) (fun w2 hw => rfl) (hK _ ?_)
  clear hK K
  simp only [Act.put, List.setIfInBounds_toArray, List.set_cons_zero, List.set_cons_succ]
  refine BigFrame.wpQuiet_want rfl (fun K hK => ?_)
  refine quiet_val (.pointer (some ⟨g, 1, none⟩)) (fun w2 hw => rfl) (hK _ ?_)
  clear hK K
  simp only [Act.put, List.setIfInBounds_toArray, List.set_cons_zero, List.set_cons_succ]
  refine BigFrame.wpQuiet_want rfl (fun K hK => ?_)
  refine quiet_val (.int .i64 h) (fun w2 hw => by have a0 := (I1.out.to hw HZ.out.2).at 1; simp at a0; simp [go_sem, a0]) (hK _ ?_)
  clear hK K
  simp only [Act.put, List.setIfInBounds_toArray, List.set_cons_zero, List.set_cons_succ]
  refine BigFrame.wpQuiet_want rfl (fun K hK => ?_)
  refine quiet_val (.bool false) (fun w2 hw => by simp [go_sem]; omega) (hK _ ?_)
  clear hK K
  simp only [Act.put, List.setIfInBounds_toArray, List.set_cons_zero, List.set_cons_succ]
  refine BigFrame.wpQuiet_want rfl (fun K hK => ?_)
  refine quiet_val (.bool false) (fun w2 hw => rfl) (hK _ ?_)
  clear hK K
  simp only [Act.put, List.setIfInBounds_toArray, List.set_cons_zero, List.set_cons_succ]
  refine wpQuiet_nil ?_
  intro w5 hw5
  have J0 := I0.out.to hw5 HZ.out.1
  have J1 := I1.out.to hw5 HZ.out.2
  have a0 := J0.at 0
  have f1 := J1.fr 1
  have a1 := J1.at 1
  simp at a0 a1
  have HJ := Lib.hid J1
  have GW := Lib.hid (show w.grownBy w5 (some g) from gob (BA.out.trans (hw5.mono (Nat.le_of_lt HZ.out.1))) _)
  clear J0 J1 hw5
  go_wp2
  go_ret
  exact ⟨rfl, grown_set GW.out (.inl rfl) _, HJ.out.set1 _⟩

theorem rsee_bad (g : Nat) (n h o t m : Int) (w : World) (H : IsB w g #[.int .u8 n, .int .i64 h, .int .i64 o] 46) 
    (HG : Hid (∀ w, Calls Try.prog 15 #[.agg #[.int .i64 t, .int .u8 m]] w fun e w' => e = .returned (.bool false) ∧ Below w.heap.size w w')) :
    Calls Try.prog 20 #[.pointer (some ⟨g, 0, none⟩), .agg #[.int .i64 t, .int .u8 m]] w fun e w' => e = .returned (.bool false) ∧ Below w.heap.size w w' := by
  have hu := Try.underlying29
  have hl := H.lt
  have I0 := Lib.hid (isB_new w #[.int .i64 t, .int .u8 m] 29)
  have BA := Lib.hid ((Below.refl w.heap.size w).alloc (Nat.le_refl _) (.cells #[.int .i64 t, .int .u8 m] 29))
  have I1 := Lib.hid (show IsB (w.alloc (.cells #[.int .i64 t, .int .u8 m] 29)) g #[.int .u8 n, .int .i64 h, .int .i64 o] 46 from H.to (BA.out) hl)
  have HL := Lib.hid hl
  clear hl H
  go_enter Try.func20, Try.ntmps20
  go_wp2_with fail
  obtain ⟨W, hW⟩ : ∃ W, w.alloc (.cells #[.int .i64 t, .int .u8 m] 29) = W := ⟨_, rfl⟩
  rw [hW] at I0 I1 BA ⊢
  have hz : w.heap.size < W.heap.size := I0.out.lt
  have hg : g < W.heap.size := I1.out.lt
  have HZ := Lib.hid (And.intro hz hg)
  clear hz hg
  refine region_quiet_lit (C := fun w' => Below W.heap.size W w') (by kernel_rfl) (by kernel_rfl) (Below.refl _ _).drew ?_
  refine BigFrame.wpQuiet_want rfl (fun K hK => ?_)
  refine quiet_val (.agg #[.int .i64 t, .int .u8 m]) (fun w2 hw => by have a0 := (I0.out.to hw HZ.out.1).at 0; have a1 := (I0.out.to hw HZ.out.1).at 1; simp at a0 a1; simp [go_sem, a0, a1, hu]) (hK _ ?_)
  clear hK K
  simp only [Act.put, List.setIfInBounds_toArray, List.set_cons_zero, List.set_cons_succ]
  refine BigFrame.wpQuiet_want rfl (fun K hK => ?_)
  refine quiet_call 15 #[.agg #[.int .i64 t, .int .u8 m]] (.bool false) (fun w2 => by simp [go_sem]) (fun w2 hw => (HG.out w2).mono fun e w' hx => ⟨hx.1, hw.trans (hx.2.mono hw.size)⟩) (hK _ ?_)
  clear hK K
  simp only [Act.put, List.setIfInBounds_toArray, List.set_cons_zero, List.set_cons_succ]
  refine BigFrame.wpQuiet_want rfl (fun K hK => ?_)
  refine quiet_val (.bool true) (fun w2 hw => rfl) (hK _ ?_)
  clear hK K
  simp only [Act.put, List.setIfInBounds_toArray, List.set_cons_zero, List.set_cons_succ]
  refine BigFrame.wpQuiet_want rfl (fun K hK => ?_)
  refine quiet_val (.bool true) (fun w2 hw => rfl) (hK _ ?_)
  clear hK K
  simp only [Act.put, List.setIfInBounds_toArray, List.set_cons_zero, List.set_cons_succ]
  refine BigFrame.wpQuiet_skip rfl ?_
  simp only [Act.put, List.setIfInBounds_toArray, List.set_cons_zero, List.set_cons_succ]
  refine BigFrame.wpQuiet_skip rfl ?_
  simp only [Act.put, List.setIfInBounds_toArray, List.set_cons_zero, List.set_cons_succ]
  refine BigFrame.wpQuiet_skip rfl ?_
  simp only [Act.put, List.setIfInBounds_toArray, List.set_cons_zero, List.set_cons_succ]
  refine BigFrame.wpQuiet_skip rfl ?_
  simp only [Act.put, List.setIfInBounds_toArray, List.set_cons_zero, List.set_cons_succ]
  refine BigFrame.wpQuiet_skip rfl ?_
  simp only [Act.put, List.setIfInBounds_toArray, List.set_cons_zero, List.set_cons_succ]
  refine BigFrame.wpQuiet_skip rfl ?_
  simp only [Act.put, List.setIfInBounds_toArray, List.set_cons_zero, List.set_cons_succ]
  refine BigFrame.wpQuiet_skip rfl ?_
  simp only [Act.put, List.setIfInBounds_toArray, List.set_cons_zero, List.set_cons_succ]
  refine BigFrame.wpQuiet_want rfl (fun K hK => ?_)
  refine quiet_val (.bool true) (fun w2 hw => rfl) (hK _ ?_)
  clear hK K
  simp only [Act.put, List.setIfInBounds_toArray, List.set_cons_zero, List.set_cons_succ]
  refine wpQuiet_nil ?_
  intro w5 hw5
  go_wp2
  go_ret
  exact ⟨rfl, BA.out.trans (hw5.mono (Nat.le_of_lt HZ.out.1))⟩

theorem rsee_low (g : Nat) (n h o t m : Int) (w : World) (H : IsB w g #[.int .u8 n, .int .i64 h, .int .i64 o] 46) (hc : t ≤ h)
    (HG : Hid (∀ w, Calls Try.prog 15 #[.agg #[.int .i64 t, .int .u8 m]] w fun e w' => e = .returned (.bool true) ∧ Below w.heap.size w w')) :
    Calls Try.prog 20 #[.pointer (some ⟨g, 0, none⟩), .agg #[.int .i64 t, .int .u8 m]] w fun e w' => e = .returned (.bool false) ∧ Below w.heap.size w w' := by
  have hu := Try.underlying29
  have hl := H.lt
  have I0 := Lib.hid (isB_new w #[.int .i64 t, .int .u8 m] 29)
  have BA := Lib.hid ((Below.refl w.heap.size w).alloc (Nat.le_refl _) (.cells #[.int .i64 t, .int .u8 m] 29))
  have I1 := Lib.hid (show IsB (w.alloc (.cells #[.int .i64 t, .int .u8 m] 29)) g #[.int .u8 n, .int .i64 h, .int .i64 o] 46 from H.to (BA.out) hl)
  have HL := Lib.hid hl
  clear hl H
  go_enter Try.func20, Try.ntmps20
  go_wp2_with fail
  obtain ⟨W, hW⟩ : ∃ W, w.alloc (.cells #[.int .i64 t, .int .u8 m] 29) = W := ⟨_, rfl⟩
  rw [hW] at I0 I1 BA ⊢
  have hz : w.heap.size < W.heap.size := I0.out.lt
  have hg : g < W.heap.size := I1.out.lt
  have HZ := Lib.hid (And.intro hz hg)
  clear hz hg
  refine region_quiet_lit (C := fun w' => Below W.heap.size W w') (by kernel_rfl) (by kernel_rfl) (Below.refl _ _).drew ?_
  refine BigFrame.wpQuiet_want rfl (fun K hK => ?_)
  refine quiet_val (.agg #[.int .i64 t, .int .u8 m]) (fun w2 hw => by have a0 := (I0.out.to hw HZ.out.1).at 0; have a1 := (I0.out.to hw HZ.out.1).at 1; simp at a0 a1; simp [go_sem, a0, a1, hu]) (hK _ ?_)
  clear hK K
  simp only [Act.put, List.setIfInBounds_toArray, List.set_cons_zero, List.set_cons_succ]
  refine BigFrame.wpQuiet_want rfl (fun K hK => ?_)
  refine quiet_call 15 #[.agg #[.int .i64 t, .int .u8 m]] (.bool true) (fun w2 => by simp [go_sem]) (fun w2 hw => (HG.out w2).mono fun e w' hx => ⟨hx.1, hw.trans (hx.2.mono hw.size)⟩) (hK _ ?_)
  clear hK K
  simp only [Act.put, List.setIfInBounds_toArray, List.set_cons_zero, List.set_cons_succ]
  refine BigFrame.wpQuiet_want rfl (fun K hK => ?_)
  refine quiet_val (.bool false) (fun w2 hw => rfl) (hK _ ?_)
  clear hK K
  simp only [Act.put, List.setIfInBounds_toArray, List.set_cons_zero, List.set_cons_succ]
  refine BigFrame.wpQuiet_want rfl (fun K hK => ?_)
  refine quiet_val (.bool false) (fun w2 hw => rfl) (hK _ ?_)
  clear hK K
  simp only [Act.put, List.setIfInBounds_toArray, List.set_cons_zero, List.set_cons_succ]
  refine BigFrame.wpQuiet_want rfl (fun K hK => ?_)
  refine quiet_val (.pointer (some ⟨w.heap.size, 0, none⟩)) (fun w2 hw => rfl) (hK _ ?_)
  clear hK K
  simp only [Act.put, List.setIfInBounds_toArray, List.set_cons_zero, List.set_cons_succ]
  refine BigFrame.wpQuiet_want rfl (fun K hK => ?_)
  refine quiet_val (.int .i64 t) (fun w2 hw => by have a0 := (I0.out.to hw HZ.out.1).at 0; simp at a0; simp [go_sem, a0]) (hK _ ?_)
  clear hK K
  simp only [Act.put, List.setIfInBounds_toArray, List.set_cons_zero, List.set_cons_succ]
  refine BigFrame.wpQuiet_want rfl (fun K hK => ?_)
  refine quiet_val (.pointer (some ⟨g, 0, none⟩)) (fun w2 hw => rfl) (hK _ ?_)
  clear hK K
  simp only [Act.put, List.setIfInBounds_toArray, List.set_cons_zero, List.set_cons_succ]
  refine BigFrame.wpQuiet_want rfl (fun K hK => ?_)
  refine quiet_val (.pointer (some ⟨g, 0, none⟩)) (fun w2 hw => rfl) (hK _ ?_)
  clear hK K
  simp only [Act.put, List.setIfInBounds_toArray, List.set_cons_zero, List.set_cons_succ]
  refine BigFrame.wpQuiet_want rfl (fun K hK => ?_)
  refine quiet_val (.pointer (some ⟨g, 1, none⟩)) (fun w2 hw => rfl) (hK _ ?_)
  clear hK K
  simp only [Act.put, List.setIfInBounds_toArray, List.set_cons_zero, List.set_cons_succ]
  refine BigFrame.wpQuiet_want rfl (fun K hK => ?_)
  refine quiet_val (.int .i64 h) (fun w2 hw => by have a0 := (I1.out.to hw HZ.out.2).at 1; simp at a0; simp [go_sem, a0]) (hK _ ?_)
  clear hK K
  simp only [Act.put, List.setIfInBounds_toArray, List.set_cons_zero, List.set_cons_succ]
  refine BigFrame.wpQuiet_want rfl (fun K hK => ?_)
  refine quiet_val (.bool true) (fun w2 hw => by simp [go_sem]; omega) (hK _ ?_)
  clear hK K
  simp only [Act.put, List.setIfInBounds_toArray, List.set_cons_zero, List.set_cons_succ]
  refine BigFrame.wpQuiet_want rfl (fun K hK => ?_)
  refine quiet_val (.bool true) (fun w2 hw => rfl) (hK _ ?_)
  clear hK K
  simp only [Act.put, List.setIfInBounds_toArray, List.set_cons_zero, List.set_cons_succ]
  refine wpQuiet_nil ?_
  intro w5 hw5
  go_wp2
  go_ret
  exact ⟨rfl, BA.out.trans (hw5.mono (Nat.le_of_lt HZ.out.1))⟩

theorem rsee_yes (g : Nat) (n h o t m : Int) (w : World) (H : IsB w g #[.int .u8 n, .int .i64 h, .int .i64 o] 46) (hc : ¬ t ≤ h)
    (HG : Hid (∀ w, Calls Try.prog 15 #[.agg #[.int .i64 t, .int .u8 m]] w fun e w' => e = .returned (.bool true) ∧ Below w.heap.size w w')) :
    Calls Try.prog 20 #[.pointer (some ⟨g, 0, none⟩), .agg #[.int .i64 t, .int .u8 m]] w fun e w' => e = .returned (.bool true) ∧ w.grownBy w' (some g) ∧ IsB w' g #[.int .u8 n, .int .i64 t, .int .i64 o] 46 := by
  have hu := Try.underlying29
  have hl := H.lt
  have I0 := Lib.hid (isB_new w #[.int .i64 t, .int .u8 m] 29)
  have BA := Lib.hid ((Below.refl w.heap.size w).alloc (Nat.le_refl _) (.cells #[.int .i64 t, .int .u8 m] 29))
  have I1 := Lib.hid (show IsB (w.alloc (.cells #[.int .i64 t, .int .u8 m] 29)) g #[.int .u8 n, .int .i64 h, .int .i64 o] 46 from H.to (BA.out) hl)
  have HL := Lib.hid hl
  clear hl H
  go_enter Try.func20, Try.ntmps20
  go_wp2_with fail
  obtain ⟨W, hW⟩ : ∃ W, w.alloc (.cells #[.int .i64 t, .int .u8 m] 29) = W := ⟨_, rfl⟩
  rw [hW] at I0 I1 BA ⊢
  have hz : w.heap.size < W.heap.size := I0.out.lt
  have hg : g < W.heap.size := I1.out.lt
  have HZ := Lib.hid (And.intro hz hg)
  clear hz hg
  refine region_quiet_lit (C := fun w' => Below W.heap.size W w') (by kernel_rfl) (by kernel_rfl) (Below.refl _ _).drew ?_
  refine BigFrame.wpQuiet_want rfl (fun K hK => ?_)
  refine quiet_val (.agg #[.int .i64 t, .int .u8 m]) (fun w2 hw => by have a0 := (I0.out.to hw HZ.out.1).at 0; have a1 := (I0.out.to hw HZ.out.1).at 1; simp at a0 a1; simp [go_sem, a0, a1, hu]) (hK _ ?_)
  clear hK K
  simp only [Act.put, List.setIfInBounds_toArray, List.set_cons_zero, List.set_cons_succ]
  refine BigFrame.wpQuiet_want rfl (fun K hK => ?_)
  refine quiet_call 15 #[.agg #[.int .i64 t, .int .u8 m]] (.bool true) (fun w2 => by simp [go_sem]) (fun w2 hw => (HG.out w2).mono fun e w' hx => ⟨hx.1, hw.trans (hx.2.mono hw.size)⟩) (hK _ ?_)
  clear hK K
  simp only [Act.put, List.setIfInBounds_toArray, List.set_cons_zero, List.set_cons_succ]
  refine BigFrame.wpQuiet_want rfl (fun K hK => ?_)
  refine quiet_val (.bool false) (fun w2 hw => rfl) (hK _ ?_)
  clear hK K
  simp only [Act.put, List.setIfInBounds_toArray, List.set_cons_zero, List.set_cons_succ]
  refine BigFrame.wpQuiet_want rfl (fun K hK => ?_)
  refine quiet_val (.bool false) (fun w2 hw => rfl) (hK _ ?_)
  clear hK K
  simp only [Act.put, List.setIfInBounds_toArray, List.set_cons_zero, List.set_cons_succ]
  refine BigFrame.wpQuiet_want rfl (fun K hK => ?_)
  refine quiet_val (.pointer (some ⟨w.heap.size, 0, none⟩)) (fun w2 hw => rfl) (hK _ ?_)
  clear hK K
  simp only [Act.put, List.setIfInBounds_toArray, List.set_cons_zero, List.set_cons_succ]
  refine BigFrame.wpQuiet_want rfl (fun K hK => ?_)
  refine quiet_val (.int .i64 t) (fun w2 hw => by have a0 := (I0.out.to hw HZ.out.1).at 0; simp at a0; simp [go_sem, a0]) (hK _ ?_)
  clear hK K
  simp only [Act.put, List.setIfInBounds_toArray, List.set_cons_zero, List.set_cons_succ]
  refine BigFrame.wpQuiet_want rfl (fun K hK => ?_)
  refine quiet_val (.pointer (some ⟨g, 0, none⟩)) (fun w2 hw => rfl) (hK _ ?_)
  clear hK K
  simp only [Act.put, List.setIfInBounds_toArray, List.set_cons_zero, List.set_cons_succ]
  refine BigFrame.wpQuiet_want rfl (fun K hK => ?_)
  refine quiet_val (.pointer (some ⟨g, 0, none⟩)) (fun w2 hw => rfl) (hK _ ?_)
  clear hK K
  simp only [Act.put, List.setIfInBounds_toArray, List.set_cons_zero, List.set_cons_succ]
  refine BigFrame.wpQuiet_want rfl (fun K hK => ?_)
  refine quiet_val (.pointer (some ⟨g, 1, none⟩)) (fun w2 hw => rfl) (hK _ ?_)
  clear hK K
  simp only [Act.put, List.setIfInBounds_toArray, List.set_cons_zero, List.set_cons_succ]
  refine BigFrame.wpQuiet_want rfl (fun K hK => ?_)
  refine quiet_val (.int .i64 h) (fun w2 hw => by have a0 := (I1.out.to hw HZ.out.2).at 1; simp at a0; simp [go_sem, a0]) (hK _ ?_)
  clear hK K
  simp only [Act.put, List.setIfInBounds_toArray, List.set_cons_zero, List.set_cons_succ]
  refine BigFrame.wpQuiet_want rfl (fun K hK => ?_)
  refine quiet_val (.bool false) (fun w2 hw => by simp [go_sem]; omega) (hK _ ?_)
  clear hK K
  simp only [Act.put, List.setIfInBounds_toArray, List.set_cons_zero, List.set_cons_succ]
  refine BigFrame.wpQuiet_want rfl (fun K hK => ?_)
  refine quiet_val (.bool false) (fun w2 hw => rfl) (hK _ ?_)
  clear hK K
  simp only [Act.put, List.setIfInBounds_toArray, List.set_cons_zero, List.set_cons_succ]
  refine wpQuiet_nil ?_
  intro w5 hw5
  have J0 := I0.out.to hw5 HZ.out.1
  have J1 := I1.out.to hw5 HZ.out.2
  have a0 := J0.at 0
  have f1 := J1.fr 1
  have a1 := J1.at 1
  simp at a0 a1
  have HJ := Lib.hid J1
  have GW := Lib.hid (show w.grownBy w5 (some g) from gob (BA.out.trans (hw5.mono (Nat.le_of_lt HZ.out.1))) _)
  clear J0 J1 hw5
  go_wp2
  go_ret
  exact ⟨rfl, grown_set GW.out (.inl rfl) _, HJ.out.set1 _⟩
end Go.Proofs.YtfebebjopjopcaaG
