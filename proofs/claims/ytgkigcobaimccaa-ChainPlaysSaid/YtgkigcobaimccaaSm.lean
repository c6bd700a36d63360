/- Two stores that hold the same: a contract for every world. Conditions: the theorem's own. -/
import Derived.Test.YtgkigcobaimccaaVe
namespace Go.Proofs.Ytgkigcobaimccaa
open Go.RowKit Go.Proofs.Ytgkigcobaimccaa.Sp
set_option linter.unusedVariables false
set_option linter.unusedSimpArgs false
theorem quiet_ldO {C : World → Prop} {K : Act → Prop} {o : Oper} {a : Act} (x : Operand) (ho : o.op = .load 49 x) (g off : Nat) (hx : a.eval x = .pointer (some ⟨g, off, none⟩)) (v : Ver) (hg : ∀ w, C w → w.rangeAt g off (oC v).toList)
    (hk : K (a.put o.dst (.agg (oC v)))) : o.quiet Try.prog a C K :=
  quiet_val _ (fun w hw => by
    have hl := run_loadVar_mid (P := Try.prog) w g off 49 (oC v).toList _ (hg w hw) Try.underlying49 rfl (by kernel_rfl)
    unfold execOp
    simp only [ho, hx, Instr.loadAt, Instr.sureAddr, Sem.run_bind, Sem.run_pure, Result.andThen_ok, hl]) hk
theorem ne_opS (x : Ver) (w : World) : (execOp (fun o => match o with | .tmp 32 => .agg (oC x) | .tmp 39 => .agg (oC x) | _ => undef) { dst := some 40, op := .binOp .neq 49 (.tmp 32) (.tmp 39) 49, type := 4, pos := "", after := #[], guard := none }).run Try.prog w = .ok (.value (.bool false)) w := by
  have h := eq_key w
  unfold kz at h
  simp [go_sem, oC, h]
def Ro (b : Nat) (L : List Ver) (w : World) : Prop := ∀ j u, (oV L)[j]? = some u → w.cell? ⟨b, j, none⟩ = some u
theorem Ro.at_ {b : Nat} {L : List Ver} {w : World} (h : Ro b L w) {k : Nat} {x : Ver} (hx : L[k]? = some x) : w.rangeAt b (k * 20) (oC x).toList := by
  intro j v hj
  have hj2 : j < 20 := (List.getElem?_eq_some_iff.mp hj).1
  exact h _ _ (by rw [oV_get L k x hx j hj2, ← Array.getElem?_toList]; exact hj)
set_option maxRecDepth 100000 in
set_option maxHeartbeats 8000000 in
theorem same_calls (g1 g2 b1 b2 c1 c2 : Nat) (A1 A2 : Option Addr) (L : List Ver) (w : World) (h1 : w.cell? ⟨g1, 0, none⟩ = some (.slice A1 L.length c1)) (h2 : w.cell? ⟨g2, 0, none⟩ = some (.slice A2 L.length c2))
    (e1 : 0 < L.length → A1 = some ⟨b1, 0, none⟩) (e2 : 0 < L.length → A2 = some ⟨b2, 0, none⟩) (r1 : Ro b1 L w) (r2 : Ro b2 L w) (hL6 : L.length ≤ 1000) :
    Calls Try.prog 14 #[.pointer (some ⟨g1, 0, none⟩), .pointer (some ⟨g2, 0, none⟩)] w fun e w' => e = .returned (.bool true) ∧ Below w.heap.size w w' := by
  have HC1 := Lib.hid (fun w' (hb : Below w.heap.size w w') => cell_grow h1 hb)
  have HC2 := Lib.hid (fun w' (hb : Below w.heap.size w w') => cell_grow h2 hb)
  have HR1 := Lib.hid (fun w' (hb : Below w.heap.size w w') (k : Nat) (x : Ver) (hx : L[k]? = some x) => show w'.rangeAt b1 (k * 20) (oC x).toList from fun j v hj => cell_grow (r1.at_ hx j v hj) hb)
  have HR2 := Lib.hid (fun w' (hb : Below w.heap.size w w') (k : Nat) (x : Ver) (hx : L[k]? = some x) => show w'.rangeAt b2 (k * 20) (oC x).toList from fun j v hj => cell_grow (r2.at_ hx j v hj) hb)
  clear h1 h2 r1 r2
  go_enter Try.func14, Try.ntmps14
  go_wp2_with fail
  refine region_quiet_lit (C := fun w' => Below w.heap.size w w') (by kernel_rfl) (by kernel_rfl) (Below.refl _ _).drew ?_
  go_big_quiet_step (exact fun _ => rfl)
  go_big_quiet_step (exact fun _ => rfl)
  go_big_quiet_step (exact fun _ => rfl)
  refine BigFrame.wpQuiet_want rfl (fun K hK => ?_)
  refine quiet_val (.slice A1 L.length c1) (fun w2 hw => by have q := HC1.out w2 hw; simp [go_sem, q]) (hK _ ?_)
  clear hK K
  simp only [Act.put, List.setIfInBounds_toArray, List.set_cons_zero, List.set_cons_succ]
  go_big_quiet_step (exact fun _ => rfl)
  go_big_quiet_step (exact fun _ => rfl)
  go_big_quiet_step (exact fun _ => rfl)
  go_big_quiet_step (exact fun _ => rfl)
  refine BigFrame.wpQuiet_want rfl (fun K hK => ?_)
  refine quiet_val (.slice A2 L.length c2) (fun w2 hw => by have q := HC2.out w2 hw; simp [go_sem, q]) (hK _ ?_)
  clear hK K
  simp only [Act.put, List.setIfInBounds_toArray, List.set_cons_zero, List.set_cons_succ]
  go_big_quiet_step (exact fun _ => rfl)
  go_big_quiet_step (exact fun _ => rfl)
  refine wpQuiet_nil ?_
  intro w4 hw4
  have HB := Lib.hid hw4
  clear hw4
  go_wp2_with fail
  go_loopw [5] (fun i wr => ∃ k : Nat, k ≤ L.length ∧ i = .int .i64 k ∧ Below w.heap.size w wr) (fun i _ => L.length - (intOf i).toNat)
  case atStart => exact ⟨0, by omega, rfl, HB.out⟩
  case round =>
    obtain ⟨k, hk, rfl, hB⟩ := hrel
    have HBr := Lib.hid hB
    have q1 := HC1.out _ hB
    clear hB
    by_cases hlt : k < L.length
    · obtain ⟨x, hx⟩ : ∃ x, L[k]? = some x := ⟨_, List.getElem?_eq_getElem hlt⟩
      have HO1 := Lib.hid (fun w' (hb : Below wr.heap.size wr w') => HR1.out w' (HBr.out.trans (hb.mono HBr.out.size)) k x hx)
      have HO2 := Lib.hid (fun w' (hb : Below wr.heap.size wr w') => HR2.out w' (HBr.out.trans (hb.mono HBr.out.size)) k x hx)
      have HK1 := Lib.hid (fun w' (hb : Below wr.heap.size wr w') => HC1.out w' (HBr.out.trans (hb.mono HBr.out.size)))
      have HK2 := Lib.hid (fun w' (hb : Below wr.heap.size wr w') => HC2.out w' (HBr.out.trans (hb.mono HBr.out.size)))
      obtain rfl := e1 (by omega)
      obtain rfl := e2 (by omega)
      have hkl : (k : Int) < (L.length : Int) := by omega
      clear hx
      go_wp2_with fail
      refine region_quiet_lit (C := fun w' => Below wr.heap.size wr w') (by kernel_rfl) (by kernel_rfl) (Below.refl _ _).drew ?_
      go_big_quiet_step (exact fun _ => rfl)
      go_big_quiet_step (exact fun _ => rfl)
      go_big_quiet_step (exact fun _ => rfl)
      refine BigFrame.wpQuiet_want rfl (fun K hK => ?_)
      refine quiet_val (.slice (some ⟨b1, 0, none⟩) L.length c1) (fun w2 hw => by have q := HK1.out w2 hw; simp [go_sem, q]) (hK _ ?_)
      clear hK K
      simp only [Act.put, List.setIfInBounds_toArray, List.set_cons_zero, List.set_cons_succ]
      go_big_quiet_step (exact fun _ => rfl)
      go_big_quiet_step (exact fun _ => rfl)
      refine BigFrame.wpQuiet_want rfl (fun K hK => ?_)
      refine quiet_ldO (.tmp 31) rfl b1 (k * 20) rfl x (fun w2 hw => HO1.out w2 hw) (hK _ ?_)
      clear hK K
      simp only [Act.put, List.setIfInBounds_toArray, List.set_cons_zero, List.set_cons_succ]
      go_big_quiet_step (exact fun _ => rfl)
      go_big_quiet_step (exact fun _ => rfl)
      go_big_quiet_step (exact fun _ => rfl)
      refine BigFrame.wpQuiet_want rfl (fun K hK => ?_)
      refine quiet_val (.slice (some ⟨b2, 0, none⟩) L.length c2) (fun w2 hw => by have q := HK2.out w2 hw; simp [go_sem, q]) (hK _ ?_)
      clear hK K
      simp only [Act.put, List.setIfInBounds_toArray, List.set_cons_zero, List.set_cons_succ]
      go_big_quiet_step (exact fun _ => rfl)
      go_big_quiet_step (exact fun _ => rfl)
      refine BigFrame.wpQuiet_want rfl (fun K hK => ?_)
      refine quiet_ldO (.tmp 38) rfl b2 (k * 20) rfl x (fun w2 hw => HO2.out w2 hw) (hK _ ?_)
      clear hK K
      simp only [Act.put, List.setIfInBounds_toArray, List.set_cons_zero, List.set_cons_succ]
      refine BigFrame.wpQuiet_want rfl (fun K hK => ?_)
      refine quiet_val (.bool false) (fun w2 hw => ne_opS x w2) (hK _ ?_)
      clear hK K
      simp only [Act.put, List.setIfInBounds_toArray, List.set_cons_zero, List.set_cons_succ]
      refine wpQuiet_nil ?_
      intro w4 hw4
      have HB4 := Lib.hid (HBr.out.trans (hw4.mono HBr.out.size))
      clear hw4
      go_wp2_with fail
      go_roundw
      case rel => exact ⟨k + 1, by omega, by go_num, HB4.out⟩
      case measure => simp [intOf] <;> omega
    · obtain rfl : k = L.length := by omega
      go_wp2_with fail
      go_ret
      exact ⟨rfl, HBr.out⟩
end Go.Proofs.Ytgkigcobaimccaa
