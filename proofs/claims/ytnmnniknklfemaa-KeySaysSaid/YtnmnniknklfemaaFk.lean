/- Rows of keys: their cells, what a row of the call's own holds, append. No condition but each theorem's own. -/
import Derived.Test.YtnmnniknklfemaaKey
import Derived.Test.YtnmnniknklfemaaCmp
import Derived.Test.YtnmnniknklfemaaRw
namespace Go.Proofs.Ytnmnniknklfemaa
open Go.RowKit
open Sp (RowB Hp Reads row_append apL)
set_option linter.unusedVariables false
set_option linter.unusedSimpArgs false
abbrev K16 := {l : List UInt8 // l.length = 16}
instance : Inhabited K16 := ⟨⟨List.replicate 16 0, rfl⟩⟩
def encK (x : K16) : List Value := (kv x.1).toList
theorem encK_len (x : K16) : (encK x).length = 16 := rfl
theorem encK_one (x : K16) : ∀ v ∈ encK x, v.oneCell' = true := by
  intro v hv
  have := Array.all_eq_true_iff_forall_mem.1 (kv_one x.1) v (by simpa [encK] using hv)
  exact this
def flat (ks : List K16) : List Value := ks.flatMap encK
theorem flat_len : ∀ ks : List K16, (flat ks).length = ks.length * 16
  | [] => rfl
  | x :: r => by rw [flat, List.flatMap_cons, List.length_append, encK_len, ← flat, flat_len r, List.length_cons]; omega
theorem flat_app (a b : List K16) : flat (a ++ b) = flat a ++ flat b := by simp [flat]
theorem flat_one (x : K16) : flat [x] = encK x := by simp [flat]
theorem flat_get : ∀ (ks : List K16) (i j : Nat), j < 16 → (flat ks)[i * 16 + j]? = (ks[i]?).bind fun x => (encK x)[j]?
  | [], i, j, _ => by simp [flat]
  | x :: r, 0, j, hj => by
    have : (flat (x :: r)) = encK x ++ flat r := by simp [flat]
    rw [this, List.getElem?_append_left (by rw [encK_len]; omega)]; simp
  | x :: r, i + 1, j, hj => by
    have : (flat (x :: r)) = encK x ++ flat r := by simp [flat]
    rw [this, List.getElem?_append_right (by rw [encK_len]; omega), encK_len, show (i + 1) * 16 + j - 16 = i * 16 + j by omega, flat_get r i j hj]; simp
theorem flat_take : ∀ (k : Nat) (L : List K16), (flat L).take (k * 16) = flat (L.take k)
  | 0, L => by simp [flat]
  | k + 1, [] => by simp [flat]
  | k + 1, x :: L => by
    have ih := flat_take k L
    simp only [flat, List.flatMap_cons, List.take_succ_cons] at ih ⊢
    rw [← ih, show (k + 1) * 16 = (encK x).length + k * 16 by rw [encK_len]; omega, List.take_length_add_append]
theorem flat_drop : ∀ (k : Nat) (L : List K16), (flat L).drop (k * 16) = flat (L.drop k)
  | 0, L => by simp [flat]
  | k + 1, [] => by simp [flat]
  | k + 1, x :: L => by
    have ih := flat_drop k L
    simp only [flat, List.flatMap_cons, List.drop_succ_cons] at ih ⊢
    rw [← ih, show (k + 1) * 16 = (encK x).length + k * 16 by rw [encK_len]; omega, List.drop_length_add_append]
theorem flat_oc (L : List K16) : ∀ u ∈ flat L, u.oneCell' = true := by
  intro u hu
  obtain ⟨x, hx, hu⟩ := List.mem_flatMap.mp hu
  exact encK_one x u hu
theorem info23i : ∃ i z, Try.prog.info? 23 = some i ∧ i.zero = some z ∧ i.size = 16 ∧ i.bytes = 16 ∧ z.cells.size = 16 := by
  obtain ⟨i, hi, h⟩ := Option.map_eq_some_iff.1 (show (Try.prog.info? 23).map (fun i => (i.zero.isSome, i.size, i.bytes, (i.zero.getD undef).cells.size)) = some (true, 16, 16, 16) by kernel_rfl)
  obtain ⟨z, hz⟩ := Option.isSome_iff_exists.1 (congrArg (·.1) h)
  refine ⟨i, z, hi, hz, congrArg (·.2.1) h, congrArg (·.2.2.1) h, ?_⟩
  have := congrArg (·.2.2.2) h
  simpa [hz] using this
theorem app_k {w0 w : World} {h F : Hp} {v : Value} {n : Nat} {xs : List Value} (R : RowB 23 16 v n xs h) (H : Sp.Holds w0 (h ++ F) w) (A : Option Addr) (m c : Nat) (hc : A = none → c = 0) (news : List Value) (hr : Reads w A m 16 news) (h1 : ∀ u ∈ news, u.oneCell' = true) (hn : n + m ≤ 100000) :
    ∃ v' h' w', (Builtin.append_ #[35, 35] 35 #[v, .slice A m c]).run Try.prog w = .ok v' w' ∧ RowB 23 16 v' (n + m) (xs ++ news) h' ∧ Sp.Holds w0 (h' ++ F) w' := by
  obtain ⟨i, z, hi, hz, h3, h4, h5⟩ := info23i
  exact row_append (t := 35) R H 35 i z 16 Try.underlying35 hi hz h3 h4 h5 (by decide) A m c hc news hr h1 (by have hmx : maxLen = 9223372036854775807 := rfl; omega) (by omega)
theorem RowB.form {e : TypeId} {sz n : Nat} {v : Value} {xs : List Value} {h : Hp} (R : RowB e sz v n xs h) : ∃ A c, v = .slice A n c ∧ n ≤ c ∧ (A = none → c = 0) := by
  obtain ⟨h1, ⟨rfl, rfl, rfl⟩ | ⟨g, cap, cur, rfl, rfl, h2, h3, h4, h5⟩⟩ := R
  · exact ⟨none, 0, rfl, Nat.le_refl _, fun _ => rfl⟩
  · exact ⟨some ⟨g, 0, none⟩, cap, rfl, h2, fun h => by cases h⟩
/-- Where a slice's keys lie. -/
def KAt (w : World) (A : Option Addr) (ks : List K16) : Prop := 0 < ks.length → ∃ b off, A = some ⟨b, off, none⟩ ∧ b < w.heap.size ∧ ∀ t v, (flat ks)[t]? = some v → w.cell? ⟨b, off + t, none⟩ = some v
theorem KAt.below {w w' : World} {A : Option Addr} {ks : List K16} (h : KAt w A ks) (hb : Below w.heap.size w w') : KAt w' A ks := fun hn => by
  obtain ⟨b, off, e, hlt, hc⟩ := h hn
  exact ⟨b, off, e, Nat.lt_of_lt_of_le hlt hb.size, fun t v ht => (hb.cell (p := ⟨b, off + t, none⟩) hlt).trans (hc t v ht)⟩
theorem KAt.reads {w : World} {A : Option Addr} {ks : List K16} (h : KAt w A ks) : Reads w (if ks.length = 0 then none else A) ks.length 16 (flat ks) := by
  refine ⟨flat_len ks, fun e => ?_, fun ad had j u hj => ?_⟩
  · by_cases h0 : ks.length = 0
    · exact h0
    · obtain ⟨b, off, e2, _⟩ := h (by omega)
      rw [if_neg h0, e2] at e
      cases e
  · by_cases h0 : ks.length = 0
    · rw [if_pos h0] at had; cases had
    · obtain ⟨b, off, e2, _, hc⟩ := h (by omega)
      rw [if_neg h0, e2] at had
      injection had with had
      subst had
      have e : (⟨b, off, none⟩ : Addr).add j = ⟨b, off + j, none⟩ := by unfold Addr.add; split <;> simp_all
      rw [e]
      exact hc j u hj
theorem KAt.of_row {w0 w : World} {ks : List K16} {h F : Hp} {A : Option Addr} {n c : Nat} (R : RowB 23 16 (.slice A n c) n (flat ks) h) (H : Sp.Holds w0 (h ++ F) w) : KAt w A ks := fun hn => by
  have hl := R.1
  rw [flat_len] at hl
  obtain ⟨A2, c2, hv, _, _, hr⟩ := R.reads H
  obtain ⟨h1, ⟨hv2, h0, rfl⟩ | ⟨g, cap, cur, hv2, rfl, h2, h3, h4, h5⟩⟩ := R
  · omega
  · injection hv2 with e1 _ _
    injection hv with e2 _ _
    refine ⟨g, 0, e1, lt_of_block (H.mem (x := (g, .cells cur 23 (0, 0))) (by simp)), fun t v ht => ?_⟩
    have := hr.2.2 ⟨g, 0, none⟩ (e2.symm.trans e1) t v ht
    have e : (⟨g, 0, none⟩ : Addr).add t = ⟨g, 0 + t, none⟩ := by unfold Addr.add; split <;> simp_all
    rwa [e] at this
theorem KAt.key {w : World} {b off : Nat} {ks : List K16} (h : KAt w (some ⟨b, off, none⟩) ks) (k : Nat) (hk : k < ks.length) (j : Nat) (hj : j < 16) : w.cell? ((⟨b, off + k * 16, none⟩ : Addr).add j) = some (.int .u8 (kb ks[k].1 j)) := by
  obtain ⟨b2, off2, e, _, hc⟩ := h (by omega)
  injection e with e
  injection e with e1 e2
  subst e1; subst e2
  have e : (⟨b, off + k * 16, none⟩ : Addr).add j = ⟨b, off + (k * 16 + j), none⟩ := by unfold Addr.add; split <;> simp_all [Nat.add_assoc]
  rw [e]
  refine hc _ _ ?_
  rw [flat_get ks k j hj, List.getElem?_eq_getElem hk]
  simp only [Option.bind_some]
  have := kv_get ks[k].1 j hj
  rw [← Array.getElem?_toList] at this
  exact this
/-- A key's load at any address. -/
theorem agg23 : ∀ w, (isAgg 23).run Try.prog w = .ok true w := fun w => by
  unfold isAgg
  rw [Sem.run_bind, run_underlying und23 w]; rfl
theorem size23 : ∀ w, (Go.sizeOf 23).run Try.prog w = .ok 16 w := fun w => by
  obtain ⟨i, hi⟩ := Option.isSome_iff_exists.1 (show (Try.prog.info? 23).isSome = true by kernel_rfl)
  rw [run_sizeOf w hi, show Try.prog.cellsOf 23 = 16 by kernel_rfl]
theorem run_load_key {w : World} (ad : Addr) (l : List UInt8) (hc : ∀ j, j < 16 → w.cell? (ad.add j) = some (.int .u8 (kb l j))) : (loadVar 23 ad).run Try.prog w = .ok (.agg (kv l)) w := by
  have hl := run_loadCells_list (P := Try.prog) (w := w) ad (kv l).toList (fun j v hv => by
    have hj : j < 16 := by have := (List.getElem?_eq_some_iff.1 hv).1; simpa [kv_size] using this
    rw [hc j hj]
    have := kv_get l j hj
    rw [← Array.getElem?_toList] at this
    rw [← this, hv])
  have e : (kv l).toList.length = 16 := rfl
  rw [e, Array.toArray_toList] at hl
  simp [loadVar, Sem.run_bind, agg23, size23, hl]
theorem Holds.join {w0 w w' : World} {h F : Hp} (H : Sp.Holds w0 F w) (H' : Sp.Holds w h w') : Sp.Holds w0 (h ++ F) w' := by
  have H2 := H.grow H'.below
  refine ⟨H2.below, fun x hx => ?_, ?_⟩
  · rcases List.mem_append.mp hx with hx | hx
    · exact ⟨(H'.at_ x hx).1, Nat.le_trans H.size (H'.at_ x hx).2⟩
    · exact H2.at_ x hx
  · rw [List.map_append, List.nodup_append]
    refine ⟨H'.nodup, H2.nodup, fun a ha b hb e => ?_⟩
    obtain ⟨x, hx, rfl⟩ := List.mem_map.mp ha
    obtain ⟨y, hy, rfl⟩ := List.mem_map.mp hb
    have h1 := (H'.at_ x hx).2
    have h2 := lt_of_block (H.at_ y hy).1
    omega
theorem cut_hi (A : Option Addr) (n c p : Nat) (hp : p ≤ n) (hn : n ≤ c) (W : World) : (Instr.slice 35 (.slice A n c) none (some (.int .i64 (p : Int))) none).run Try.prog W = .ok (.slice A p c) W := by
  obtain ⟨i, z, hi, hz, q1, q2⟩ := info23i
  have hel : Try.prog.elem 35 = 23 := by simp [Program.elem, Try.underlying35]
  have hu : Try.prog.underlying 35 = some (.slice (Try.prog.elem 35)) := by rw [hel]; exact Try.underlying35
  have ha : (A.map fun x => x.add 0) = A := by cases A <;> simp [Addr.add]
  rw [run_slice_h W 35 A n c hu .i64 (p : Int) (by omega) (by omega), hel]
  simp [sizeOf, typeInfo, hi, q1, sliced, Result.andThen, ha]
end Go.Proofs.Ytnmnniknklfemaa
