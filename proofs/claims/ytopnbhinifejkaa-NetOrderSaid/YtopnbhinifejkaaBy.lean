/- Bytes of the call's own: append, bytes.Clone: contracts for every world. Conditions: each theorem's own. -/
import Derived.Test.YtopnbhinifejkaaProg
import Derived.Test.YtopnbhinifejkaaMp
import Derived.Test.YtopnbhinifejkaaRg
import Derived.Test.YtopnbhinifejkaaRw
import Derived.KernelRfl
import Derived.LoopTactic
import Derived.StillTailTactics
import Derived.Deep.QuietTactic
import Derived.BigQuiet
import Derived.Laws.Tables
import Derived.Laws.Strings
import Derived.Maps.RangeWalk
namespace Go.Proofs.Ytopnbhinifejkaa
open Go.RowKit Go.Proofs.Ytopnbhinifejkaa.Sp
set_option linter.unusedVariables false
set_option linter.unusedSimpArgs false
theorem info5 : ∃ i, Try.prog.info? 5 = some i ∧ i.zero = some (.int .u8 0) ∧ i.size = 1 ∧ i.bytes = 1 := by
  have h : (Try.prog.info? 5).any (fun i => (match i.zero with | some (.int .u8 0) => true | _ => false) && i.size == 1 && i.bytes == 1) = true := by kernel_rfl
  cases hu : Try.prog.info? 5 with
  | none => rw [hu] at h; cases h
  | some i =>
    rw [hu] at h
    simp only [Option.any_some, Bool.and_eq_true, beq_iff_eq] at h
    obtain ⟨⟨h1, h2⟩, h3⟩ := h
    refine ⟨i, rfl, ?_, h2, h3⟩
    split at h1 <;> simp_all
def bv (bs : List UInt8) : List Value := bs.map fun x => .int .u8 x.toNat
theorem bv_one (bs : List UInt8) : ∀ u ∈ bv bs, u.oneCell' = true := by
  intro u hu
  obtain ⟨x, _, rfl⟩ := List.mem_map.mp hu
  rfl
/-- append, of bytes. -/
theorem bytes_append {w0 w : World} {h F : Hp} {v : Value} {bs : List UInt8} (R : RowB 5 1 v bs.length (bv bs) h) (H : Holds w0 (h ++ F) w) (ty : TypeId) (A : Option Addr) (c : Nat) (ds : List UInt8) (hc : A = none → c = 0) (hr : Reads w A ds.length 1 (bv ds))
    (hl : bs.length + ds.length ≤ 140737488355328) : ∃ v' h' w', (Builtin.append_ #[28, 28] ty #[v, .slice A ds.length c]).run Try.prog w = .ok v' w' ∧ RowB 5 1 v' (bs ++ ds).length (bv (bs ++ ds)) h' ∧ Holds w0 (h' ++ F) w' := by
  obtain ⟨i, hi, hz, h1, h2⟩ := info5
  have hmx : maxLen = 9223372036854775807 := rfl
  obtain ⟨v', h', w', r1, r2, r3⟩ := row_append (t := 28) R H ty i (.int .u8 0) 1 Try.underlying28 hi hz h1 h2 rfl (by decide) A ds.length c hc (bv ds) hr (bv_one ds) (by omega) (by omega)
  refine ⟨v', h', w', r1, ?_, r3⟩
  simpa [bv] using r2
theorem clone_calls (A : Option Addr) (c : Nat) (bs : List UInt8) (w0 w : World) (F : Hp) (hc : A = none → c = 0) (hr : Reads w A bs.length 1 (bv bs)) (hl : bs.length ≤ 140737488355328) (H : Holds w0 F w) :
    Calls Try.prog 30 #[.slice A bs.length c] w fun e w' => ∃ v, e = .returned v ∧ ∃ h, RowB 5 1 v bs.length (bv bs) h ∧ Holds w0 (h ++ F) w' := by
  have heq : ∀ w : World, (binOp .eql 28 (.slice A bs.length c) (.slice none 0 0)).run Try.prog w = .ok (.bool A.isNone) w := fun w => Lib.run_eql_slice_nil w 28 5 A bs.length c 0 0 Try.underlying28
  have HH := Lib.hid H
  clear H
  cases A with
  | none =>
    have e0 : bs = [] := List.eq_nil_of_length_eq_zero (hr.2.1 rfl)
    subst e0
    obtain rfl := hc rfl
    clear hr hc
    have heq2 : ∀ w : World, (binOp .eql 28 (.slice none 0 0) (.slice none 0 0)).run Try.prog w = .ok (.bool true) w := heq
    clear heq
    go_enter Try.func30, Try.ntmps30
    go_wp2
    go_ret
    exact ⟨_, rfl, [], RowB.nil _ _, HH.out⟩
  | some ad =>
    have heq2 : ∀ w : World, (binOp .eql 28 (.slice (some ad) bs.length c) (.slice none 0 0)).run Try.prog w = .ok (.bool false) w := heq
    clear heq
    have H1 := HH.out.alloc (.cells #[] 5)
    obtain ⟨v', h', w', r1, r2, r3⟩ := bytes_append (bs := []) (RowB.lit HH.out #[] 0 (Nat.zero_le _) rfl) H1 28 (some ad) c bs hc (hr.below ((Below.refl _ w).alloc (Nat.le_refl _) _)) (by simpa using hl)
    have R1 := Lib.hid r1; have R2 := Lib.hid r2; have R3 := Lib.hid r3
    clear r1 r2 r3 H1 hr
    go_enter Try.func30, Try.ntmps30
    go_wp2_with ((with_reducible refine apL (.tmp 5) (.tmp 6) ?_ ?_ R1.out ?_); rfl; rfl)
    go_ret
    exact ⟨_, rfl, h', by simpa using R2.out, R3.out⟩
theorem RowB.form {e : TypeId} {sz n : Nat} {v : Value} {xs : List Value} {h : Hp} (R : RowB e sz v n xs h) : ∃ A c, v = .slice A n c ∧ n ≤ c ∧ (A = none → c = 0) := by
  obtain ⟨h1, ⟨rfl, rfl, rfl⟩ | ⟨g, cap, cur, rfl, rfl, h2, h3, h4, h5⟩⟩ := R
  · exact ⟨none, 0, rfl, Nat.le_refl _, fun _ => rfl⟩
  · exact ⟨some ⟨g, 0, none⟩, cap, rfl, h2, fun h => by cases h⟩
end Go.Proofs.Ytopnbhinifejkaa
