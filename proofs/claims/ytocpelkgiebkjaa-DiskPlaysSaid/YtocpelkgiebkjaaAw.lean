/- disk's own first example answers true. No condition. -/
import Derived.Test.YtocpelkgiebkjaaDc
import Derived.Lib.SlBytesConst
namespace Go.Proofs.Ytocpelkgiebkjaa
open Go.RowKit Go.Proofs.Ytocpelkgiebkjaa.Sp
set_option linter.unusedVariables false
set_option linter.unusedSimpArgs false
def tA : ByteArray := ⟨#[97]⟩
/-- The bytes of a literal row, beside all else. -/
theorem lit_reads {w0 : World} {F : Hp} {b : Nat} {vs : Array Value} {e : TypeId} {fr : Nat × Nat} {xs : List Value} (hv : vs.toList = xs) (n : Nat) (hn : xs.length = n) (w' : World) (H : Holds w0 ((b, .cells vs e fr) :: F) w') : Reads w' (some ⟨b, 0, none⟩) n 1 xs := by
  refine ⟨by rw [hn, Nat.mul_one], (fun h => by cases h), fun ad had j u hj => ?_⟩
  injection had with had
  subst had
  have e2 : (⟨b, 0, none⟩ : Addr).add j = ⟨b, j, none⟩ := by simp [Addr.add]; omega
  rw [e2, H.cell j, ← Array.getElem?_toList, hv, hj]
/-- A row of bytes made a text. -/
theorem conv_str {w0 w : World} {F hv : Hp} {v : Value} {b : List UInt8} (R : RowB 5 1 v b.length (bv b) hv) (H : Holds w0 (hv ++ F) w) : (convert 28 9 v).run Try.prog w = .ok (.string ⟨b.toArray⟩) w := by
  obtain ⟨A, c, rfl, h1, h2, h3⟩ := R.reads H
  cases A with
  | none =>
    obtain rfl := h2 rfl
    have hb : b = [] := List.eq_nil_of_length_eq_zero (by have := h3.2.1 rfl; omega)
    subst hb
    rfl
  | some ad => exact run_convert_bytes_back (P := Try.prog) w 28 9 5 ad c b Try.underlying28 Try.underlying5 Try.underlying9 (fun j hj => h3.2.2 ad rfl j _ (by simp [bv, hj]))
set_option maxRecDepth 100000 in
set_option maxHeartbeats 2000000 in
theorem awake_calls (w : World) : Calls Try.prog 8 #[] w fun e w' => e = .returned (.bool true) ∧ Below w.heap.size w w' := by
  have kc := fun (w : World) (C : Array Value) (n c : Nat) => Lib.run_convert_bytes_const (P := Try.prog) w 28 5 C n c Try.underlying28 Try.underlying5
  go_enter Try.func8, Try.ntmps8
  go_wp2_with fail
  refine (new_calls 64 (by omega) w w [] (Holds.nil w)).mono ?_
  rintro e w1 ⟨g, rfl, h, hI, hH⟩
  have HI := Lib.hid hI; have HH := Lib.hid hH
  clear hI hH
  go_wp2_with fail
  have H1 := (HH.out.alloc (.cells #[.int .u8 120, .int .u8 121, .int .u8 122] 5 (3, 4))).perm (k := h ++ [(w1.heap.size, .cells #[.int .u8 120, .int .u8 121, .int .u8 122] 5 (3, 4))]) (by classical rw [List.perm_iff_count]; intro a; simp only [List.count_append, List.count_cons, List.count_nil]; omega)
  have HR : ∀ w', Holds w [(w1.heap.size, .cells #[.int .u8 120, .int .u8 121, .int .u8 122] 5 (3, 4))] w' → Reads w' (some ⟨w1.heap.size, 0, none⟩) 3 1 (bv [120, 121, 122]) := fun w' hw => lit_reads rfl 3 rfl w' hw
  refine (append_calls g _ h _ tA _ 3 [120, 121, 122] w _ (by decide) (fun h => by cases h) (by decide) (by decide) HI.out H1 HR).mono ?_
  rintro e w2 ⟨he, h2, hI, hH⟩
  have HI2 := Lib.hid hI; have HH2 := Lib.hid hH
  clear hI hH HI HH H1
  have q : appM ⟨64, 1, true, []⟩ tA [120, 121, 122] = (0, ⟨64, 1, true, [(tA, ⟨[120, 121, 122], 0⟩)]⟩) := by kernel_rfl
  rw [q] at he HI2
  subst he
  clear q
  go_wp2_with fail
  refine (crash_calls g _ h2 _ 1 1 w _ HI2.out HH2.out).mono ?_
  rintro e w3 ⟨rfl, h3, hI, hH⟩
  have q : crM ⟨64, 1, true, [(tA, ⟨[120, 121, 122], 0⟩)]⟩ 1 1 = ⟨64, 1, false, [(tA, ⟨[120, 120], 2⟩)]⟩ := by kernel_rfl
  rw [q] at hI
  have HI3 := Lib.hid hI; have HH3 := Lib.hid hH
  clear hI hH HI2 HH2 q
  go_wp2_with fail
  refine (read_calls g _ h3 _ tA w _ (by decide) HI3.out HH3.out).mono ?_
  rintro e w4 ⟨v, he, hv, hR, h4, hI, hH⟩
  have q : readM ⟨64, 1, false, [(tA, ⟨[120, 120], 2⟩)]⟩ tA = ([], 7) := by kernel_rfl
  rw [q] at he
  subst he
  have HI4 := Lib.hid hI; have HH4 := Lib.hid hH
  clear hI hH HI3 HH3 q hR
  go_wp2_with fail
  refine (on_calls g _ h4 _ w _ (by decide) HI4.out HH4.out).mono ?_
  rintro e w5 ⟨rfl, h5, hI, hH⟩
  have q : onM ⟨64, 1, false, [(tA, ⟨[120, 120], 2⟩)]⟩ = ⟨64, 2, true, [(tA, ⟨[120, 120], 2⟩)]⟩ := by kernel_rfl
  rw [q] at hI
  have HI5 := Lib.hid hI; have HH5 := Lib.hid hH
  clear hI hH HI4 HH4 q
  go_wp2_with fail
  refine (read_calls g _ h5 _ tA w _ (by decide) HI5.out HH5.out).mono ?_
  rintro e w6 ⟨v2, he, hv2, hR, h6, hI, hH⟩
  have q : readM ⟨64, 2, true, [(tA, ⟨[120, 120], 2⟩)]⟩ tA = ([120, 120], 0) := by kernel_rfl
  rw [q] at he hR
  subst he
  have hcv := conv_str hR hH.right
  have HI6 := Lib.hid hI; have HH6 := Lib.hid hH
  clear hI hH HI5 HH5 q hR
  have HP := power_calls g _ h6 _ w w6 HI6.out HH6.out
  have HL := lives_calls g _ h6 _ w w6 HI6.out HH6.out
  go_wp2_with fail
  refine HP.mono ?_
  rintro e w7 ⟨rfl, rfl⟩
  go_wp2_with fail
  refine HL.mono ?_
  rintro e w7 ⟨rfl, rfl⟩
  go_wp2_with fail
  go_ret
  exact ⟨rfl, HH6.out.below⟩
end Go.Proofs.Ytocpelkgiebkjaa
