/- awake: no condition. -/
import Derived.Test.YtopnbhinifejkaaSp
import Derived.Test.YtopnbhinifejkaaCt
import Derived.Lib.SlBytesConst
import Derived.Deep.Matrix
namespace Go.Proofs.Ytopnbhinifejkaa
open Go.RowKit Go.Proofs.Ytopnbhinifejkaa.Sp
set_option linter.unusedVariables false
set_option linter.unusedSimpArgs false
theorem lit_reads {w0 : World} {F : Hp} {b : Nat} {vs : Array Value} {e : TypeId} {fr : Nat × Nat} {xs : List Value} (hv : vs.toList = xs) (n : Nat) (hn : xs.length = n) (w' : World) (H : Holds w0 ((b, .cells vs e fr) :: F) w') : Reads w' (some ⟨b, 0, none⟩) n 1 xs := by
  refine ⟨by rw [hn, Nat.mul_one], (fun h => by cases h), fun ad had j u hj => ?_⟩
  injection had with had
  subst had
  have e2 : (⟨b, 0, none⟩ : Addr).add j = ⟨b, j, none⟩ := by simp [Addr.add]; omega
  rw [e2, H.cell j, ← Array.getElem?_toList, hv, hj]
/-- A row of bytes made a text. -/
theorem conv_str {w0 w : World} {F hv : Hp} {v : Value} {b : List UInt8} (R : RowB 5 1 v b.length (bv b) hv) (H : Holds w0 (hv ++ F) w) : (convert 28 9 v).run Try.prog w = .ok (.string ⟨b.toArray⟩) w := by
  obtain ⟨A, c, rfl, h1, h2, h3⟩ := R.reads H
  cases A with
  | none =>
    obtain rfl := h2 rfl
    have hb : b = [] := List.eq_nil_of_length_eq_zero (by have := h3.2.1 rfl; omega)
    subst hb
    rfl
  | some ad => exact run_convert_bytes_back (P := Try.prog) w 28 9 5 ad c b Try.underlying28 Try.underlying5 Try.underlying9 (fun j hj => h3.2.2 ad rfl j _ (by simp [bv, hj]))
set_option maxRecDepth 100000 in
set_option maxHeartbeats 4000000 in
theorem awake_calls (w : World) : Calls Try.prog 6 #[] w fun e w' => e = .returned (.bool true) ∧ Below w.heap.size w w' := by
  have kc := fun (w : World) (C : Array Value) (n c : Nat) => Lib.run_convert_bytes_const (P := Try.prog) w 28 5 C n c Try.underlying28 Try.underlying5
  have HS := Lib.hid (Holds.nil w)
  go_enter Try.func6, Try.ntmps6
  go_wp2_with fail
  refine (new_calls 2 4 (by omega) (by omega) w _ [] HS.out).mono ?_
  rintro e v0 ⟨g, rfl, h, hI, hH⟩
  have HI0 := Lib.hid hI; have HH0 := Lib.hid hH
  clear hI hH HS
  go_wp2_with fail
  refine (cut_calls g _ _ _ 0 1 true w _ (by decide) (by decide) (by decide) HI0.out HH0.out).mono ?_
  rintro e v1 ⟨rfl, h, hI, hH⟩
  have q : cutM (⟨2, 4, [], []⟩ : NM) 0 1 true = (⟨2, 4, [], [(wayK 0 1, .lit (.bool true))]⟩ : NM) := by kernel_rfl
  rw [q] at hI
  clear q
  have HI1 := Lib.hid hI; have HH1 := Lib.hid hH
  clear hI hH HI0 HH0
  go_wp2_with fail
  refine (send_calls g _ _ _ (.slice none 0 0) ⟨0, 1, []⟩ none 0 w _ rfl (fun _ => rfl) (by decide) (fun w' hw => ⟨rfl, fun _ => rfl, fun _ h => by cases h⟩) HI1.out HH1.out).mono ?_
  rintro e v2 ⟨he, h, hI, hH⟩
  have q : sendM (⟨2, 4, [], [(wayK 0 1, .lit (.bool true))]⟩ : NM) ⟨0, 1, []⟩ = (false, (⟨2, 4, [], [(wayK 0 1, .lit (.bool true))]⟩ : NM)) := by kernel_rfl
  rw [q] at he hI
  clear q
  subst he
  have HI2 := Lib.hid hI; have HH2 := Lib.hid hH
  clear hI hH HI1 HH1
  go_wp2_with fail
  refine (heal_calls g _ _ _ w _ HI2.out HH2.out).mono ?_
  rintro e v3 ⟨rfl, h, hI, hH⟩
  have q : healM (⟨2, 4, [], [(wayK 0 1, .lit (.bool true))]⟩ : NM) = (⟨2, 4, [], []⟩ : NM) := by kernel_rfl
  rw [q] at hI
  clear q
  have HI3 := Lib.hid hI; have HH3 := Lib.hid hH
  clear hI hH HI2 HH2
  go_wp2_with fail
  have H1 := Lib.hid ((HH3.out.alloc (.cells #[.int .u8 120] 5 (1, 2))).perm (k := h ++ [(v3.heap.size, (.cells #[.int .u8 120] 5 (1, 2)))]) (by classical rw [List.perm_iff_count]; intro a; simp only [List.count_append, List.count_cons, List.count_nil]; omega))
  have HR : ∀ w', Holds w [(v3.heap.size, (.cells #[.int .u8 120] 5 (1, 2)))] w' → Reads w' (some ⟨v3.heap.size, 0, none⟩) 1 1 (bv [120]) := fun w' hw => lit_reads rfl 1 rfl w' hw
  refine (send_calls g _ _ _ (.slice (some ⟨v3.heap.size, 0, none⟩) 1 1) ⟨0, 1, [120]⟩ _ 1 w _ rfl (fun h => by cases h) (by decide) HR HI3.out H1.out).mono ?_
  rintro e v4 ⟨he, h, hI, hH⟩
  have q : sendM (⟨2, 4, [], []⟩ : NM) ⟨0, 1, [120]⟩ = (true, (⟨2, 4, [⟨0, 1, [120]⟩], []⟩ : NM)) := by kernel_rfl
  rw [q] at he hI
  clear q
  subst he
  have HI4 := Lib.hid hI; have HH4 := Lib.hid (show Holds w (h ++ []) _ from (List.append_nil h).symm ▸ hH.left)
  clear hI hH HI3 HH3 H1 HR
  go_wp2_with fail
  refine (take_calls g _ _ _ 0 w _ HI4.out HH4.out).mono ?_
  rintro e v5 ⟨x, hv4, he, hRv, h, hI, hH⟩
  have q : atM (⟨2, 4, [⟨0, 1, [120]⟩], []⟩ : NM) 0 = some (⟨0, 1, [120]⟩ : Pk) := by kernel_rfl
  rw [q] at he hRv
  obtain ⟨A4, c4, hx, _, _⟩ := RowB.form hRv
  replace hx : x = .slice A4 1 c4 := hx
  subst hx
  subst he
  have q2 : takeM (⟨2, 4, [⟨0, 1, [120]⟩], []⟩ : NM) 0 = (⟨2, 4, [], []⟩ : NM) := by kernel_rfl
  rw [q2] at hI
  clear q2
  have HI5 := Lib.hid hI
  clear hI HI4
  have hH2 := hH.alloc (.cells #[.int .i64 0, .int .i64 0, .slice none 0 0] 31)
  have g4 : (v5.alloc (.cells #[.int .i64 0, .int .i64 0, .slice none 0 0] 31)).heap[v5.heap.size]? = some (.cells (pkC (.slice none 0 0) pk0) 31 (0, 0)) := hH2.get
  have hH3 := hH2.turn (row_grown _ v5.heap.size (pkC (.slice A4 1 c4) (⟨0, 1, [120]⟩ : Pk))) (setRow_heap _ _ _ _ _ _ g4)
  have hH4 := hH3.perm (k := h ++ ((v5.heap.size, .cells (pkC (.slice A4 1 c4) (⟨0, 1, [120]⟩ : Pk)) 31) ::  (hv4 ++ []))) (by classical rw [List.perm_iff_count]; intro a; simp only [List.count_append, List.count_cons, List.count_nil]; omega)
  have HRV4 := Lib.hid hRv; have HH5 := Lib.hid hH4
  clear hRv hH hH2 hH3 hH4 q HH4
  have hq5 : ((v5.alloc (.cells #[.int .i64 0, .int .i64 0, .slice none 0 0] 31)).setRow v5.heap.size (pkC (.slice A4 1 c4) (⟨0, 1, [120]⟩ : Pk))).cell? ⟨v5.heap.size, 2, none⟩ = some (.slice A4 1 c4) := (HH5.out.perm (List.perm_middle)).cell 2
  have hcv : (convert 28 9 (.slice A4 1 c4)).run Try.prog ((v5.alloc (.cells #[.int .i64 0, .int .i64 0, .slice none 0 0] 31)).setRow v5.heap.size (pkC (.slice A4 1 c4) (⟨0, 1, [120]⟩ : Pk))) = .ok (.string ⟨#[120]⟩) ((v5.alloc (.cells #[.int .i64 0, .int .i64 0, .slice none 0 0] 31)).setRow v5.heap.size (pkC (.slice A4 1 c4) (⟨0, 1, [120]⟩ : Pk))) := conv_str (b := [120]) HRV4.out (HH5.out.perm (k := hv4 ++ (h ++ [(v5.heap.size, .cells (pkC (.slice A4 1 c4) (⟨0, 1, [120]⟩ : Pk)) 31)])) (by classical rw [List.perm_iff_count]; intro a; simp only [List.count_append, List.count_cons, List.count_nil]; omega))
  go_wp2_with (with_reducible refine stP (.tmp 5) (.tmp 32) v5.heap.size (.slice A4 1 c4) (.slice none 0 0) (⟨0, 1, [120]⟩ : Pk) pk0 rfl rfl rfl g4 ?_)
  refine (len_calls g _ _ _ w _ HI5.out HH5.out).mono ?_
  rintro e w9 ⟨rfl, rfl⟩
  go_wp2_with fail
  go_ret
  exact ⟨rfl, HH5.out.below⟩
end Go.Proofs.Ytopnbhinifejkaa
