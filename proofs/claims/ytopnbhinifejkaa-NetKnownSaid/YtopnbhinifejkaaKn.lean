/- NetKnown's walk. No condition. -/
import Derived.Test.YtopnbhinifejkaaAw
import Derived.Lib.SlBytesConst
import Derived.Deep.Matrix
namespace Go.Proofs.Ytopnbhinifejkaa
open Go.RowKit Go.Proofs.Ytopnbhinifejkaa.Sp
set_option linter.unusedVariables false
set_option linter.unusedSimpArgs false
set_option maxRecDepth 100000 in
set_option maxHeartbeats 4000000 in
theorem known_walk (w : World) : Calls Try.prog 4 #[] w fun e w' => e = .returned (.bool true) ∧ Below w.heap.size w w' := by
  have kc := fun (w : World) (C : Array Value) (n c : Nat) => Lib.run_convert_bytes_const (P := Try.prog) w 28 5 C n c Try.underlying28 Try.underlying5
  go_enter Try.func4, Try.ntmps4
  go_wp2_with fail
  refine (awake_calls w).mono ?_
  rintro e w1 ⟨rfl, hb⟩
  have HS := Lib.hid (Holds.of_below hb)
  clear hb
  go_wp2_with fail
  refine (new_no 0 1 (by decide) w1).mono ?_
  rintro e w' ⟨rfl, rfl⟩
  go_wp2_with fail
  refine (new_no 65 1 (by decide) w').mono ?_
  rintro e w' ⟨rfl, rfl⟩
  go_wp2_with fail
  refine (new_no 2 0 (by decide) w').mono ?_
  rintro e w' ⟨rfl, rfl⟩
  go_wp2_with fail
  refine (new_calls 2 1 (by omega) (by omega) w _ [] HS.out).mono ?_
  rintro e v0 ⟨g, rfl, h, hI, hH⟩
  have HI0 := Lib.hid hI; have HH0 := Lib.hid hH
  clear hI hH HS
  go_wp2_with fail
  refine (send_calls g _ _ _ (.slice none 0 0) ⟨0, 2, []⟩ none 0 w _ rfl (fun _ => rfl) (by decide) (fun w' hw => ⟨rfl, fun _ => rfl, fun _ h => by cases h⟩) HI0.out HH0.out).mono ?_
  rintro e v1 ⟨he, h, hI, hH⟩
  have q : sendM (⟨2, 1, [], []⟩ : NM) ⟨0, 2, []⟩ = (false, (⟨2, 1, [], []⟩ : NM)) := by kernel_rfl
  rw [q] at he hI
  clear q
  subst he
  have HI1 := Lib.hid hI; have HH1 := Lib.hid hH
  clear hI hH HI0 HH0
  go_wp2_with fail
  have H1 := Lib.hid ((HH1.out.alloc (.cells #[.int .u8 97] 5 (1, 2))).perm (k := h ++ [(v1.heap.size, (.cells #[.int .u8 97] 5 (1, 2)))]) (by classical rw [List.perm_iff_count]; intro a; simp only [List.count_append, List.count_cons, List.count_nil]; omega))
  have HR : ∀ w', Holds w [(v1.heap.size, (.cells #[.int .u8 97] 5 (1, 2)))] w' → Reads w' (some ⟨v1.heap.size, 0, none⟩) 1 1 (bv [97]) := fun w' hw => lit_reads rfl 1 rfl w' hw
  refine (send_calls g _ _ _ (.slice (some ⟨v1.heap.size, 0, none⟩) 1 1) ⟨0, 1, [97]⟩ _ 1 w _ rfl (fun h => by cases h) (by decide) HR HI1.out H1.out).mono ?_
  rintro e v2 ⟨he, h, hI, hH⟩
  have q : sendM (⟨2, 1, [], []⟩ : NM) ⟨0, 1, [97]⟩ = (true, (⟨2, 1, [⟨0, 1, [97]⟩], []⟩ : NM)) := by kernel_rfl
  rw [q] at he hI
  clear q
  subst he
  have HI2 := Lib.hid hI; have HH2 := Lib.hid (show Holds w (h ++ []) _ from (List.append_nil h).symm ▸ hH.left)
  clear hI hH HI1 HH1 H1 HR
  go_wp2_with fail
  refine (copy_calls g _ _ _ 0 w _ HI2.out HH2.out).mono ?_
  rintro e v3 ⟨he, h, hI, hH⟩
  have q : copyM (⟨2, 1, [⟨0, 1, [97]⟩], []⟩ : NM) 0 = (false, (⟨2, 1, [⟨0, 1, [97]⟩], []⟩ : NM)) := by kernel_rfl
  rw [q] at he hI
  clear q
  subst he
  have HI3 := Lib.hid hI; have HH3 := Lib.hid hH
  clear hI hH HI2 HH2
  go_wp2_with fail
  refine (spoil_calls g _ _ _ 0 0 0 w _ HI3.out HH3.out).mono ?_
  rintro e v4 ⟨he, h, hI, hH⟩
  have q : spoilM (⟨2, 1, [⟨0, 1, [97]⟩], []⟩ : NM) 0 0 0 = (false, (⟨2, 1, [⟨0, 1, [97]⟩], []⟩ : NM)) := by kernel_rfl
  rw [q] at he hI
  clear q
  subst he
  have HI4 := Lib.hid hI; have HH4 := Lib.hid hH
  clear hI hH HI3 HH3
  go_wp2_with fail
  refine (spoil_calls g _ _ _ 0 1 1 w _ HI4.out HH4.out).mono ?_
  rintro e v5 ⟨he, h, hI, hH⟩
  have q : spoilM (⟨2, 1, [⟨0, 1, [97]⟩], []⟩ : NM) 0 1 1 = (false, (⟨2, 1, [⟨0, 1, [97]⟩], []⟩ : NM)) := by kernel_rfl
  rw [q] at he hI
  clear q
  subst he
  have HI5 := Lib.hid hI; have HH5 := Lib.hid hH
  clear hI hH HI4 HH4
  go_wp2_with fail
  refine (spoil_calls g _ _ _ 0 0 3 w _ HI5.out HH5.out).mono ?_
  rintro e v6 ⟨he, h, hI, hH⟩
  have q : spoilM (⟨2, 1, [⟨0, 1, [97]⟩], []⟩ : NM) 0 0 3 = (true, (⟨2, 1, [⟨0, 1, [98]⟩], []⟩ : NM)) := by kernel_rfl
  rw [q] at he hI
  clear q
  subst he
  have HI6 := Lib.hid hI; have HH6 := Lib.hid hH
  clear hI hH HI5 HH5
  go_wp2_with fail
  refine (at_calls g _ _ _ 0 w _ HI6.out HH6.out).mono ?_
  rintro e v7 ⟨x, hv6, he, hRv, hH⟩
  have q : atM (⟨2, 1, [⟨0, 1, [98]⟩], []⟩ : NM) 0 = some (⟨0, 1, [98]⟩ : Pk) := by kernel_rfl
  rw [q] at he hRv
  obtain ⟨A6, c6, hx, _, _⟩ := RowB.form hRv
  replace hx : x = .slice A6 1 c6 := hx
  subst hx
  subst he
  have HI7 := HI6
  clear HI6
  have hH2 := hH.alloc (.cells #[.int .i64 0, .int .i64 0, .slice none 0 0] 31)
  have g6 : (v7.alloc (.cells #[.int .i64 0, .int .i64 0, .slice none 0 0] 31)).heap[v7.heap.size]? = some (.cells (pkC (.slice none 0 0) pk0) 31 (0, 0)) := hH2.get
  have hH3 := hH2.turn (row_grown _ v7.heap.size (pkC (.slice A6 1 c6) (⟨0, 1, [98]⟩ : Pk))) (setRow_heap _ _ _ _ _ _ g6)
  have hH4 := hH3.perm (k := h ++ ((v7.heap.size, .cells (pkC (.slice A6 1 c6) (⟨0, 1, [98]⟩ : Pk)) 31) ::  (hv6 ++ []))) (by classical rw [List.perm_iff_count]; intro a; simp only [List.count_append, List.count_cons, List.count_nil]; omega)
  have HRV6 := Lib.hid hRv; have HH7 := Lib.hid hH4
  clear hRv hH hH2 hH3 hH4 q HH6
  go_wp2_with (with_reducible refine stP (.tmp 15) (.tmp 56) v7.heap.size (.slice A6 1 c6) (.slice none 0 0) (⟨0, 1, [98]⟩ : Pk) pk0 rfl rfl rfl g6 ?_)
  refine (at_calls g _ _ _ 1 w _ HI7.out HH7.out).mono ?_
  rintro e v8 ⟨x, hv7, he, hRv, hH⟩
  have q : atM (⟨2, 1, [⟨0, 1, [98]⟩], []⟩ : NM) 1 = none := by kernel_rfl
  rw [q] at he hRv
  obtain ⟨A7, c7, hx, _, _⟩ := RowB.form hRv
  replace hx : x = .slice A7 0 c7 := hx
  subst hx
  subst he
  have HI8 := HI7
  clear HI7
  have hH2 := hH.alloc (.cells #[.int .i64 0, .int .i64 0, .slice none 0 0] 31)
  have g7 : (v8.alloc (.cells #[.int .i64 0, .int .i64 0, .slice none 0 0] 31)).heap[v8.heap.size]? = some (.cells (pkC (.slice none 0 0) pk0) 31 (0, 0)) := hH2.get
  have hH3 := hH2.turn (row_grown _ v8.heap.size (pkC (.slice A7 0 c7) pk0)) (setRow_heap _ _ _ _ _ _ g7)
  have hH4 := hH3.perm (k := h ++ ((v8.heap.size, .cells (pkC (.slice A7 0 c7) pk0) 31) ::  (hv7 ++ ((v7.heap.size, .cells (pkC (.slice A6 1 c6) (⟨0, 1, [98]⟩ : Pk)) 31) :: (hv6 ++ []))))) (by classical rw [List.perm_iff_count]; intro a; simp only [List.count_append, List.count_cons, List.count_nil]; omega)
  have HRV7 := Lib.hid hRv; have HH8 := Lib.hid hH4
  clear hRv hH hH2 hH3 hH4 q HH7
  have hq5 : ((v8.alloc (.cells #[.int .i64 0, .int .i64 0, .slice none 0 0] 31)).setRow v8.heap.size (pkC (.slice A7 0 c7) pk0)).cell? ⟨v7.heap.size, 2, none⟩ = some (.slice A6 1 c6) := (HH8.out.perm (k := (v7.heap.size, .cells (pkC (.slice A6 1 c6) (⟨0, 1, [98]⟩ : Pk)) 31) :: (h ++ ((v8.heap.size, .cells (pkC (.slice A7 0 c7) pk0) 31) :: (hv7 ++ (hv6 ++ []))))) (by classical rw [List.perm_iff_count]; intro a; simp only [List.count_append, List.count_cons, List.count_nil]; omega)).cell 2
  have hcv : (convert 28 9 (.slice A6 1 c6)).run Try.prog ((v8.alloc (.cells #[.int .i64 0, .int .i64 0, .slice none 0 0] 31)).setRow v8.heap.size (pkC (.slice A7 0 c7) pk0)) = .ok (.string ⟨#[98]⟩) ((v8.alloc (.cells #[.int .i64 0, .int .i64 0, .slice none 0 0] 31)).setRow v8.heap.size (pkC (.slice A7 0 c7) pk0)) := conv_str (b := [98]) HRV6.out (HH8.out.perm (k := hv6 ++ (h ++ ((v8.heap.size, .cells (pkC (.slice A7 0 c7) pk0) 31) :: (hv7 ++ ((v7.heap.size, .cells (pkC (.slice A6 1 c6) (⟨0, 1, [98]⟩ : Pk)) 31) :: []))))) (by classical rw [List.perm_iff_count]; intro a; simp only [List.count_append, List.count_cons, List.count_nil]; omega))
  go_wp2_with (with_reducible refine stP (.tmp 17) (.tmp 61) v8.heap.size (.slice A7 0 c7) (.slice none 0 0) pk0 pk0 rfl rfl rfl g7 ?_)
  refine (lose_calls g _ _ _ 0 w _ HI8.out HH8.out).mono ?_
  rintro e w8 ⟨he, h, hI, hH⟩
  have q : (atM (⟨2, 1, [⟨0, 1, [98]⟩], []⟩ : NM) 0).isSome = true := by kernel_rfl
  have q2 : takeM (⟨2, 1, [⟨0, 1, [98]⟩], []⟩ : NM) 0 = (⟨2, 1, [], []⟩ : NM) := by kernel_rfl
  rw [q] at he
  rw [q2] at hI
  subst he
  have HI8 := Lib.hid hI; have HH8 := Lib.hid hH
  clear hI hH q q2
  go_wp2_with fail
  refine (lose_calls g _ _ _ 0 w _ HI8.out HH8.out).mono ?_
  rintro e w9 ⟨he, h, hI, hH⟩
  have q : (atM (⟨2, 1, [], []⟩ : NM) 0).isSome = false := by kernel_rfl
  rw [q] at he
  subst he
  have HH9 := Lib.hid hH
  clear hI hH q
  go_wp2_with fail
  go_ret
  exact ⟨rfl, HH9.out.below⟩
end Go.Proofs.Ytopnbhinifejkaa
