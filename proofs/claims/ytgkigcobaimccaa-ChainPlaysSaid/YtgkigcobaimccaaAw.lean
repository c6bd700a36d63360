/- awake: no condition. -/
import Derived.Test.YtgkigcobaimccaaTr
namespace Go.Proofs.Ytgkigcobaimccaa
open Go.RowKit Go.Proofs.Ytgkigcobaimccaa.Sp
set_option linter.unusedVariables false
set_option linter.unusedSimpArgs false
set_option maxRecDepth 100000 in
set_option maxHeartbeats 4000000 in
theorem awake_calls (w : World) : Calls Try.prog 8 #[] w fun e w' => e = .returned (.bool true) ∧ Below w.heap.size w w' := by
  have HS := Lib.hid (Holds.nil w)
  go_enter Try.func8, Try.ntmps8
  go_wp2_with fail
  refine (new_calls w _ [] HS.out).mono ?_
  rintro e x0 ⟨g, rfl, h, hI, hH⟩
  have HI0 := Lib.hid hI; have HH0 := Lib.hid hH
  clear hI hH HS
  go_wp2_with fail
  refine (time_calls 3 _).mono ?_
  rintro e x1 ⟨rfl, hb⟩
  have HI1 := HI0; have HH1 := Lib.hid (HH0.out.grow hb)
  clear hb HI0 HH0
  go_wp2_with fail
  refine (put_calls g [] (⟨3, 0, ⟨#[122]⟩, false⟩ : Ver) _ _ w _ HI1.out HH1.out).mono ?_
  rintro e x2 ⟨he, h, hI, hH⟩
  have q : putM [] (⟨3, 0, ⟨#[122]⟩, false⟩ : Ver) = (0, [(⟨3, 0, ⟨#[122]⟩, false⟩ : Ver)]) := by kernel_rfl
  rw [q] at he hI
  subst he
  have HI2 := Lib.hid hI; have HH2 := Lib.hid hH
  clear q hI hH HI1 HH1
  go_wp2_with fail
  refine (time_calls 1 _).mono ?_
  rintro e x3 ⟨rfl, hb⟩
  have HI3 := HI2; have HH3 := Lib.hid (HH2.out.grow hb)
  clear hb HI2 HH2
  go_wp2_with fail
  refine (put_calls g [(⟨3, 0, ⟨#[122]⟩, false⟩ : Ver)] (⟨1, 0, ⟨#[120]⟩, false⟩ : Ver) _ _ w _ HI3.out HH3.out).mono ?_
  rintro e x4 ⟨he, h, hI, hH⟩
  have q : putM [(⟨3, 0, ⟨#[122]⟩, false⟩ : Ver)] (⟨1, 0, ⟨#[120]⟩, false⟩ : Ver) = (0, [(⟨1, 0, ⟨#[120]⟩, false⟩ : Ver), (⟨3, 0, ⟨#[122]⟩, false⟩ : Ver)]) := by kernel_rfl
  rw [q] at he hI
  subst he
  have HI4 := Lib.hid hI; have HH4 := Lib.hid hH
  clear q hI hH HI3 HH3
  go_wp2_with fail
  refine (at_calls g [(⟨1, 0, ⟨#[120]⟩, false⟩ : Ver), (⟨3, 0, ⟨#[122]⟩, false⟩ : Ver)] 2 9 _ _ w _ HI4.out HH4.out).mono ?_
  rintro e x5 ⟨he, hb⟩
  have q : verAt [(⟨1, 0, ⟨#[120]⟩, false⟩ : Ver), (⟨3, 0, ⟨#[122]⟩, false⟩ : Ver)] 2 9 = some (⟨1, 0, ⟨#[120]⟩, false⟩ : Ver) := by kernel_rfl
  rw [q] at he
  subst he
  have hH := HH4.out.grow hb
  have hH2 := hH.alloc (.cells #[.int .i64 0, .int .u8 0, .string ⟨#[]⟩, .bool false] 30)
  have g5 : (x5.alloc (.cells #[.int .i64 0, .int .u8 0, .string ⟨#[]⟩, .bool false] 30)).heap[x5.heap.size]? = some (.cells (vC v0) 30 (0, 0)) := hH2.get
  have hH3 := hH2.turn (row_grown _ x5.heap.size (vC (⟨1, 0, ⟨#[120]⟩, false⟩ : Ver))) (setRow_heap _ _ _ _ _ _ g5)
  have hH4 := hH3.perm (k := h ++ ((x5.heap.size, .cells (vC (⟨1, 0, ⟨#[120]⟩, false⟩ : Ver)) 30) :: [])) (by classical rw [List.perm_iff_count]; intro a; simp only [List.count_append, List.count_cons, List.count_nil]; omega)
  have HI5 := HI4; have HH5 := Lib.hid hH4
  clear q hb hH hH2 hH3 hH4 HI4 HH4
  go_wp2_with ((with_reducible refine stV (.tmp 4) (.tmp 23) x5.heap.size (⟨1, 0, ⟨#[120]⟩, false⟩ : Ver) v0 rfl rfl g5 ?_))
  refine (newest_calls g [(⟨1, 0, ⟨#[120]⟩, false⟩ : Ver), (⟨3, 0, ⟨#[122]⟩, false⟩ : Ver)] _ _ w _ HI5.out HH5.out).mono ?_
  rintro e x6 ⟨he, hb⟩
  have q : newest [(⟨1, 0, ⟨#[120]⟩, false⟩ : Ver), (⟨3, 0, ⟨#[122]⟩, false⟩ : Ver)] = some (⟨3, 0, ⟨#[122]⟩, false⟩ : Ver) := by kernel_rfl
  rw [q] at he
  subst he
  have hH := HH5.out.grow hb
  have hH2 := hH.alloc (.cells #[.int .i64 0, .int .u8 0, .string ⟨#[]⟩, .bool false] 30)
  have g6 : (x6.alloc (.cells #[.int .i64 0, .int .u8 0, .string ⟨#[]⟩, .bool false] 30)).heap[x6.heap.size]? = some (.cells (vC v0) 30 (0, 0)) := hH2.get
  have hH3 := hH2.turn (row_grown _ x6.heap.size (vC (⟨3, 0, ⟨#[122]⟩, false⟩ : Ver))) (setRow_heap _ _ _ _ _ _ g6)
  have hH4 := hH3.perm (k := h ++ ((x6.heap.size, .cells (vC (⟨3, 0, ⟨#[122]⟩, false⟩ : Ver)) 30) :: ((x5.heap.size, .cells (vC (⟨1, 0, ⟨#[120]⟩, false⟩ : Ver)) 30) :: []))) (by classical rw [List.perm_iff_count]; intro a; simp only [List.count_append, List.count_cons, List.count_nil]; omega)
  have HI6 := HI5; have HH6 := Lib.hid hH4
  clear q hb hH hH2 hH3 hH4 HI5 HH5
  have p1 : ((x6.alloc (.cells #[.int .i64 0, .int .u8 0, .string ⟨#[]⟩, .bool false] 30)).setRow x6.heap.size (vC (⟨3, 0, ⟨#[122]⟩, false⟩ : Ver))).cell? ⟨x5.heap.size, 2, none⟩ = some (.string ⟨#[120]⟩) := (HH6.out.perm (k := (x5.heap.size, .cells (vC (⟨1, 0, ⟨#[120]⟩, false⟩ : Ver)) 30) :: (h ++ [(x6.heap.size, .cells (vC (⟨3, 0, ⟨#[122]⟩, false⟩ : Ver)) 30)])) (by classical rw [List.perm_iff_count]; intro a; simp only [List.count_append, List.count_cons, List.count_nil]; omega)).cell 2
  have p2 : ((x6.alloc (.cells #[.int .i64 0, .int .u8 0, .string ⟨#[]⟩, .bool false] 30)).setRow x6.heap.size (vC (⟨3, 0, ⟨#[122]⟩, false⟩ : Ver))).cell? ⟨x6.heap.size, 2, none⟩ = some (.string ⟨#[122]⟩) := (HH6.out.perm (k := (x6.heap.size, .cells (vC (⟨3, 0, ⟨#[122]⟩, false⟩ : Ver)) 30) :: (h ++ [(x5.heap.size, .cells (vC (⟨1, 0, ⟨#[120]⟩, false⟩ : Ver)) 30)])) (by classical rw [List.perm_iff_count]; intro a; simp only [List.count_append, List.count_cons, List.count_nil]; omega)).cell 2
  go_wp2_with ((with_reducible refine stV (.tmp 6) (.tmp 28) x6.heap.size (⟨3, 0, ⟨#[122]⟩, false⟩ : Ver) v0 rfl rfl g6 ?_))
  refine (len_calls g [(⟨1, 0, ⟨#[120]⟩, false⟩ : Ver), (⟨3, 0, ⟨#[122]⟩, false⟩ : Ver)] _ _ w _ HI6.out HH6.out).mono ?_
  rintro e y1 ⟨rfl, rfl⟩
  go_wp2_with fail
  refine (time_calls 1 _).mono ?_
  rintro e y2 ⟨rfl, hb⟩
  have HHl := Lib.hid (HH6.out.grow hb)
  clear hb p1 p2
  go_wp2_with fail
  refine (since_calls g [(⟨1, 0, ⟨#[120]⟩, false⟩ : Ver), (⟨3, 0, ⟨#[122]⟩, false⟩ : Ver)] 1 0 _ _ w _ HI6.out HHl.out).mono ?_
  rintro e y3 ⟨he, hb⟩
  have q : (([(⟨1, 0, ⟨#[120]⟩, false⟩ : Ver), (⟨3, 0, ⟨#[122]⟩, false⟩ : Ver)] : List Ver).length : Int) - (untilN [(⟨1, 0, ⟨#[120]⟩, false⟩ : Ver), (⟨3, 0, ⟨#[122]⟩, false⟩ : Ver)] 1 0 : Int) = 1 := by kernel_rfl
  rw [q] at he
  subst he
  have HB := Lib.hid (HHl.out.grow hb).below
  clear hb q
  go_wp2_with fail
  go_ret
  exact ⟨rfl, HB.out⟩
end Go.Proofs.Ytgkigcobaimccaa
