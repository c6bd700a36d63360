/- slices.Delete of one packet: a contract for every world. Conditions: the theorem's own. -/
import Derived.Test.YtopnbhinifejkaaSd
import Derived.Lib.SlicesCompact
import Derived.Deep.RegionLaw
import Derived.Deep.Upon
namespace Go.Proofs.Ytopnbhinifejkaa
open Go.RowKit Go.Proofs.Ytopnbhinifejkaa.Sp
set_option linter.unusedVariables false
set_option linter.unusedSimpArgs false
theorem Holds.lay {w0 : World} {h : Hp} {g : Nat} {t : TypeId} {z : Nat × Nat} : ∀ (vs : List Value) (o : Nat) (cs : Array Value) (w : World), Holds w0 ((g, .cells cs t z) :: h) w → Holds w0 ((g, .cells (Lib.lay cs o vs) t z) :: h) (w.setCells g o vs)
  | [], _, _, _, H => H
  | v :: r, o, cs, w, H => Holds.lay r (o + 1) _ _ (H.set o v)
theorem take_lay2 {cur : Array Value} {xs A B Z : List Value} {n : Nat} (h : cur.toList.take n = xs) (hn : n ≤ cur.size) (a b : Nat) (ha : a + B.length + Z.length ≤ n) (hA : A = xs.take a) (hb : b = a + B.length) :
    (Lib.lay (Lib.lay cur a B) b Z).toList.take b = A ++ B := by
  subst hb hA h
  have e0 : ∀ (vs : List Value) (d : Array Value) (k : Nat), (Lib.lay d k vs).size = d.size := by
    intro vs
    induction vs with
    | nil => intro d k; rfl
    | cons v r ih => intro d k; rw [Lib.lay, ih]; simp
  apply List.ext_getElem?
  intro t
  have lA : ((cur.toList.take n).take a).length = a := by simp; omega
  rw [List.getElem?_take]
  by_cases ht : t < a + B.length
  · rw [if_pos ht, Array.getElem?_toList, Lib.lay_get? _ _ _ _ (by rw [e0]; omega), if_neg (by omega), Lib.lay_get? _ _ _ _ (by omega)]
    by_cases hta : t < a
    · rw [if_neg (by omega), List.getElem?_append_left (by omega), List.getElem?_take, if_pos hta, List.getElem?_take, if_pos (by omega), Array.getElem?_toList]
    · rw [if_pos (by omega), List.getElem?_append_right (by omega), lA]
  · rw [if_neg ht, List.getElem?_eq_none (by rw [List.length_append, lA]; omega)]
def zs3 : List Value := [.int .i64 0, .int .i64 0, .slice none 0 0]
theorem clear_run (w : World) (b o c : Nat) (ty : TypeId) (hc : ∀ j, j < 3 → (w.cell? ⟨b, o + j, none⟩).isSome = true) (hf : ∀ j, j < 3 → w.frozen? ⟨b, o + j, none⟩ = false) :
    (Builtin.clear_ #[56] ty #[.slice (some ⟨b, o, none⟩) 1 c]).run Try.prog w = .ok (.tuple #[]) (w.setCells b o zs3) := by
  have hst := run_storeCells_cells (P := Try.prog) b o zs3 0 w (by simpa [zs3] using hc) (by simpa [zs3] using hf) (by simp [zs3, Value.oneCell'])
  simp only [Nat.add_zero] at hst
  have hz := Try.zeroValue31 w
  have e : (Builtin.zeroCells (Value.agg #[.int .i64 0, .int .i64 0, .slice none 0 0]).cells 1).toList = zs3 := by kernel_rfl
  simp [Builtin.clear_, run_underlying Try.underlying56, hz, e, hst]
theorem cell_some {w0 w : World} {h : Hp} {g : Nat} {cs : Array Value} {t : TypeId} (H : Holds w0 ((g, .cells cs t (0, 0)) :: h) w) {i : Nat} (hi : i < cs.size) : (w.cell? ⟨g, i, none⟩).isSome = true := by
  rw [H.cell i, Array.getElem?_eq_getElem hi]
  rfl
set_option maxRecDepth 100000 in
set_option maxHeartbeats 4000000 in
theorem del_calls (v : Value) (n k j_ : Nat) (xs : List Value) (h F : Hp) (w0 w : World) (hk : k < n) (hj_ : j_ = k + 1) (h1 : ∀ u ∈ xs, u.oneCell' = true) (R : RowB 31 3 v n xs h) (H : Holds w0 (h ++ F) w) :
    Calls Try.prog 28 #[v, .int .i64 k, .int .i64 j_] w fun e w' => ∃ v', e = .returned v' ∧ ∃ h', RowB 31 3 v' (n - 1) (xs.take (k * 3) ++ xs.drop (j_ * 3)) h' ∧ Holds w0 (h' ++ F) w' := by
  obtain ⟨hxl, ⟨rfl, h0, _⟩ | ⟨g, cap, cur, rfl, rfl, h2, h3, h4, h5⟩⟩ := R
  · omega
  have hmx : maxLen = 9223372036854775807 := rfl
  rw [hmx] at h3
  obtain ⟨i0, z, hi0, _, hz1, _, _⟩ := info31i
  obtain ⟨news, hnews⟩ : ∃ news, news = xs.drop (j_ * 3) := ⟨_, rfl⟩
  have hnl : news.length = (n - j_) * 3 := by rw [hnews, List.length_drop, hxl]; omega
  have HH := Lib.hid H
  have hcell : ∀ j, j < n * 3 → w.drew.cell? ⟨g, j, none⟩ = xs[j]? := by
    intro j hj
    rw [H.drew.cell j, ← h5, List.getElem?_take, if_pos hj, Array.getElem?_toList]
  obtain ⟨A, hA, hsrc⟩ : ∃ A : Addr, (if cap = j_ then some (⟨g, 0, none⟩ : Addr) else some ⟨g, j_ * 3, none⟩) = some A ∧ Hid (∀ t u, news[t]? = some u → w.drew.cell? (A.add t) = some u) := by
    by_cases h : cap = j_
    · refine ⟨⟨g, 0, none⟩, by simp [h], fun t u hu => ?_⟩
      have h0 : news = [] := List.eq_nil_of_length_eq_zero (by rw [hnl]; omega)
      rw [h0] at hu
      simp at hu
    · refine ⟨⟨g, j_ * 3, none⟩, by simp [h], fun t u hu => ?_⟩
      have ht : t < (n - j_) * 3 := by rw [← hnl]; exact (List.getElem?_eq_some_iff.1 hu).1
      have e : (⟨g, j_ * 3, none⟩ : Addr).add t = ⟨g, j_ * 3 + t, none⟩ := by simp [Addr.add]
      rw [e, hcell _ (by omega), ← hu, hnews, List.getElem?_drop]
  have s1 := Lib.hid hnl
  have s2 : Hid (∀ u ∈ news, u.oneCell' = true) := fun u hu => h1 u (by rw [hnews] at hu; exact List.mem_of_mem_drop hu)
  have s3 : Hid (∀ t, t < news.length → (w.drew.cell? ⟨g, 0 + k * 3 + t, none⟩).isSome = true ∧ w.drew.frozen? ⟨g, 0 + k * 3 + t, none⟩ = false) := by
    intro t ht
    rw [hnl] at ht
    exact ⟨cell_some H.drew (by rw [h4]; omega), H.drew.froz _⟩
  obtain ⟨W1, hW1⟩ : ∃ W1, W1 = w.drew.setCells g (0 + k * 3) news := ⟨_, rfl⟩
  have H1 : Holds w0 ((g, .cells (Lib.lay cur (0 + k * 3) news) 31 (0, 0)) :: ([] ++ F)) W1 := by rw [hW1]; exact Holds.lay news _ cur _ H.drew
  have e0 : ∀ (vs : List Value) (d : Array Value) (k : Nat), (Lib.lay d k vs).size = d.size := by
    intro vs
    induction vs with
    | nil => intro d k; rfl
    | cons v r ih => intro d k; rw [Lib.lay, ih]; simp
  have hcl : ∀ ty c', (Builtin.clear_ #[56] ty #[.slice (some ⟨g, (k + (n - j_)) * 3, none⟩) (n - (k + (n - j_))) c']).run Try.prog W1 = .ok (.tuple #[]) (W1.setCells g ((n - 1) * 3) zs3) := by
    intro ty c'
    rw [show k + (n - j_) = n - 1 by omega, show n - (n - 1) = 1 by omega]
    exact clear_run W1 g ((n - 1) * 3) c' ty (fun j hj => cell_some H1 (by rw [e0, h4]; omega)) (fun j hj => H1.froz _)
  have H2 := Lib.hid (Holds.lay zs3 ((n - 1) * 3) _ _ H1)
  have HT := Lib.hid (take_lay2 (A := xs.take (k * 3)) (B := news) (Z := zs3) h5 (by rw [h4]; omega) (k * 3) ((n - 1) * 3) (by rw [hnl]; simp [zs3]; omega) rfl (by rw [hnl]; omega))
  have HS : Hid ((Lib.lay (Lib.lay cur (0 + k * 3) news) ((n - 1) * 3) zs3).size = cap * 3) := by show _ = _; rw [e0, e0, h4]
  have HN := Lib.hid hnews
  have HX := Lib.hid hxl
  have hW := Lib.hid hW1
  have HC := Lib.hid hcl
  clear h5 H H1 hW1 hcell hnews hnl hcl e0 h1 hxl
  have hic : k ≤ cap := by omega
  have hjc : j_ ≤ cap := by omega
  have hij : k < j_ := by omega
  have hjn : j_ ≤ n := by omega
  have hkn : k + (n - j_) ≤ n := by omega
  have hkc : k + (n - j_) ≤ cap := by omega
  have hk0 : k + (n - j_) < cap := by omega
  have hcl := HC.out
  have HJ := Lib.hid hj_
  clear hj_
  go_enter Try.func28, Try.ntmps28
  go_wp2_with fail
  go_region_law (refine step_append_room rfl (.tmp 22) (.tmp 25) 56 rfl 31 i0 3 Try.underlying56 hi0 hz1 g 0 k cap (by simp [Act.eval, Act.put]) A (n - j_) (cap - j_) news (by simp [Act.eval, Act.put]) s1.out hsrc.out s2.out (by omega) s3.out ?_; rw [← hW.out])
  go_wp2
  refine bodyPost_ret (v := .slice (some ⟨g, 0, none⟩) (k + (n - j_)) cap) (by simp [results, Try.results28, go_sem]) rfl ⟨_, rfl, [(g, .cells (Lib.lay (Lib.lay cur (0 + k * 3) news) ((n - 1) * 3) zs3) 31 (0, 0))], ?_, H2.out⟩
  have hj := HJ.out
  rw [show k + (n - j_) = n - 1 by omega]
  refine ⟨?_, .inr ⟨g, cap, _, rfl, rfl, by omega, by rw [hmx]; exact h3, HS.out, ?_⟩⟩
  · rw [List.length_append, List.length_take, List.length_drop, HX.out]
    omega
  · rw [← HN.out]
    have := HT.out
    rwa [Nat.zero_add]
end Go.Proofs.Ytopnbhinifejkaa
