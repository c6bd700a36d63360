/- slices.Insert of one version: a contract for every world. Conditions: the theorem's own. -/
import Derived.Test.YtgkigcobaimccaaPl
import Derived.Test.YtgkigcobaimccaaLy
import Derived.Laws.Externs
namespace Go.Proofs.Ytgkigcobaimccaa
open Go.RowKit Go.Proofs.Ytgkigcobaimccaa.Sp
set_option linter.unusedVariables false
set_option linter.unusedSimpArgs false
theorem info30i : ∃ i z, Try.prog.info? 30 = some i ∧ i.zero = some z ∧ i.size = 4 ∧ i.bytes = 40 ∧ z.cells.size = 4 := by
  have h : (Try.prog.info? 30).any (fun i => (match i.zero with | some z => z.cells.size == 4 | _ => false) && i.size == 4 && i.bytes == 40) = true := by kernel_rfl
  cases hu : Try.prog.info? 30 with
  | none => rw [hu] at h; cases h
  | some i =>
    rw [hu] at h
    simp only [Option.any_some, Bool.and_eq_true, beq_iff_eq] at h
    obtain ⟨⟨h1, h2⟩, h3⟩ := h
    cases hz : i.zero with
    | none => rw [hz] at h1; cases h1
    | some z =>
      rw [hz] at h1
      exact ⟨i, z, rfl, hz, h2, h3, by simpa using h1⟩
theorem size30 : (Try.prog.info? 30).map (·.size) = some 4 := by kernel_rfl
theorem reads_block {w0 w : World} {F : Hp} {b : Nat} {vs : List Value} (H : Holds w0 ((b, .cells vs.toArray 30 (0, 0)) :: F) w) (hvl : vs.length = 4) : Reads w (some ⟨b, 0, none⟩) 1 4 vs := by
  refine ⟨by rw [hvl], (fun h => by cases h), fun ad had j u hj => ?_⟩
  injection had with had
  subst had
  have e : (⟨b, 0, none⟩ : Addr).add j = ⟨b, j, none⟩ := by simp [Addr.add]; omega
  rw [e, H.cell j]
  simpa using hj
def InsPost (n i : Nat) (xs vs : List Value) (vb : Nat) (F : Hp) (w0 : World) (e : Ending) (w' : World) : Prop :=
  ∃ v', e = .returned v' ∧ ∃ h', RowB 30 4 v' (n + 1) (xs.take (i * 4) ++ vs ++ xs.drop (i * 4)) h' ∧ Holds w0 (h' ++ ((vb, .cells vs.toArray 30 (0, 0)) :: F)) w'
set_option maxRecDepth 100000 in
set_option maxHeartbeats 4000000 in
theorem ins_end (v : Value) (n : Nat) (xs vs : List Value) (vb : Nat) (h F : Hp) (w0 w : World) (hn : n ≤ 1000000) (hvl : vs.length = 4) (h1v : ∀ u ∈ vs, u.oneCell' = true) (R : RowB 30 4 v n xs h)
    (H : Holds w0 (h ++ ((vb, .cells vs.toArray 30 (0, 0)) :: F)) w) : Calls Try.prog 28 #[v, .int .i64 n, .slice (some ⟨vb, 0, none⟩) 1 1] w (InsPost n n xs vs vb F w0) := by
  have hmx : maxLen = 9223372036854775807 := rfl
  obtain ⟨i, z, hi, hz, h1, h2, h3⟩ := info30i
  obtain ⟨v', h', w', r1, r2, r3⟩ := row_append (t := 22) R H 22 i z 40 Try.underlying22 hi hz h1 h2 h3 (by decide) (some ⟨vb, 0, none⟩) 1 1 (fun h => by cases h) vs (reads_block H.right hvl) h1v (by omega) (by omega)
  have R1 := Lib.hid r1; have R2 := Lib.hid r2; have R3 := Lib.hid r3
  have hxl := R.1
  have e1 : xs.take (n * 4) ++ vs ++ xs.drop (n * 4) = xs ++ vs := by rw [List.take_of_length_le (by omega), List.drop_of_length_le (by omega), List.append_nil]
  have E1 := Lib.hid e1
  obtain ⟨A, c, rfl, hnc, hA0⟩ := RowB.form R
  clear r1 r2 r3 R H e1 hxl
  cases A with
  | none =>
    obtain rfl := hA0 rfl
    obtain rfl : n = 0 := by omega
    go_enter Try.func28, Try.ntmps28
    go_wp2_with ((with_reducible refine apL (.tmp 23) (.tmp 24) ?_ ?_ R1.out ?_); rfl; rfl)
    refine bodyPost_ret (v := v') (by simp [results, Try.results28, go_sem]) rfl ⟨_, rfl, h', ?_, R3.out⟩
    rw [E1.out]
    exact R2.out
  | some ad =>
    go_enter Try.func28, Try.ntmps28
    go_wp2_with ((with_reducible refine apL (.tmp 23) (.tmp 24) ?_ ?_ R1.out ?_); rfl; rfl)
    all_goals (refine bodyPost_ret (v := v') (by simp [results, Try.results28, go_sem]) rfl ⟨_, rfl, h', ?_, R3.out⟩; rw [E1.out]; exact R2.out)
set_option maxRecDepth 100000 in
set_option maxHeartbeats 4000000 in
theorem ins_shift (n i g cap : Nat) (cur : Array Value) (xs vs : List Value) (vb : Nat) (F : Hp) (w0 w : World) (hi : i < n) (hn : n ≤ 1000000) (hroom : n + 1 ≤ cap) (hcap : cap ≤ 9223372036854775807) (hvl : vs.length = 4) (h1 : ∀ u ∈ xs, u.oneCell' = true) (h1v : ∀ u ∈ vs, u.oneCell' = true)
    (hxl : xs.length = n * 4) (hcz : cur.size = cap * 4) (htk : cur.toList.take (n * 4) = xs)
    (H : Holds w0 ((g, .cells cur 30 (0, 0)) :: ((vb, .cells vs.toArray 30 (0, 0)) :: F)) w) : Calls Try.prog 28 #[.slice (some ⟨g, 0, none⟩) n cap, .int .i64 i, .slice (some ⟨vb, 0, none⟩) 1 1] w (InsPost n i xs vs vb F w0) := by
  have hne : vb ≠ g := fun e => H.mem_ne (x := (vb, .cells vs.toArray 30 (0, 0))) List.mem_cons_self e
  have hg : w.heap[g]? = some (.cells cur 30 (0, 0)) := H.get
  have hvb : w.heap[vb]? = some (.cells vs.toArray 30 (0, 0)) := H.tail.get
  have hov : ∀ lb cb, (callFunc 36 #[.slice (some ⟨vb, 0, none⟩) 1 1, .slice (some ⟨g, (i + 1) * 4, none⟩) lb cb]).run Try.prog w = .ok (.value (.bool false)) w := fun lb cb => by
    rw [run_callFunc_extern Try.func36 (by kernel_rfl) (by kernel_rfl) (by kernel_rfl) (e := Extern.SlicesOverlaps.overlaps #[22, 22] #[4]) (by kernel_rfl),
      Lib.run_overlaps_apart w 22 4 30 Try.underlying22 4 Try.sizeOf30 ⟨vb, 0, none⟩ ⟨g, (i + 1) * 4, none⟩ 1 1 lb cb hne 30 30 4 (cap * 4) (by simp [World.shape?, hvb, hvl]) (by simp [World.shape?, hg, hcz]) (by omega) (H.tail.froz 0) (H.tail.froz 4)]
    rfl
  have HOV := Lib.hid hov
  have hdl : (xs.drop (i * 4)).length = (n - i) * 4 := by rw [List.length_drop, hxl]; omega
  have HD := H.drew
  have hcp1 : ∀ ty dc sc, (Builtin.copy_ #[22, 22] ty #[.slice (some ⟨g, (i + 1) * 4, none⟩) (n - i) dc, .slice (some ⟨g, i * 4, none⟩) (n + 1 - i) sc]).run Try.prog w.drew = .ok (goInt (Nat.min (n + 1 - i) (n - i))) (w.drew.setCells g ((i + 1) * 4) (xs.drop (i * 4))) := fun ty dc sc =>
    run_copy_sized w.drew 22 22 ty 30 4 g ((i + 1) * 4) (n - i) dc ⟨g, i * 4, none⟩ (n + 1 - i) sc (xs.drop (i * 4)) Try.underlying22 size30 (by rw [hdl]; simp only [Nat.min_def]; split <;> omega)
      (fun j v hj => by
        have e : (⟨g, i * 4, none⟩ : Addr).add j = ⟨g, i * 4 + j, none⟩ := by simp [Addr.add]
        rw [List.getElem?_drop] at hj
        have hlt : i * 4 + j < n * 4 := by rw [← hxl]; exact (List.getElem?_eq_some_iff.mp hj).1
        rw [e, HD.cell, ← hj, ← htk, List.getElem?_take, if_pos hlt, Array.getElem?_toList])
      (fun j hj => cell_some HD (by rw [hcz]; omega)) (fun j hj => HD.froz _) (fun v hv => h1 v (List.mem_of_mem_drop hv))
  have H1 := Holds.lay (xs.drop (i * 4)) ((i + 1) * 4) cur _ HD
  obtain ⟨W1, hW1⟩ : ∃ W1, W1 = w.drew.setCells g ((i + 1) * 4) (xs.drop (i * 4)) := ⟨_, rfl⟩
  rw [← hW1] at H1 hcp1
  have hcp2 : ∀ ty dc, (Builtin.copy_ #[22, 22] ty #[.slice (some ⟨g, i * 4, none⟩) (n + 1 - i) dc, .slice (some ⟨vb, 0, none⟩) 1 1]).run Try.prog W1 = .ok (goInt (Nat.min 1 (n + 1 - i))) (W1.setCells g (i * 4) vs) := fun ty dc =>
    run_copy_sized W1 22 22 ty 30 4 g (i * 4) (n + 1 - i) dc ⟨vb, 0, none⟩ 1 1 vs Try.underlying22 size30 (by rw [hvl]; simp only [Nat.min_def]; split <;> omega)
      (fun j v hj => (reads_block H1.tail hvl).2.2 _ rfl j v hj)
      (fun j hj => cell_some H1 (by rw [lay_sz, hcz]; omega)) (fun j hj => H1.froz _) h1v
  have H2 := Lib.hid (Holds.lay vs (i * 4) _ _ H1)
  have hA : (xs.take (i * 4)).length = i * 4 := by rw [List.length_take, hxl]; omega
  have HT := Lib.hid (lay_two (D := cur) (A := xs.take (i * 4)) (V := vs) (B := xs.drop (i * 4)) hA (fun t ht => by rw [List.getElem?_take, if_pos ht, ← htk, List.getElem?_take, if_pos (by omega), Array.getElem?_toList]) (by rw [hvl, hdl, hcz]; omega)).2
  have hin : i ≤ n := by omega
  have htn : ((i : Int) + 1).toNat = i + 1 := by omega
  have hb2 : ¬ (cap = i + 1) := by omega
  have hb3 : (i : Int) ≤ (n : Int) + 1 := by omega
  have hb4 : ¬ (cap = i) := by omega
  have hz2 : ¬ ((i : Int) = (n : Int)) := by omega
  have hnc : ¬ ((cap : Int) < (n : Int) + 1) := by omega
  have hw1 : IntKind.i64.wrap ((i : Int) + 1) = (i : Int) + 1 := by rw [IntKind.wrap_i64]; omega
  have hb1 : (0 : Int) ≤ (i : Int) + 1 := by omega
  have hb5 : (i : Int) + 1 ≤ (n : Int) + 1 := by omega
  have HCP1 := Lib.hid hcp1; have HCP2 := Lib.hid hcp2
  have HW1 := Lib.hid hW1
  have hHdl := Lib.hid hdl; have hHxl := Lib.hid hxl; have hHcz := Lib.hid hcz; have hHA := Lib.hid hA
  clear hcp1 hcp2 H HD H1 hW1 htk hdl hA hg hvb hxl hcz
  go_enter Try.func28, Try.ntmps28
  go_wp2_with (simp only [HOV.out])
  go_region_law (refine stepC rfl (.tmp 73) (.tmp 76) 22 22 rfl (.slice (some ⟨g, (i + 1) * 4, none⟩) (n - i) (cap - (i + 1))) (.slice (some ⟨g, i * 4, none⟩) (n + 1 - i) (cap - i)) (by simp [Act.eval, Act.put]) (by simp [Act.eval, Act.put]) (HCP1.out _ _ _) ?_)
  have hcp2 := HCP2.out
  go_wp2
  refine bodyPost_ret (v := .slice (some ⟨g, 0, none⟩) (n + 1) cap) (by simp [results, Try.results28, go_sem]) rfl ⟨_, rfl, [(g, .cells (Lib.lay (Lib.lay cur ((i + 1) * 4) (xs.drop (i * 4))) (i * 4) vs) 30 (0, 0))], ?_, H2.out⟩
  have e1 : i * 4 + vs.length = (i + 1) * 4 := by omega
  have e2 : i * 4 + vs.length + (xs.drop (i * 4)).length = (n + 1) * 4 := by rw [hHdl.out]; omega
  refine ⟨?_, .inr ⟨g, cap, _, rfl, rfl, hroom, hcap, by rw [lay_sz, lay_sz]; exact hHcz.out, ?_⟩⟩
  · rw [List.length_append, List.length_append, hHA.out, hHdl.out]; omega
  · have := HT.out
    rw [e2, e1] at this
    exact this
theorem zero_size (z : Array Value) (k : Nat) : (Builtin.zeroCells z k).size = k * z.size := by simp [Builtin.zeroCells]
set_option maxRecDepth 100000 in
set_option maxHeartbeats 4000000 in
theorem ins_grow (n i g cap : Nat) (cur : Array Value) (xs vs : List Value) (vb : Nat) (F : Hp) (w0 w : World) (hi : i < n) (hn : n ≤ 1000000) (hnc : n ≤ cap) (hroom : cap < n + 1) (hvl : vs.length = 4) (h1 : ∀ u ∈ xs, u.oneCell' = true) (h1v : ∀ u ∈ vs, u.oneCell' = true)
    (hxl : xs.length = n * 4) (hcz : cur.size = cap * 4) (htk : cur.toList.take (n * 4) = xs)
    (H : Holds w0 ((g, .cells cur 30 (0, 0)) :: ((vb, .cells vs.toArray 30 (0, 0)) :: F)) w) : Calls Try.prog 28 #[.slice (some ⟨g, 0, none⟩) n cap, .int .i64 i, .slice (some ⟨vb, 0, none⟩) 1 1] w (InsPost n i xs vs vb F w0) := by
  obtain rfl : cap = n := by omega
  obtain ⟨i0, z, hi0, hz0, hzs, hzb, hzc⟩ := info30i
  have hcell : ∀ (W : World) (F' : Hp), Holds w0 ((g, .cells cur 30 (0, 0)) :: F') W → ∀ j, j < cap * 4 → W.cell? ⟨g, j, none⟩ = xs[j]? := by
    intro W F' HW j hj
    rw [HW.cell j, ← htk, List.getElem?_take, if_pos hj, Array.getElem?_toList]
  have hold : (Builtin.firstCells i0.size i (.slice (some ⟨g, 0, none⟩) i cap)).run Try.prog w.drew = .ok (xs.take (i * 4)).toArray w.drew := by
    rw [hzs]
    exact run_firstCells_some w.drew 4 i ⟨g, 0, none⟩ i cap (xs.take (i * 4)) (by rw [List.length_take, hxl]; omega) (fun j v hj => by
      have e : (⟨g, 0, none⟩ : Addr).add j = ⟨g, j, none⟩ := by simp [Addr.add]; omega
      rw [List.getElem?_take] at hj
      split at hj
      · rw [e, hcell _ _ H.drew j (by omega)]; exact hj
      · cases hj)
  have hik : i + (cap + 1 - i) = cap + 1 := by omega
  have hkk : (cap : Int) + 1 - (i : Int) = ((cap + 1 - i : Nat) : Int) := by omega
  obtain ⟨G, hG⟩ : ∃ G, G = grownCap w (cap + 1) cap 30 := ⟨_, rfl⟩
  obtain ⟨ROW, hROW⟩ : ∃ ROW : Array Value, ROW = (xs.take (i * 4)).toArray ++ Builtin.zeroCells z.cells (cap + 1 - i) ++ Builtin.zeroCells z.cells (G - (cap + 1)) := ⟨_, rfl⟩
  have hrz : ∀ ty, (Builtin.append_ #[22, 3] ty #[.slice (some ⟨g, 0, none⟩) i cap, .int .i64 ((cap : Int) + 1 - (i : Int))]).run Try.prog w =
      .ok (.slice (some ⟨w.heap.size, 0, none⟩) (cap + 1) G) (w.drew.alloc (.cells ROW 30)) := fun ty => by
    have h := Lib.run_append_grow_zeros w 22 3 ty 30 i0 _ .i64 .i64 Try.underlying22 Try.underlying3 hi0 hz0 (some ⟨g, 0, none⟩) i cap (xs.take (i * 4)) hold (cap + 1 - i) (by omega) (by omega) (by omega) (by omega) (by rw [hzb]; omega) (by rw [hzb, hik]; exact growslice_fits hroom (by omega))
    rw [hik, ← hG, ← hROW] at h
    rw [hkk]
    exact h
  have hGn : cap + 1 ≤ G := by rw [hG]; exact grownCap_ge w _ _ _
  have hG63 : G ≤ maxLen := by
    rw [hG]
    exact grownCap_le_maxLen w (cap + 1) cap 30 (by unfold maxLen; omega)
  have hRs : ROW.size = G * 4 := by
    rw [hROW, Array.size_append, Array.size_append, zero_size, zero_size, hzc]
    simp only [List.size_toArray, List.length_take, hxl]
    omega
  have hRA : ∀ t, t < i * 4 → ROW[t]? = (xs.take (i * 4))[t]? := by
    intro t ht
    rw [hROW, Array.append_assoc, Array.getElem?_append_left (by simp only [List.size_toArray, List.length_take, hxl]; omega)]
    simp
  have HN := H.drew.alloc (.cells ROW 30)
  obtain ⟨b, hb⟩ : ∃ b, b = w.heap.size := ⟨_, rfl⟩
  have HN : Holds w0 ((b, .cells ROW 30 (0, 0)) :: (g, .cells cur 30 (0, 0)) :: (vb, .cells vs.toArray 30 (0, 0)) :: F) (w.drew.alloc (.cells ROW 30)) := by rw [hb]; exact HN
  obtain ⟨W1, hW1⟩ : ∃ W1, W1 = w.drew.alloc (.cells ROW 30) := ⟨_, rfl⟩
  rw [← hW1] at hrz HN
  rw [← hb] at hrz
  have hcpA : ∀ ty dc, (Builtin.copy_ #[22, 22] ty #[.slice (some ⟨b, i * 4, none⟩) (cap + 1 - i) dc, .slice (some ⟨vb, 0, none⟩) 1 1]).run Try.prog W1 = .ok (goInt (Nat.min 1 (cap + 1 - i))) (W1.setCells b (i * 4) vs) := fun ty dc =>
    run_copy_sized W1 22 22 ty 30 4 b (i * 4) (cap + 1 - i) dc ⟨vb, 0, none⟩ 1 1 vs Try.underlying22 size30 (by rw [hvl]; simp only [Nat.min_def]; split <;> omega)
      (fun j v hj => (reads_block HN.tail.tail hvl).2.2 _ rfl j v hj)
      (fun j hj => cell_some HN (by rw [hRs]; omega)) (fun j hj => HN.froz _) h1v
  have HN2 := Holds.lay vs (i * 4) _ _ HN
  obtain ⟨W2, hW2⟩ : ∃ W2, W2 = W1.setCells b (i * 4) vs := ⟨_, rfl⟩
  rw [← hW2] at hcpA HN2
  have hdl : (xs.drop (i * 4)).length = (cap - i) * 4 := by rw [List.length_drop, hxl]; omega
  have hcpB : ∀ ty dc sc, (Builtin.copy_ #[22, 22] ty #[.slice (some ⟨b, (i + 1) * 4, none⟩) (cap - i) dc, .slice (some ⟨g, i * 4, none⟩) (cap - i) sc]).run Try.prog W2.drew = .ok (goInt (Nat.min (cap - i) (cap - i))) (W2.drew.setCells b ((i + 1) * 4) (xs.drop (i * 4))) := fun ty dc sc =>
    run_copy_sized W2.drew 22 22 ty 30 4 b ((i + 1) * 4) (cap - i) dc ⟨g, i * 4, none⟩ (cap - i) sc (xs.drop (i * 4)) Try.underlying22 size30 (by rw [hdl]; simp only [Nat.min_def]; split <;> omega)
      (fun j v hj => by
        have e : (⟨g, i * 4, none⟩ : Addr).add j = ⟨g, i * 4 + j, none⟩ := by simp [Addr.add]
        rw [List.getElem?_drop] at hj
        have hlt : i * 4 + j < cap * 4 := by rw [← hxl]; exact (List.getElem?_eq_some_iff.mp hj).1
        rw [e, hcell _ _ HN2.drew.tail _ hlt]
        exact hj)
      (fun j hj => cell_some HN2.drew (by rw [lay_sz, hRs]; omega)) (fun j hj => HN2.drew.froz _) (fun v hv => h1 v (List.mem_of_mem_drop hv))
  have HN3 := Lib.hid (Holds.lay (xs.drop (i * 4)) ((i + 1) * 4) _ _ HN2.drew)
  have hA : (xs.take (i * 4)).length = i * 4 := by rw [List.length_take, hxl]; omega
  have HT := Lib.hid (lay_two (D := ROW) (A := xs.take (i * 4)) (V := vs) (B := xs.drop (i * 4)) hA hRA (by rw [hvl, hdl, hRs]; omega)).1
  have htn : ((i : Int) + 1).toNat = i + 1 := by omega
  have hin : i ≤ cap := by omega
  have hw1 : IntKind.i64.wrap ((i : Int) + 1) = (i : Int) + 1 := by rw [IntKind.wrap_i64]; omega
  have hb1 : (0 : Int) ≤ (i : Int) + 1 := by omega
  have hb5 : (i : Int) + 1 ≤ (cap : Int) + 1 := by omega
  have hb3 : (i : Int) ≤ (cap : Int) + 1 := by omega
  have hz2 : ¬ ((i : Int) = (cap : Int)) := by omega
  have hGi : ¬ (G = i) := by omega
  have hGi1 : ¬ (G = i + 1) := by omega
  have hb4 : ¬ (cap = i) := by omega
  have HRZ := Lib.hid hrz; have HCA := Lib.hid hcpA; have HCB := Lib.hid hcpB
  have hHdl := Lib.hid hdl; have hHRs := Lib.hid hRs; have hHA := Lib.hid hA; have HG63 := Lib.hid hG63
  clear hold hik hkk hG hROW hrz hRs hRA HN hb hW1 hcpA HN2 hW2 hdl hcpB hA hcell H htk hxl hcz hG63
  have hcpA := HCA.out
  go_enter Try.func28, Try.ntmps28
  go_wp2_with ((with_reducible refine apL (.tmp 34) (.tmp 39) ?_ ?_ (HRZ.out _) ?_); rfl; rfl)
  go_region_law (refine stepC rfl (.tmp 50) (.tmp 53) 22 22 rfl (.slice (some ⟨b, (i + 1) * 4, none⟩) (cap - i) (G - (i + 1))) (.slice (some ⟨g, i * 4, none⟩) (cap - i) (cap - i)) (by simp [Act.eval, Act.put]) (by simp [Act.eval, Act.put]) (HCB.out _ _ _) ?_)
  go_wp2
  refine bodyPost_ret (v := .slice (some ⟨b, 0, none⟩) (cap + 1) G) (by simp [results, Try.results28, go_sem]) rfl ⟨_, rfl, [(b, .cells (Lib.lay (Lib.lay ROW (i * 4) vs) ((i + 1) * 4) (xs.drop (i * 4))) 30 (0, 0))], ?_, ?_⟩
  · have e1 : i * 4 + vs.length = (i + 1) * 4 := by omega
    have e2 : i * 4 + vs.length + (xs.drop (i * 4)).length = (cap + 1) * 4 := by rw [hHdl.out]; omega
    refine ⟨?_, .inr ⟨b, G, _, rfl, rfl, hGn, HG63.out, by rw [lay_sz, lay_sz]; exact hHRs.out, ?_⟩⟩
    · rw [List.length_append, List.length_append, hHA.out, hHdl.out]; omega
    · have := HT.out
      rw [e2, e1] at this
      exact this
  · exact HN3.out.sub ((List.sublist_cons_self _ _).cons_cons _)
/-- slices.Insert of one version. -/
theorem ins_calls (v : Value) (n i : Nat) (xs vs : List Value) (vb : Nat) (h F : Hp) (w0 w : World) (hi : i ≤ n) (hn : n ≤ 1000000) (hvl : vs.length = 4) (h1 : ∀ u ∈ xs, u.oneCell' = true) (h1v : ∀ u ∈ vs, u.oneCell' = true) (R : RowB 30 4 v n xs h)
    (H : Holds w0 (h ++ ((vb, .cells vs.toArray 30 (0, 0)) :: F)) w) : Calls Try.prog 28 #[v, .int .i64 i, .slice (some ⟨vb, 0, none⟩) 1 1] w (InsPost n i xs vs vb F w0) := by
  rcases Nat.lt_or_ge i n with hlt | hge
  · obtain ⟨hxl, ⟨rfl, h0, rfl⟩ | ⟨g, cap, cur, rfl, rfl, h2, h3, h4, h5⟩⟩ := R
    · omega
    · rcases Nat.lt_or_ge cap (n + 1) with hc | hc
      · exact ins_grow n i g cap cur xs vs vb F w0 w hlt hn h2 hc hvl h1 h1v hxl h4 h5 H
      · exact ins_shift n i g cap cur xs vs vb F w0 w hlt hn hc h3 hvl h1 h1v hxl h4 h5 H
  · obtain rfl : i = n := by omega
    exact ins_end v i xs vs vb h F w0 w hn hvl h1v R H
end Go.Proofs.Ytgkigcobaimccaa
