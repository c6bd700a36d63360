/- A net's Take and Lose: contracts for every world. Conditions: each theorem's own. -/
import Derived.Test.YtopnbhinifejkaaAt
import Derived.Test.YtopnbhinifejkaaDe
namespace Go.Proofs.Ytopnbhinifejkaa
open Go.RowKit Go.Proofs.Ytopnbhinifejkaa.Sp
set_option linter.unusedVariables false
set_option linter.unusedSimpArgs false
theorem pksV_take : ∀ (k : Nat) (L : List PE), (pksV L).take (k * 3) = pksV (L.take k)
  | 0, L => by simp [pksV]
  | k + 1, [] => by simp [pksV]
  | k + 1, x :: L => by
    have ih := pksV_take k L
    simp only [pksV, List.flatMap_cons, List.take_succ_cons] at ih ⊢
    rw [← ih, show (k + 1) * 3 = (pkC x.1 x.2).toList.length + k * 3 by simp [pkC]; omega, List.take_length_add_append]
theorem pksV_drop : ∀ (k : Nat) (L : List PE), (pksV L).drop (k * 3) = pksV (L.drop k)
  | 0, L => by simp [pksV]
  | k + 1, [] => by simp [pksV]
  | k + 1, x :: L => by
    have ih := pksV_drop k L
    simp only [pksV, List.flatMap_cons, List.drop_succ_cons] at ih ⊢
    rw [← ih, show (k + 1) * 3 = (pkC x.1 x.2).toList.length + k * 3 by simp [pkC]; omega, List.drop_length_add_append]
theorem split_at {α : Type} {L : List α} {k : Nat} {x : α} (h : L[k]? = some x) : L = L.take k ++ x :: L.drop (k + 1) := by
  obtain ⟨hk, e⟩ := List.getElem?_eq_some_iff.mp h
  have h2 := List.take_append_drop k L
  rw [List.drop_eq_getElem_cons hk, e] at h2
  exact h2.symm
def offK (m : NM) (k : Nat) : NM := { m with l := m.l.take k ++ m.l.drop (k + 1) }
def takeM (m : NM) (k : Int) : NM := if (atM m k).isSome then offK m k.toNat else m
theorem ok_off {m : NM} (hok : m.ok) (k : Nat) : (offK m k).ok := by
  obtain ⟨h1, h2, h3, h4, h5⟩ := hok
  have hm : ∀ p, p ∈ m.l.take k ++ m.l.drop (k + 1) → p ∈ m.l := by
    intro p hp
    rcases List.mem_append.mp hp with h | h
    · exact List.mem_of_mem_take h
    · exact List.mem_of_mem_drop h
  refine ⟨h1, h2, ?_, fun p hp => h4 p (hm p hp), fun p hp => h5 p (hm p hp)⟩
  show ((m.l.take k ++ m.l.drop (k + 1)).length : Int) ≤ m.room
  rw [List.length_append, List.length_take, List.length_drop]
  omega
theorem pks_cells {L : List PE} {h : Hp} (H : PksR L h) : ∀ u ∈ pksV L, u.oneCell' = true := by
  refine pks_one L ?_
  induction L generalizing h with
  | nil => intro x hx; cases hx
  | cons y L ih =>
    obtain ⟨h1, h2, a, b, rfl⟩ := H
    intro x hx
    rcases List.mem_cons.mp hx with rfl | hx
    · obtain ⟨A, c, e, _, _⟩ := RowB.form a
      rw [e]
      rfl
    · exact ih b x hx
theorem res11 (tmps : Array Value) (W : World) (v : Value) (p : Pk) (b : Bool) (g : Nat) (h4 : tmps.getD 4 undef = .pointer (some ⟨g, 0, none⟩)) (h5 : tmps.getD 5 undef = .bool b) (H : W.heap[g]? = some (.cells (pkC v p) 31 (0, 0))) :
    (results Try.f11 tmps).run Try.prog W = .ok (.tuple #[.agg (pkC v p), .bool b]) W := by
  have hr := run_loadVar_row (P := Try.prog) W g 31 31 (pkC v p) (0, 0) _ H Try.underlying31 rfl (info31 v p)
  rw [results_cell_tmp Try.results11, h4, h5]
  simp [asAddr, hr, Result.andThen]
set_option maxRecDepth 100000 in
set_option maxHeartbeats 4000000 in
theorem take_calls (g : Nat) (m : NM) (h F : Hp) (k : Int) (w0 w : World) (hI : IsN g m h) (H : Holds w0 (h ++ F) w) :
    Calls Try.prog 11 #[.pointer (some ⟨g, 0, none⟩), .int .i64 k] w fun e w' => ∃ v hv, e = .returned (.tuple #[.agg (pkC v ((atM m k).getD pk0)), .bool (atM m k).isSome]) ∧ RowB 5 1 v ((atM m k).getD pk0).b.length (bv ((atM m k).getD pk0).b) hv ∧
      ∃ h', IsN g (takeM m k) h' ∧ Holds w0 (h' ++ (hv ++ F)) w' := by
  have hI0 := hI
  obtain ⟨mb, o, v, L, hr, hp, hM, hR, hP, hml, rfl, hok⟩ := hI
  have H1 := H.alloc (.cells (pkC (.slice none 0 0) pk0) 31)
  obtain ⟨b0, hb0⟩ : ∃ b0, b0 = w.heap.size := ⟨_, rfl⟩
  rw [← hb0] at H1
  obtain ⟨AL, cL, rfl, _, _⟩ := RowB.form hR
  have hat := at_calls g m _ ((b0, .cells (pkC (.slice none 0 0) pk0) 31) :: F) k w0 (w.alloc (.cells (pkC (.slice none 0 0) pk0) 31)) hI0 (H1.perm (by classical rw [List.perm_iff_count]; intro a; simp only [List.count_append, List.count_cons, List.count_nil]; omega))
  have HAT := Lib.hid hat
  have HI := Lib.hid hI0; have HM := Lib.hid hM; have HR := Lib.hid hR; have HP := Lib.hid hP; have HML := Lib.hid hml; have HOK := Lib.hid hok
  clear hI0 hM hR hP hml hok H H1 hat
  cases hq : atM m k with
  | none =>
    have ht : takeM m k = m := by simp [takeM, hq]
    rw [ht]
    simp only [Option.getD_none, Option.isSome_none]
    rw [hq] at HAT
    simp only [Option.getD_none, Option.isSome_none] at HAT
    subst hb0
    clear hq ht
    go_enter Try.func11, Try.ntmps11
    go_wp2_with fail
    refine HAT.out.mono ?_
    rintro e w1 ⟨v, hv, rfl, hRv, hH⟩
    obtain ⟨A9, c9, rfl, _, _⟩ := RowB.form hRv
    have hH2 := hH.alloc (.cells #[.int .i64 0, .int .i64 0, .slice none 0 0] 31)
    have g1 : (w1.alloc (.cells #[.int .i64 0, .int .i64 0, .slice none 0 0] 31)).heap[w1.heap.size]? = some (.cells (pkC (.slice none 0 0) pk0) 31 (0, 0)) := hH2.get
    have hH3 := hH2.turn (row_grown _ w1.heap.size (pkC (.slice A9 pk0.b.length c9) pk0)) (setRow_heap _ _ _ _ _ _ g1)
    have g2 := hH3.get
    have hH4 : Holds w0 ((w.heap.size, .cells (pkC (.slice none 0 0) pk0) 31) :: (w1.heap.size, .cells (pkC (.slice A9 pk0.b.length c9) pk0) 31) :: (((g, netO m.nodes m.room (.slice AL L.length cL) mb) :: (mb, o) :: (hr ++ hp)) ++ (hv ++ F))) ((w1.alloc (.cells #[.int .i64 0, .int .i64 0, .slice none 0 0] 31)).setRow w1.heap.size (pkC (.slice A9 pk0.b.length c9) pk0)) := hH3.perm (by classical rw [List.perm_iff_count]; intro a; simp only [List.count_append, List.count_cons, List.count_nil]; omega)
    have g3 := hH4.get
    have hH5 := hH4.turn (row_grown _ w.heap.size (pkC (.slice A9 pk0.b.length c9) pk0)) (setRow_heap _ _ _ _ _ _ g3)
    have G5 := Lib.hid hH5.get
    have HH5 := Lib.hid hH5.tail.tail
    have HRV := Lib.hid hRv
    clear hH hH2 hH3 hH4 hH5 hRv HAT
    go_wp2_with (first | (with_reducible refine ldP (.tmp 6) w1.heap.size (.slice A9 pk0.b.length c9) pk0 rfl g2 ?_) | (with_reducible refine stP (.tmp 6) (.tmp 12) w1.heap.size (.slice A9 pk0.b.length c9) (.slice none 0 0) pk0 pk0 rfl rfl rfl g1 ?_) | (with_reducible refine stP (.tmp 4) (.tmp 26) w.heap.size (.slice A9 pk0.b.length c9) (.slice none 0 0) pk0 pk0 rfl rfl rfl g3 ?_))
    exact bodyPost_ret (v := .tuple #[.agg (pkC (.slice A9 pk0.b.length c9) pk0), .bool false]) (res11 _ _ _ _ _ w.heap.size rfl rfl G5.out) rfl ⟨_, hv, rfl, HRV.out, _, HI.out, HH5.out⟩
  | some p =>
    have ht : takeM m k = offK m k.toNat := by simp [takeM, hq]
    rw [ht]
    simp only [Option.getD_some, Option.isSome_some]
    rw [hq] at HAT
    simp only [Option.getD_some, Option.isSome_some] at HAT
    have hk0 : 0 ≤ k := by
      unfold atM at hq
      split at hq
      · assumption
      · cases hq
    obtain ⟨k, rfl⟩ : ∃ k' : Nat, k = k' := ⟨k.toNat, by omega⟩
    obtain ⟨x, hxk⟩ : ∃ x, L[k]? = some x := by
      unfold atM at hq
      rw [if_pos hk0, HML.out, Int.toNat_natCast, List.getElem?_map] at hq
      obtain ⟨x, h1, _⟩ := Option.map_eq_some_iff.mp hq
      exact ⟨x, h1⟩
    have hkL : k < L.length := (List.getElem?_eq_some_iff.mp hxk).1
    have hsp := split_at hxk
    have hP := HP.out
    rw [hsp] at hP
    obtain ⟨p1, px, p2, hP1, hPx, hP2, hpe⟩ := PksR.mid.mp hP
    have HPE := Lib.hid hpe; have HP1 := Lib.hid hP1; have HP2 := Lib.hid hP2
    have hLr : (L.length : Int) ≤ 65536 := by have := HOK.out.len; have := HOK.out.room; rw [HML.out, List.length_map] at *; omega
    have HC := Lib.hid (pks_cells HP.out)
    have HK1 := Lib.hid (show ((k : Int) + 1) = ((k + 1 : Nat) : Int) by omega)
    have HSP := Lib.hid hsp
    have HPX := Lib.hid hPx
    subst hb0
    clear hq ht hxk hP hpe hP1 hP2 hPx hsp
    go_enter Try.func11, Try.ntmps11
    go_wp2_with fail
    refine HAT.out.mono ?_
    rintro e w1 ⟨v, hv, rfl, hRv, hH⟩
    obtain ⟨A9, c9, rfl, _, _⟩ := RowB.form hRv
    have hH2 := hH.alloc (.cells #[.int .i64 0, .int .i64 0, .slice none 0 0] 31)
    have g1 : (w1.alloc (.cells #[.int .i64 0, .int .i64 0, .slice none 0 0] 31)).heap[w1.heap.size]? = some (.cells (pkC (.slice none 0 0) pk0) 31 (0, 0)) := hH2.get
    have hH3 := hH2.turn (row_grown _ w1.heap.size (pkC (.slice A9 p.b.length c9) p)) (setRow_heap _ _ _ _ _ _ g1)
    have hH4 : Holds w0 ((g, netO m.nodes m.room (.slice AL L.length cL) mb) :: (hr ++ ((w.heap.size, .cells (pkC (.slice none 0 0) pk0) 31) :: (w1.heap.size, .cells (pkC (.slice A9 p.b.length c9) p) 31) :: (mb, o) :: (hp ++ (hv ++ F))))) ((w1.alloc (.cells #[.int .i64 0, .int .i64 0, .slice none 0 0] 31)).setRow w1.heap.size (pkC (.slice A9 p.b.length c9) p)) := hH3.perm (by classical rw [List.perm_iff_count]; intro a; simp only [List.count_append, List.count_cons, List.count_nil]; omega)
    have c2 : ((w1.alloc (.cells #[.int .i64 0, .int .i64 0, .slice none 0 0] 31)).setRow w1.heap.size (pkC (.slice A9 p.b.length c9) p)).cell? ⟨g, 2, none⟩ = some (.slice AL L.length cL) := hH4.cell 2
    have HH4 := Lib.hid hH4
    have HRV := Lib.hid hRv
    clear hH hH2 hH3 hH4 hRv HAT
    go_wp2_with (first | (with_reducible refine stP (.tmp 6) (.tmp 12) w1.heap.size (.slice A9 p.b.length c9) (.slice none 0 0) p pk0 rfl rfl rfl g1 ?_))
    rw [HK1.out]
    refine (del_calls (.slice AL L.length cL) L.length k (k + 1) (pksV L) hr _ w0 _ hkL rfl HC.out HR.out (HH4.out.perm (List.perm_middle (l₁ := [])  |>.symm |>.trans (by exact (List.perm_middle (l₁ := hr)).symm)))).mono ?_
    rintro e w4 ⟨v', rfl, h', hR', hH'⟩
    obtain ⟨A5, c5, rfl, _, _⟩ := RowB.form hR'
    have hH5 : Holds w0 ((g, netO m.nodes m.room (.slice AL L.length cL) mb) :: (h' ++ ((w.heap.size, .cells (pkC (.slice none 0 0) pk0) 31) :: (w1.heap.size, .cells (pkC (.slice A9 p.b.length c9) p) 31) :: (mb, o) :: (hp ++ (hv ++ F))))) w4 := hH'.perm (List.perm_middle.trans (by rfl))
    have c4 : w4.cell? ⟨g, 2, none⟩ = some (.slice AL L.length cL) := hH5.cell 2
    have f4 : w4.frozen? ⟨g, 2, none⟩ = false := hH5.froz 2
    have hH6 : Holds w0 ((g, netO m.nodes m.room (.slice A5 (L.length - 1) c5) mb) :: (h' ++ ((w.heap.size, .cells (pkC (.slice none 0 0) pk0) 31) :: (w1.heap.size, .cells (pkC (.slice A9 p.b.length c9) p) 31) :: (mb, o) :: (hp ++ (hv ++ F))))) (w4.setCell ⟨g, 2, none⟩ (.slice A5 (L.length - 1) c5)) := hH5.set 2 _
    have hH7 : Holds w0 ((w.heap.size, .cells (pkC (.slice none 0 0) pk0) 31) :: (w1.heap.size, .cells (pkC (.slice A9 p.b.length c9) p) 31) :: (g, netO m.nodes m.room (.slice A5 (L.length - 1) c5) mb) :: (h' ++ ((mb, o) :: (hp ++ (hv ++ F))))) (w4.setCell ⟨g, 2, none⟩ (.slice A5 (L.length - 1) c5)) := hH6.perm (by classical rw [List.perm_iff_count]; intro a; simp only [List.count_append, List.count_cons, List.count_nil]; omega)
    have g3 := hH7.get
    have g2 := hH7.tail.get
    have hH8 := hH7.turn (row_grown _ w.heap.size (pkC (.slice A9 p.b.length c9) p)) (setRow_heap _ _ _ _ _ _ g3)
    have G5 := Lib.hid hH8.get
    have HH8 := Lib.hid hH8.tail.tail
    have HR5 := Lib.hid hR'
    clear hH' hH5 hH6 hH7 hH8 hR' HH4 c2 g1
    go_wp2_with (first | (with_reducible refine ldP (.tmp 6) w1.heap.size (.slice A9 p.b.length c9) p rfl g2 ?_) | (with_reducible refine stP (.tmp 4) (.tmp 26) w.heap.size (.slice A9 p.b.length c9) (.slice none 0 0) p pk0 rfl rfl rfl g3 ?_))
    refine bodyPost_ret (v := .tuple #[.agg (pkC (.slice A9 p.b.length c9) p), .bool true]) (res11 _ _ _ _ _ w.heap.size rfl rfl G5.out) rfl ⟨_, hv, rfl, HRV.out, (g, netO m.nodes m.room (.slice A5 (L.length - 1) c5) mb) :: (mb, o) :: (h' ++ (p1 ++ p2)), ?_, ?_⟩
    · refine ⟨mb, o, _, L.take k ++ L.drop (k + 1), h', p1 ++ p2, HM.out, ?_, HP1.out.app HP2.out, ?_, rfl, ok_off HOK.out k⟩
      · have e : (L.take k ++ L.drop (k + 1)).length = L.length - 1 := by rw [List.length_append, List.length_take, List.length_drop]; omega
        rw [e, pksV_app, ← pksV_take, ← pksV_drop]
        exact HR5.out
      · show m.l.take k ++ m.l.drop (k + 1) = _
        rw [HML.out, List.map_append, List.map_take, List.map_drop]
    · have hx := HH8.out
      rw [HPE.out] at hx
      have hy : Holds w0 (px ++ ((g, netO m.nodes m.room (.slice A5 (L.length - 1) c5) mb) :: (mb, o) :: (h' ++ (p1 ++ p2)) ++ (hv ++ F))) _ := hx.perm (by classical rw [List.perm_iff_count]; intro a; simp only [List.count_append, List.count_cons, List.count_nil]; omega)
      exact hy.right
theorem lose_calls (g : Nat) (m : NM) (h F : Hp) (k : Int) (w0 w : World) (hI : IsN g m h) (H : Holds w0 (h ++ F) w) :
    Calls Try.prog 14 #[.pointer (some ⟨g, 0, none⟩), .int .i64 k] w fun e w' => e = .returned (.bool (atM m k).isSome) ∧ ∃ h', IsN g (takeM m k) h' ∧ Holds w0 (h' ++ F) w' := by
  have HT := Lib.hid (take_calls g m h F k w0 w hI H)
  clear hI H
  go_enter Try.func14, Try.ntmps14
  go_wp2_with fail
  refine HT.out.mono ?_
  rintro e w1 ⟨v, hv, rfl, hRv, h', hI, hH⟩
  obtain ⟨A9, c9, rfl, _, _⟩ := RowB.form hRv
  have hH2 := hH.alloc (.cells #[.int .i64 0, .int .i64 0, .slice none 0 0] 31)
  have g1 : (w1.alloc (.cells #[.int .i64 0, .int .i64 0, .slice none 0 0] 31)).heap[w1.heap.size]? = some (.cells (pkC (.slice none 0 0) pk0) 31 (0, 0)) := hH2.get
  have HI := Lib.hid hI
  obtain ⟨p, hp⟩ : ∃ p, p = (atM m k).getD pk0 := ⟨_, rfl⟩
  rw [← hp] at hRv ⊢
  have hH3 := hH2.turn (row_grown _ w1.heap.size (pkC (.slice A9 p.b.length c9) p)) (setRow_heap _ _ _ _ _ _ g1)
  have HH3 := Lib.hid hH3.tail
  clear hH hH2 hH3 hRv HT hI hp
  go_wp2_with (first | (with_reducible refine stP (.tmp 5) (.tmp 11) w1.heap.size (.slice A9 p.b.length c9) (.slice none 0 0) p pk0 rfl rfl rfl g1 ?_))
  go_ret
  exact ⟨rfl, h', HI.out, HH3.out.sub ((List.Sublist.refl _).append (List.sublist_append_right _ _))⟩
end Go.Proofs.Ytopnbhinifejkaa
