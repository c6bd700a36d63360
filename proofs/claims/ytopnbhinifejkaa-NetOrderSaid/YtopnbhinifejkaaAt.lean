/- A net's At: a packet that waits, copied: a contract for every world. Conditions: each theorem's own. -/
import Derived.Test.YtopnbhinifejkaaNt
namespace Go.Proofs.Ytopnbhinifejkaa
open Go.RowKit Go.Proofs.Ytopnbhinifejkaa.Sp
set_option linter.unusedVariables false
set_option linter.unusedSimpArgs false
theorem RowB.at_ {e : TypeId} {sz n : Nat} {v : Value} {xs : List Value} {h : Hp} (R : RowB e sz v n xs h) (hn : 0 < n) : ∃ gL c, v = .slice (some ⟨gL, 0, none⟩) n c ∧ n ≤ c ∧ ∀ w0 F w, Holds w0 (h ++ F) w → ∀ j u, xs[j]? = some u → w.cell? ⟨gL, j, none⟩ = some u := by
  have R' := R
  obtain ⟨h1, ⟨rfl, rfl, rfl⟩ | ⟨g, cap, cur, rfl, rfl, h2, h3, h4, h5⟩⟩ := R
  · omega
  · refine ⟨g, cap, rfl, h2, fun w0 F w H j u hj => ?_⟩
    obtain ⟨A, c, hv, _, _, hr⟩ := R'.reads H
    injection hv with hv
    subst hv
    have := hr.2.2 _ rfl j u hj
    have e : (⟨g, 0, none⟩ : Addr).add j = ⟨g, j, none⟩ := by simp [Addr.add]; omega
    rwa [e] at this
/-- The packet at place k: where it lies. -/
theorem pk_at {w0 w : World} {L : List PE} {v : Value} {hr hp F : Hp} (R : RowB 31 3 v L.length (pksV L) hr) (P : PksR L hp) (k : Nat) (hk : k < L.length) : ∃ gL c x A c' hx hp', v = .slice (some ⟨gL, 0, none⟩) L.length c ∧ L.length ≤ c ∧ L[k]? = some x ∧ x.1 = .slice A x.2.b.length c' ∧ (A = none → c' = 0) ∧ RowB 5 1 x.1 x.2.b.length (bv x.2.b) hx ∧ hp.Perm (hx ++ hp') ∧
    ∀ w0 F w, Holds w0 (hr ++ F) w → w.cell? ⟨gL, k * 3, none⟩ = some (.int .i64 x.2.fr) ∧ w.cell? ⟨gL, k * 3 + 1, none⟩ = some (.int .i64 x.2.dt) ∧ w.cell? ⟨gL, k * 3 + 2, none⟩ = some x.1 := by
  obtain ⟨gL, c, hv, hc, hcs⟩ := RowB.at_ R (by omega)
  obtain ⟨x, hx⟩ : ∃ x, L[k]? = some x := ⟨_, List.getElem?_eq_getElem hk⟩
  have hsp : L = L.take k ++ x :: L.drop (k + 1) := by
    have h := List.take_append_drop k L
    rw [List.drop_eq_getElem_cons hk] at h
    have e : L[k] = x := by
      rw [List.getElem?_eq_getElem hk] at hx
      exact Option.some.inj hx
    rw [e] at h
    exact h.symm
  rw [hsp] at P
  obtain ⟨h1, hx', h2, _, b, _, rfl⟩ := PksR.mid.mp P
  obtain ⟨A, c', hA, _, hA2⟩ := RowB.form b
  refine ⟨gL, c, x, A, c', hx', h1 ++ h2, hv, hc, hx, hA, hA2, b, ?_, fun w0 F w H => ?_⟩
  · rw [← List.append_assoc, ← List.append_assoc]
    exact List.perm_append_comm.append_right h2
  · have g := pksV_get L k x hx
    have h0 := g 0 (by omega); have h1 := g 1 (by omega); have h2 := g 2 (by omega)
    exact ⟨hcs w0 F w H _ _ h0, hcs w0 F w H _ _ h1, hcs w0 F w H _ _ h2⟩
def atM (m : NM) (k : Int) : Option Pk := if 0 ≤ k then m.l[k.toNat]? else none
theorem res13 (tmps : Array Value) (W : World) (v : Value) (p : Pk) (b : Bool) (g : Nat) (h4 : tmps.getD 4 undef = .pointer (some ⟨g, 0, none⟩)) (h5 : tmps.getD 5 undef = .bool b) (H : W.heap[g]? = some (.cells (pkC v p) 31 (0, 0))) :
    (results Try.f13 tmps).run Try.prog W = .ok (.tuple #[.agg (pkC v p), .bool b]) W := by
  have hr := run_loadVar_row (P := Try.prog) W g 31 31 (pkC v p) (0, 0) _ H Try.underlying31 rfl (info31 v p)
  rw [results_cell_tmp Try.results13, h4, h5]
  simp [asAddr, hr, Result.andThen]
def pk0 : Pk := ⟨0, 0, []⟩
set_option maxRecDepth 100000 in
set_option maxHeartbeats 4000000 in
theorem at_calls (g : Nat) (m : NM) (h F : Hp) (k : Int) (w0 w : World) (hI : IsN g m h) (H : Holds w0 (h ++ F) w) :
    Calls Try.prog 13 #[.pointer (some ⟨g, 0, none⟩), .int .i64 k] w fun e w' => ∃ v hv, e = .returned (.tuple #[.agg (pkC v ((atM m k).getD pk0)), .bool (atM m k).isSome]) ∧ RowB 5 1 v ((atM m k).getD pk0).b.length (bv ((atM m k).getD pk0).b) hv ∧ Holds w0 (h ++ (hv ++ F)) w' := by
  obtain ⟨mb, o, v, L, hr, hp, hM, hR, hP, hml, rfl, hok⟩ := hI
  have hlen : m.l.length = L.length := by rw [hml]; simp
  have H1 := H.alloc (.cells (pkC (.slice none 0 0) pk0) 31)
  obtain ⟨b0, hb0⟩ : ∃ b0, b0 = w.heap.size := ⟨_, rfl⟩
  rw [← hb0] at H1
  obtain ⟨AL, cL, hvf, _, _⟩ := RowB.form hR
  by_cases hk : 0 ≤ k ∧ k < L.length
  · obtain ⟨k, rfl⟩ : ∃ k' : Nat, k = k' := ⟨k.toNat, by omega⟩
    obtain ⟨gL, c, x, A, c', hx, hp', rfl, hlc, hxk, hA, hA2, RX, hpp, hcs⟩ := pk_at (w0 := w0) (w := w) (F := F) hR hP k (by omega)
    have hq : atM m k = some x.2 := by
      unfold atM
      rw [if_pos hk.1, hml, Int.toNat_natCast, List.getElem?_map, hxk]
      rfl
    rw [hq]
    simp only [Option.getD_some, Option.isSome_some]
    have hlt : k < L.length := by omega
    have h1 : Holds w0 (hr ++ ((b0, .cells (pkC (.slice none 0 0) pk0) 31) :: (g, netO m.nodes m.room (.slice (some ⟨gL, 0, none⟩) L.length c) mb) :: (mb, o) :: (hp ++ F))) (w.alloc (.cells (pkC (.slice none 0 0) pk0) 31)) := H1.perm (by classical rw [List.perm_iff_count]; intro a; simp only [List.count_append, List.count_cons, List.count_nil]; omega)
    have hsm : x.2.b.length ≤ 1000 := hok.small x.2 (by rw [hml]; exact List.mem_map.mpr ⟨x, List.mem_of_getElem? hxk, rfl⟩)
    have q := hcs _ _ _ h1
    rw [hA] at q RX
    have q0 := q.1; have q1 := q.2.1; have q2 := q.2.2
    have c2 : (w.alloc (.cells (pkC (.slice none 0 0) pk0) 31)).cell? ⟨g, 2, none⟩ = some (.slice (some ⟨gL, 0, none⟩) L.length c) := H1.tail.cell 2
    have hhas := has_calls g m.nodes m.room k (some ⟨gL, 0, none⟩) L.length c mb _ H1.tail.get
    rw [decide_eq_true hk] at hhas
    have HHAS := Lib.hid hhas
    have h2 : Holds w0 (hx ++ (hp' ++ (hr ++ ((b0, .cells (pkC (.slice none 0 0) pk0) 31) :: (g, netO m.nodes m.room (.slice (some ⟨gL, 0, none⟩) L.length c) mb) :: (mb, o) :: F)))) (w.alloc (.cells (pkC (.slice none 0 0) pk0) 31)) := by
      refine h1.perm (?_ : List.Perm (hr ++ (_ :: _ :: _ :: (hp ++ F))) _)
      refine ((((hpp.append_right F).cons _).cons _).cons _).append_left hr |>.trans ?_
      classical rw [List.perm_iff_count]; intro a; simp only [List.count_append, List.count_cons, List.count_nil]; omega
    obtain ⟨A', c'', hv', _, _, hrd⟩ := RX.reads h2
    injection hv' with e1 _ e2
    subst e1
    subst e2
    have HRD := Lib.hid hrd
    have HH := Lib.hid H1
    have HR := Lib.hid hR
    subst hb0
    clear hM hR hP hml hok H H1 h1 h2 RX hpp hcs q hrd hhas hq hvf
    go_enter Try.func13, Try.ntmps13
    go_wp2_with fail
    refine HHAS.out.mono ?_
    rintro e w1 ⟨rfl, rfl⟩
    go_wp2_with fail
    refine (copied_calls (.slice A x.2.b.length c') x.2 A c' w0 _ _ rfl hA2 HRD.out (by omega) HH.out).mono ?_
    rintro e w2 ⟨v', rfl, hv, hRv, hH⟩
    obtain ⟨A9, c9, rfl, _, _⟩ := RowB.form hRv
    have h3 : Holds w0 ((w.heap.size, .cells (pkC (.slice none 0 0) pk0) 31) :: (((g, netO m.nodes m.room (.slice (some ⟨gL, 0, none⟩) L.length c) mb) :: (mb, o) :: (hr ++ hp)) ++ (hv ++ F))) w2 := hH.perm (by classical rw [List.perm_iff_count]; intro a; simp only [List.count_append, List.count_cons, List.count_nil]; omega)
    have g1 : w2.heap[w.heap.size]? = some (.cells (pkC (.slice none 0 0) pk0) 31 (0, 0)) := h3.get
    have h4 := h3.turn (row_grown w2 w.heap.size (pkC (.slice A9 x.2.b.length c9) x.2)) (setRow_heap _ _ _ _ _ _ g1)
    have g2 := Lib.hid h4.get
    have HH4 := Lib.hid h4.tail
    have HRV := Lib.hid hRv
    clear hH h3 h4 hRv HH
    go_wp2_with ((with_reducible refine stP (.tmp 4) (.tmp 18) w.heap.size (.slice A9 x.2.b.length c9) (.slice none 0 0) x.2 pk0 rfl rfl rfl g1 ?_))
    refine bodyPost_ret (v := .tuple #[.agg (pkC (.slice A9 x.2.b.length c9) x.2), .bool true]) (res13 _ _ _ _ _ w.heap.size rfl rfl g2.out) rfl ⟨_, hv, rfl, HRV.out, HH4.out⟩
  · have hq : atM m k = none := by
      unfold atM
      by_cases h0 : 0 ≤ k
      · rw [if_pos h0, hml, List.getElem?_map, List.getElem?_eq_none (by omega)]
        rfl
      · rw [if_neg h0]
    rw [hq]
    simp only [Option.getD_none, Option.isSome_none]
    subst hvf
    have hhas := has_calls g m.nodes m.room k AL L.length cL mb _ H1.tail.get
    rw [decide_eq_false hk] at hhas
    have HHAS := Lib.hid hhas
    have g1 : (w.alloc (.cells (pkC (.slice none 0 0) pk0) 31)).heap[w.heap.size]? = some (.cells (pkC (.slice none 0 0) pk0) 31 (0, 0)) := by rw [← hb0]; exact H1.get
    have h4 := H1.turn (row_grown _ b0 (pkC (.slice none 0 0) pk0)) (by rw [hb0]; exact setRow_heap _ _ _ _ _ _ g1)
    have g2 := Lib.hid h4.get
    have HH4 := Lib.hid h4.tail
    subst hb0
    clear hM hR hP hml hok H H1 h4 hhas hq hk
    go_enter Try.func13, Try.ntmps13
    go_wp2_with fail
    refine HHAS.out.mono ?_
    rintro e w1 ⟨rfl, rfl⟩
    go_wp2_with ((with_reducible refine stP (.tmp 4) (.tmp 10) w.heap.size (.slice none 0 0) (.slice none 0 0) pk0 pk0 rfl rfl rfl g1 ?_))
    refine bodyPost_ret (v := .tuple #[.agg (pkC (.slice none 0 0) pk0), .bool false]) (res13 _ _ _ _ _ w.heap.size rfl rfl g2.out) rfl ⟨_, [], rfl, RowB.nil _ _, HH4.out⟩
end Go.Proofs.Ytopnbhinifejkaa
