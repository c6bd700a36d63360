/- A chain's methods: contracts for every world. Conditions: each theorem's own. -/
import Derived.Test.YtgkigcobaimccaaPt
namespace Go.Proofs.Ytgkigcobaimccaa
open Go.RowKit Go.Proofs.Ytgkigcobaimccaa.Sp
set_option linter.unusedVariables false
set_option linter.unusedSimpArgs false
theorem rcmp_calls (t n u k : Int) (w : World) :
    Calls Try.prog 9 #[.agg #[.int .i64 t, .int .u8 n], .agg #[.int .i64 u, .int .u8 k]] w fun e w' => e = .returned (.int .i64 (cs t n u k)) ∧ Below w.heap.size w w' := by
  have BA := Lib.hid (((Below.refl w.heap.size w).alloc (Nat.le_refl _) (.cells #[.int .i64 t, .int .u8 n] 24)).alloc (by simp) (.cells #[.int .i64 u, .int .u8 k] 24))
  by_cases h1 : t < u
  · rw [show cs t n u k = -1 by unfold cs c2; simp [if_pos h1]]
    go_enter Try.func9, Try.ntmps9
    go_wp2_with fail
    go_ret
    exact ⟨rfl, BA.out⟩
  · by_cases h2 : u < t
    · rw [show cs t n u k = 1 by unfold cs c2; simp [if_neg h1, if_pos h2]]
      have h3 : ¬ t = u := by omega
      go_enter Try.func9, Try.ntmps9
      go_wp2_with fail
      go_ret
      exact ⟨rfl, BA.out⟩
    · obtain rfl : t = u := by omega
      by_cases h3 : n < k
      · rw [show cs t n t k = -1 by unfold cs c2; simp [if_pos h3]]
        go_enter Try.func9, Try.ntmps9
        go_wp2_with fail
        go_ret
        exact ⟨rfl, BA.out⟩
      · by_cases h4 : k < n
        · rw [show cs t n t k = 1 by unfold cs c2; simp [if_neg h3, if_pos h4]]
          have h5 : ¬ n = k := by omega
          go_enter Try.func9, Try.ntmps9
          go_wp2_with fail
          go_ret
          exact ⟨rfl, BA.out⟩
        · obtain rfl : n = k := by omega
          rw [show cs t n t n = 0 by unfold cs c2; simp]
          go_enter Try.func9, Try.ntmps9
          go_wp2_with fail
          go_ret
          exact ⟨rfl, BA.out⟩
theorem info30 (v : Ver) : (Try.prog.info? 30).map (·.size) = some (vC v).size := by kernel_rfl
theorem info24 (t n : Int) : (Try.prog.info? 24).map (·.size) = some (sC t n).size := by kernel_rfl
/-- A version that lies in a block of its own, loaded, stored. -/
theorem ldV {ops : Array Oper} {rest : List Oper} {dst : Option Tmp} {ty : TypeId} {pos : String} {af : Array Edge} {a : Act} {w : World} {Q : Exit → Act → World → Prop} (x : Operand) (g : Nat) (v : Ver)
    (hx : a.eval x = .pointer (some ⟨g, 0, none⟩)) (hg : w.heap[g]? = some (.cells (vC v) 30 (0, 0)))
    (hh : wpList Try.prog ops Q rest (a.put dst (.agg (vC v))) w) : wpList Try.prog ops Q ({ dst := dst, op := .load 30 x, type := ty, pos := pos, after := af, guard := none } :: rest) a w :=
  wpList_load_row rfl 30 x rfl g hx 30 (vC v) (0, 0) _ hg Try.underlying30 rfl (info30 v) hh
theorem stV {ops : Array Oper} {rest : List Oper} {dst : Option Tmp} {ty : TypeId} {pos : String} {af : Array Edge} {a : Act} {w : World} {Q : Exit → Act → World → Prop} (x y : Operand) (g : Nat) (v v' : Ver)
    (hx : a.eval x = .pointer (some ⟨g, 0, none⟩)) (hy : a.eval y = .agg (vC v)) (hg : w.heap[g]? = some (.cells (vC v') 30 (0, 0)))
    (hh : wpList Try.prog ops Q rest (a.put dst undef) (w.setRow g (vC v))) : wpList Try.prog ops Q ({ dst := dst, op := .store 30 x y, type := ty, pos := pos, after := af, guard := none } :: rest) a w :=
  wpList_store_row rfl 30 x y rfl g (vC v) hx hy 30 (vC v') hg (info30 v) rfl (by simp [vC, Value.oneCell']) hh
theorem time_calls (t : Int) (w : World) : Calls Try.prog 20 #[.int .i64 t] w fun e w' => e = .returned (.agg (sC t 0)) ∧ Below w.heap.size w w' := by
  go_enter Try.func20, Try.ntmps20
  go_wp2
  exact bodyPost_ret (v := .agg (sC t 0)) (results_cell_row Try.results20 _ _ w.heap.size 24 _ (0, 0) _ rfl (heap_alloc_new w (.cells (sC t 0) 24)) Try.underlying24 rfl (info24 _ _)) rfl ⟨rfl, (Below.refl _ w).alloc (Nat.le_refl _) _⟩
theorem new_calls (w0 w : World) (F : Hp) (H : Holds w0 F w) : Calls Try.prog 10 #[] w fun e w' => ∃ g, e = .returned (.pointer (some ⟨g, 0, none⟩)) ∧ ∃ h, IsC g [] h ∧ Holds w0 (h ++ F) w' := by
  have HH := Lib.hid H
  clear H
  go_enter Try.func10, Try.ntmps10
  go_wp2
  go_ret
  exact ⟨_, rfl, _, ⟨.slice none 0 0, [], RowB.nil _ _, rfl, List.Pairwise.nil, by simp⟩, HH.out.alloc _⟩
theorem len_calls (g : Nat) (l : List Ver) (h F : Hp) (w0 w : World) (hI : IsC g l h) (H : Holds w0 (h ++ F) w) : Calls Try.prog 17 #[.pointer (some ⟨g, 0, none⟩)] w fun e w' => e = .returned (.int .i64 l.length) ∧ w' = w := by
  obtain ⟨v, hr, hR, rfl, hri, hl⟩ := hI
  obtain ⟨A, c, rfl, _, _⟩ := RowB.form hR
  have c2 : w.cell? ⟨g, 0, none⟩ = some (.slice A l.length c) := H.cell 0
  clear H hR hri
  go_enter Try.func17, Try.ntmps17
  go_wp2
  go_ret
  exact ⟨rfl, rfl⟩
set_option maxRecDepth 100000 in
theorem until_calls (g : Nat) (l : List Ver) (t n : Int) (h F : Hp) (w0 w : World) (hI : IsC g l h) (H : Holds w0 (h ++ F) w) :
    Calls Try.prog 29 #[.pointer (some ⟨g, 0, none⟩), .agg (sC t n)] w fun e w' => e = .returned (.int .i64 (untilN l t n)) ∧ Below w.heap.size w w' := by
  have H0 := H.alloc (.cells (sC t n) 24)
  have q0 : (w.alloc (.cells (sC t n) 24)).cell? ⟨w.heap.size, 0, none⟩ = some (.int .i64 t) := H0.cell 0
  have q1 : (w.alloc (.cells (sC t n) 24)).cell? ⟨w.heap.size, 1, none⟩ = some (.int .u8 n) := H0.cell 1
  have HB0 := Lib.hid (show Below w.heap.size w (w.alloc (.cells (sC t n) 24)) from (Below.refl _ w).alloc (Nat.le_refl _) _)
  have HP := Lib.hid (place_calls g l t n h ((w.heap.size, .cells (sC t n) 24) :: F) w0 (w.alloc (.cells (sC t n) 24)) hI (H0.perm (by classical rw [List.perm_iff_count]; intro a; simp only [List.count_append, List.count_cons, List.count_nil]; omega)))
  have hll : (lo l t n).length ≤ l.length := lo_len l t n
  have hl50 : l.length ≤ 50 := by obtain ⟨_, _, _, _, _, h⟩ := hI; exact h
  have HU := Lib.hid (show untilN l t n = (lo l t n).length + if found l t n then 1 else 0 from rfl)
  obtain ⟨P, hP⟩ : ∃ P, P = (lo l t n).length := ⟨_, rfl⟩
  obtain ⟨fb, hfb⟩ : ∃ fb, fb = found l t n := ⟨_, rfl⟩
  rw [← hP] at HP HU hll
  rw [← hfb] at HP HU
  have hwr : IntKind.i64.wrap ((P : Int) + 1) = (P : Int) + 1 := by rw [IntKind.wrap_i64]; omega
  clear hI H H0 hP hfb
  cases fb
  · go_enter Try.func29, Try.ntmps29
    go_wp2_with fail
    refine HP.out.mono ?_
    rintro e w1 ⟨rfl, hb⟩
    have HB1 := Lib.hid (HB0.out.trans (hb.mono HB0.out.size))
    clear hb
    go_wp2_with fail
    go_ret
    exact ⟨by rw [HU.out]; rfl, HB1.out⟩
  · go_enter Try.func29, Try.ntmps29
    go_wp2_with fail
    refine HP.out.mono ?_
    rintro e w1 ⟨rfl, hb⟩
    have HB1 := Lib.hid (HB0.out.trans (hb.mono HB0.out.size))
    clear hb
    go_wp2_with fail
    go_ret
    exact ⟨by rw [HU.out]; rfl, HB1.out⟩
def v0 : Ver := ⟨0, 0, ⟨#[]⟩, false⟩
def verAt (l : List Ver) (t n : Int) : Option Ver := if untilN l t n = 0 then none else l[untilN l t n - 1]?
theorem res12 (tmps : Array Value) (W : World) (v : Ver) (b : Bool) (g : Nat) (h4 : tmps.getD 4 undef = .pointer (some ⟨g, 0, none⟩)) (h5 : tmps.getD 5 undef = .bool b) (H : W.heap[g]? = some (.cells (vC v) 30 (0, 0))) :
    (results Try.f12 tmps).run Try.prog W = .ok (.tuple #[.agg (vC v), .bool b]) W := by
  have hr := run_loadVar_row (P := Try.prog) W g 30 30 (vC v) (0, 0) _ H Try.underlying30 rfl (info30 v)
  rw [results_cell_tmp Try.results12, h4, h5]
  simp [asAddr, hr, Result.andThen]
theorem res24 (tmps : Array Value) (W : World) (v : Ver) (b : Bool) (g : Nat) (h4 : tmps.getD 2 undef = .pointer (some ⟨g, 0, none⟩)) (h5 : tmps.getD 3 undef = .bool b) (H : W.heap[g]? = some (.cells (vC v) 30 (0, 0))) :
    (results Try.f24 tmps).run Try.prog W = .ok (.tuple #[.agg (vC v), .bool b]) W := by
  have hr := run_loadVar_row (P := Try.prog) W g 30 30 (vC v) (0, 0) _ H Try.underlying30 rfl (info30 v)
  rw [results_cell_tmp Try.results24, h4, h5]
  simp [asAddr, hr, Result.andThen]
set_option maxRecDepth 100000 in
set_option maxHeartbeats 4000000 in
theorem at_calls (g : Nat) (l : List Ver) (t n : Int) (h F : Hp) (w0 w : World) (hI : IsC g l h) (H : Holds w0 (h ++ F) w) :
    Calls Try.prog 12 #[.pointer (some ⟨g, 0, none⟩), .agg (sC t n)] w fun e w' => e = .returned (.tuple #[.agg (vC ((verAt l t n).getD v0)), .bool (verAt l t n).isSome]) ∧ Below w.heap.size w w' := by
  have H0 := (show Holds w0 ((w.heap.size + 1, .cells (vC v0) 30) :: (w.heap.size, .cells (sC t n) 24) :: (h ++ F)) ((w.alloc (.cells (sC t n) 24)).alloc (.cells #[.int .i64 0, .int .u8 0, .string ⟨#[]⟩, .bool false] 30)) from H.alloc2 (.cells (sC t n) 24) (.cells (vC v0) 30))
  have q0 : ((w.alloc (.cells (sC t n) 24)).alloc (.cells #[.int .i64 0, .int .u8 0, .string ⟨#[]⟩, .bool false] 30)).cell? ⟨w.heap.size, 0, none⟩ = some (.int .i64 t) := H0.tail.cell 0
  have q1 : ((w.alloc (.cells (sC t n) 24)).alloc (.cells #[.int .i64 0, .int .u8 0, .string ⟨#[]⟩, .bool false] 30)).cell? ⟨w.heap.size, 1, none⟩ = some (.int .u8 n) := H0.tail.cell 1
  have HB0 := Lib.hid (show Below w.heap.size w ((w.alloc (.cells (sC t n) 24)).alloc (.cells #[.int .i64 0, .int .u8 0, .string ⟨#[]⟩, .bool false] 30)) from ((Below.refl _ w).alloc (Nat.le_refl _) _).alloc (by simp) _)
  have HU := Lib.hid (until_calls g l t n h ((w.heap.size + 1, .cells (vC v0) 30) :: (w.heap.size, .cells (sC t n) 24) :: F) w0 ((w.alloc (.cells (sC t n) 24)).alloc (.cells #[.int .i64 0, .int .u8 0, .string ⟨#[]⟩, .bool false] 30)) hI (H0.perm (by classical rw [List.perm_iff_count]; intro a; simp only [List.count_append, List.count_cons, List.count_nil]; omega)))
  have HVA := Lib.hid (show verAt l t n = if untilN l t n = 0 then none else l[untilN l t n - 1]? from rfl)
  have hul := until_le l t n
  obtain ⟨v, hr, hR, rfl, hri, hl⟩ := hI
  obtain ⟨U, hU⟩ : ∃ U, U = untilN l t n := ⟨_, rfl⟩
  rw [← hU] at HU HVA hul
  have HH := Lib.hid H0
  clear H H0 hU hri
  by_cases hU0 : U = 0
  · subst hU0
    have hva := HVA.out
    rw [if_pos rfl] at hva
    rw [hva]
    simp only [Option.getD_none, Option.isSome_none]
    clear hR hva
    go_enter Try.func12, Try.ntmps12
    go_wp2_with fail
    refine HU.out.mono ?_
    rintro e w1 ⟨rfl, hb⟩
    have h1 := HH.out.grow hb
    have g1 : w1.heap[w.heap.size + 1]? = some (.cells (vC v0) 30 (0, 0)) := h1.get
    have B1 := HB0.out.trans (hb.mono HB0.out.size)
    have G2 := Lib.hid (show (w1.setRow (w.heap.size + 1) (vC v0)).heap[w.heap.size + 1]? = some (.cells (vC v0) 30 (0, 0)) from setRow_heap _ _ _ _ _ _ g1)
    have HB1 := Lib.hid (B1.grown (row_grown w1 (w.heap.size + 1) (vC v0)) B1.size (by rintro k hk; injection hk with hk; omega))
    clear hb h1 B1
    go_wp2_with (with_reducible refine stV (.tmp 4) (.tmp 12) (w.heap.size + 1) v0 v0 rfl rfl g1 ?_)
    exact bodyPost_ret (v := .tuple #[.agg (vC v0), .bool false]) (res12 _ _ _ _ (w.heap.size + 1) rfl rfl G2.out) rfl ⟨rfl, HB1.out⟩
  · obtain ⟨y, hy⟩ : ∃ y, l[U - 1]? = some y := ⟨_, List.getElem?_eq_getElem (by omega)⟩
    have hva := HVA.out
    rw [if_neg hU0, hy] at hva
    rw [hva]
    simp only [Option.getD_some, Option.isSome_some]
    obtain ⟨gL, c, rfl, hlc, hcs⟩ := ver_at hR (U - 1) y hy
    obtain ⟨m, hm⟩ : ∃ m, m = U - 1 := ⟨_, rfl⟩
    rw [← hm] at hcs
    have hUm : (U : Int) - 1 = (m : Int) := by omega
    have hml : m < l.length := by omega
    have hml' : (m : Int) < (l.length : Int) := by omega
    have hU0' : ¬ (U : Int) = 0 := by omega
    have HCS := Lib.hid hcs
    clear hR hva hcs hm hy
    go_enter Try.func12, Try.ntmps12
    go_wp2_with fail
    refine HU.out.mono ?_
    rintro e w1 ⟨rfl, hb⟩
    have h1 := HH.out.grow hb
    have g1 : w1.heap[w.heap.size + 1]? = some (.cells (vC v0) 30 (0, 0)) := h1.get
    have B1 := HB0.out.trans (hb.mono HB0.out.size)
    have G2 := Lib.hid (show (w1.setRow (w.heap.size + 1) (vC y)).heap[w.heap.size + 1]? = some (.cells (vC y) 30 (0, 0)) from setRow_heap _ _ _ _ _ _ g1)
    have HB1 := Lib.hid (B1.grown (row_grown w1 (w.heap.size + 1) (vC y)) B1.size (by rintro k hk; injection hk with hk; omega))
    have c0 : w1.cell? ⟨g, 0, none⟩ = some (.slice (some ⟨gL, 0, none⟩) l.length c) := h1.tail.tail.cell 0
    obtain ⟨p0, p1, p2, p3⟩ := HCS.out w0 ((w.heap.size + 1, .cells (vC v0) 30) :: (w.heap.size, .cells (sC t n) 24) :: (g, chO (.slice (some ⟨gL, 0, none⟩) l.length c)) :: F) w1 (h1.perm (by classical rw [List.perm_iff_count]; intro a; simp only [List.count_append, List.count_cons, List.count_nil]; omega))
    clear hb h1 B1
    go_wp2_with (with_reducible refine stV (.tmp 4) (.tmp 20) (w.heap.size + 1) y v0 rfl rfl g1 ?_)
    exact bodyPost_ret (v := .tuple #[.agg (vC y), .bool true]) (res12 _ _ _ _ (w.heap.size + 1) rfl rfl G2.out) rfl ⟨rfl, HB1.out⟩
end Go.Proofs.Ytgkigcobaimccaa
