/- A net in its blocks: packets in a row, ways that are cut in a map; New, Len: contracts for every world. Conditions: each theorem's own. -/
import Derived.Test.YtopnbhinifejkaaPk
import Derived.Test.YtopnbhinifejkaaQt
import Derived.Test.YtopnbhinifejkaaRi
import Derived.DeepKeys4
namespace Go.Proofs.Ytopnbhinifejkaa
open Go.RowKit Go.Proofs.Ytopnbhinifejkaa.Sp
set_option linter.unusedVariables false
set_option linter.unusedSimpArgs false
abbrev PE := Value × Pk
def pksV (L : List PE) : List Value := L.flatMap fun x => (pkC x.1 x.2).toList
def PksR : List PE → Hp → Prop
  | [], h => h = []
  | x :: L, h => ∃ h1 h2, RowB 5 1 x.1 x.2.b.length (bv x.2.b) h1 ∧ PksR L h2 ∧ h = h1 ++ h2
theorem pksV_len : ∀ L : List PE, (pksV L).length = L.length * 3
  | [] => rfl
  | x :: L => by
    have := pksV_len L
    simp only [pksV, List.flatMap_cons, List.length_append, List.length_cons] at this ⊢
    rw [this]
    simp [pkC]
    omega
theorem pksV_app (L M : List PE) : pksV (L ++ M) = pksV L ++ pksV M := by simp [pksV]
theorem pksV_get : ∀ (L : List PE) (k : Nat) (x : PE), L[k]? = some x → ∀ j, j < 3 → (pksV L)[k * 3 + j]? = (pkC x.1 x.2)[j]?
  | [], k, x, h, _, _ => by simp at h
  | y :: L, 0, x, h, j, hj => by
    obtain rfl : y = x := by simpa using h
    simp only [pksV, List.flatMap_cons, Nat.zero_mul, Nat.zero_add]
    rw [List.getElem?_append_left (by simpa [pkC] using hj)]
    simp
  | y :: L, k + 1, x, h, j, hj => by
    have ih := pksV_get L k x (by simpa using h) j hj
    simp only [pksV, List.flatMap_cons] at ih ⊢
    rw [List.getElem?_append_right (by simp [pkC]; omega)]
    rw [show (k + 1) * 3 + j - (pkC y.1 y.2).toList.length = k * 3 + j by simp [pkC]; omega]
    exact ih
theorem PksR.app {L M : List PE} {h k : Hp} (H : PksR L h) (K : PksR M k) : PksR (L ++ M) (h ++ k) := by
  induction L generalizing h with
  | nil => obtain rfl : h = [] := H; exact K
  | cons x L ih =>
    obtain ⟨h1, h2, a, b, rfl⟩ := H
    exact ⟨h1, h2 ++ k, a, ih b, by simp⟩
theorem PksR.mid {L1 L2 : List PE} {x : PE} {h : Hp} : PksR (L1 ++ x :: L2) h ↔ ∃ h1 hx h2, PksR L1 h1 ∧ RowB 5 1 x.1 x.2.b.length (bv x.2.b) hx ∧ PksR L2 h2 ∧ h = h1 ++ (hx ++ h2) := by
  induction L1 generalizing h with
  | nil =>
    constructor
    · rintro ⟨h1, h2, a, b, rfl⟩
      exact ⟨[], h1, h2, rfl, a, b, rfl⟩
    · rintro ⟨h1, hx, h2, rfl, a, b, rfl⟩
      exact ⟨hx, h2, a, b, rfl⟩
  | cons y L1 ih =>
    constructor
    · rintro ⟨h1, h2, a, b, rfl⟩
      obtain ⟨g1, gx, g2, c1, c2, c3, rfl⟩ := ih.mp b
      exact ⟨h1 ++ g1, gx, g2, ⟨h1, g1, a, c1, rfl⟩, c2, c3, by simp⟩
    · rintro ⟨h1, hx, h2, ⟨g1, g2, a, b, rfl⟩, c, d, rfl⟩
      exact ⟨g1, g2 ++ (hx ++ h2), a, ih.mpr ⟨g2, hx, h2, b, c, d, rfl⟩, by simp⟩
theorem pks_one : ∀ L : List PE, (∀ x ∈ L, x.1.oneCell' = true) → ∀ u ∈ pksV L, u.oneCell' = true := by
  intro L h u hu
  obtain ⟨x, hx, hu⟩ := List.mem_flatMap.mp hu
  simp only [pkC, List.mem_cons, List.not_mem_nil, or_false] at hu
  rcases hu with rfl | rfl | rfl
  · rfl
  · rfl
  · exact h x hx
def boolR : Value → Option (DataW Unit × List MemPlace)
  | .bool b => some (.lit (.bool b), [])
  | _ => none
structure NM where
  nodes : Int
  room : Int
  l : List Pk
  cut : List (Lit × DataW Unit)
structure NM.ok (m : NM) : Prop where
  nodes : 1 ≤ m.nodes ∧ m.nodes ≤ 64
  room : 1 ≤ m.room ∧ m.room ≤ 65536
  len : (m.l.length : Int) ≤ m.room
  small : ∀ p ∈ m.l, p.b.length ≤ 1000
  wf : ∀ p ∈ m.l, (Lit.int .i64 p.fr).wf = true ∧ (Lit.int .i64 p.dt).wf = true
def IsN (g : Nat) (m : NM) (h : Hp) : Prop := ∃ mb o v L hr hp, MapB Try.prog 59 boolR o m.cut ∧ RowB 31 3 v L.length (pksV L) hr ∧ PksR L hp ∧ m.l = L.map (·.2) ∧ h = (g, netO m.nodes m.room v mb) :: (mb, o) :: (hr ++ hp) ∧ m.ok
theorem new_calls (nodes room : Int) (hn : 1 ≤ nodes ∧ nodes ≤ 64) (hr : 1 ≤ room ∧ room ≤ 65536) (w0 w : World) (F : Hp) (H : Holds w0 F w) :
    Calls Try.prog 7 #[.int .i64 nodes, .int .i64 room] w fun e w' => ∃ g, e = .returned (.tuple #[.pointer (some ⟨g, 0, none⟩), .int .i64 0]) ∧ ∃ h, IsN g ⟨nodes, room, [], []⟩ h ∧ Holds w0 (h ++ F) w' := by
  have h1 : ¬ room < 1 := by omega
  have h2 : ¬ 65536 < room := by omega
  have h3 : ¬ nodes < 1 := by omega
  have h4 : ¬ 64 < nodes := by omega
  have HH := Lib.hid H
  clear H
  have hmk : (Instr.makeMap 55 none).run Try.prog w = .ok (.map (some w.heap.size)) (w.alloc (.map #[] 0)) := rfl
  go_enter Try.func7, Try.ntmps7
  go_wp2
  go_ret2
  refine ⟨_, rfl, _, ⟨w.heap.size, _, .slice none 0 0, [], [], [], MapB.empty _ _ _, RowB.nil _ _, rfl, rfl, rfl, ⟨hn, hr, by simp; omega, by simp, by simp⟩⟩, ?_⟩
  exact HH.out.alloc2 _ _
theorem new_no (nodes room : Int) (h : nodes < 1 ∨ 64 < nodes ∨ room < 1 ∨ 65536 < room) (w : World) :
    Calls Try.prog 7 #[.int .i64 nodes, .int .i64 room] w fun e w' => e = .returned (.tuple #[.pointer none, .int .i64 1]) ∧ w' = w := by
  by_cases h1 : nodes < 1
  · go_enter Try.func7, Try.ntmps7
    go_wp2
    go_ret2
    exact ⟨rfl, rfl⟩
  · by_cases h2 : 64 < nodes
    · go_enter Try.func7, Try.ntmps7
      go_wp2
      go_ret2
      exact ⟨rfl, rfl⟩
    · by_cases h3 : room < 1
      · go_enter Try.func7, Try.ntmps7
        go_wp2
        go_ret2
        exact ⟨rfl, rfl⟩
      · have h4 : 65536 < room := by omega
        go_enter Try.func7, Try.ntmps7
        go_wp2
        go_ret2
        exact ⟨rfl, rfl⟩
theorem len_calls (g : Nat) (m : NM) (h F : Hp) (w0 w : World) (hI : IsN g m h) (H : Holds w0 (h ++ F) w) : Calls Try.prog 12 #[.pointer (some ⟨g, 0, none⟩)] w fun e w' => e = .returned (.int .i64 m.l.length) ∧ w' = w := by
  obtain ⟨mb, o, v, L, hr, hp, hM, hR, hP, hl, rfl, hok⟩ := hI
  obtain ⟨A, c, rfl, _, _⟩ := RowB.form hR
  have c2 : w.cell? ⟨g, 2, none⟩ = some (.slice A L.length c) := H.cell 2
  have e : m.l.length = L.length := by rw [hl]; simp
  rw [e]
  clear H hM hR hP hl hok e
  go_enter Try.func12, Try.ntmps12
  go_wp2
  go_ret
  exact ⟨rfl, rfl⟩
theorem key59 : Go.Maps.Keyed Try.prog 59 := Go.Maps.Keyed.of_law (deep_law_laid (by kernel_rfl) (m := 2) (by omega) (of_decide_eq_true (by kernel_rfl)) (by kernel_rfl) (by kernel_rfl))
def wayK (a b : Int) : Lit := .string (keyBytes [.int .i64 (if a < b then a else b), .int .i64 (if a < b then b else a)])
theorem key_two (x y : Int) (hx : (Lit.int .i64 x).wf = true) (hy : (Lit.int .i64 y).wf = true) : keyOf Try.prog 59 (.agg #[.int .i64 x, .int .i64 y]) = some (.string (keyBytes [.int .i64 x, .int .i64 y])) := by
  have h1 : Try.prog.keyType 59 = true := by kernel_rfl
  have h2 : Try.prog.cellsOf 59 = 2 := by kernel_rfl
  have h3 : Try.prog.cellsOf 3 = 1 := by kernel_rfl
  have h4 : Try.prog.types.size = 80 := by kernel_rfl
  have e : ∀ z, (Lit.int .i64 z).wf = true → Try.prog.keyLits 80 3 [.int .i64 z] = some [.int .i64 z] := fun z hz => by
    unfold Program.keyLits
    rw [Try.underlying3]
    simp [hz]
  unfold keyOf
  rw [Try.underlying59]
  simp only [h1, Value.formed, Try.underlying59, h2, h4]
  unfold Program.keyLits
  rw [Try.underlying59]
  simp only [h2, h3, Value.cells]
  simp [List.range_succ, e x hx, e y hy]
theorem way_key (a b : Int) (ha : (Lit.int .i64 a).wf = true) (hb : (Lit.int .i64 b).wf = true) : keyOf Try.prog 59 (.agg (wayC a b)) = some (wayK a b) := by
  unfold wayK wayC
  by_cases h : a < b
  · simp only [h, if_true]
    exact key_two a b ha hb
  · simp only [h, if_false]
    exact key_two b a hb ha
def NM.isCut (m : NM) (a b : Int) : Bool := match (DataW.map m.cut).atKey (wayK a b) (.lit (.bool false)) with | .lit (.bool x) => x | _ => false
theorem look_way {w : World} {mb : Nat} {o : Obj} {m : NM} (a b : Int) (ha : (Lit.int .i64 a).wf = true) (hb : (Lit.int .i64 b).wf = true) (H : w.heap[mb]? = some o) (hM : MapB Try.prog 59 boolR o m.cut) :
    (Instr.lookup 55 (.map (some mb)) (.agg (wayC a b)) false).run Try.prog w = .ok (.bool (m.isCut a b)) w := by
  obtain ⟨v, ps, h1, h2⟩ := mp_look H hM key59 Try.underlying55 (Try.zeroValue4 w) (zd := .lit (.bool false)) (zp := []) rfl (way_key a b ha hb)
  rw [h1]
  unfold NM.isCut
  unfold boolR at h2
  split at h2
  · injection h2 with h2
    injection h2 with h2 h3
    rw [← h2]
  · cases h2
end Go.Proofs.Ytopnbhinifejkaa
