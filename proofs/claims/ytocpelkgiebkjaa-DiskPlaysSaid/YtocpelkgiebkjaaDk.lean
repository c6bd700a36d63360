/- A disk in its blocks, files by their names; finding one, the total: contracts for every world. Conditions: each theorem's own. -/
import Derived.Test.YtocpelkgiebkjaaFl
namespace Go.Proofs.Ytocpelkgiebkjaa
open Go.RowKit Go.Proofs.Ytocpelkgiebkjaa.Sp
set_option linter.unusedVariables false
set_option linter.unusedSimpArgs false
structure Fl where
  b : List UInt8
  safe : Nat
abbrev Ent := ByteArray × Nat × Fl
def flC (v : Value) (f : Fl) : Array Value := #[v, .int .i64 f.safe]
def flO (v : Value) (f : Fl) : Obj := .cells (flC v f) 59 (0, 0)
def FileR (c : Nat) (f : Fl) (h : Hp) : Prop := ∃ v hr, RowB 5 1 v f.b.length (bv f.b) hr ∧ h = (c, flO v f) :: hr
def FilesR : List Ent → Hp → Prop
  | [], h => h = []
  | x :: L, h => ∃ h1 h2, FileR x.2.1 x.2.2 h1 ∧ FilesR L h2 ∧ h = h1 ++ h2
def Es (L : List Ent) : List (Lit × DataW Unit) := L.map fun x => (.string x.1.data.toList, .lit (.int .i64 x.2.1))
def dskO (room lives : Int) (power : Bool) (mb : Nat) : Obj := .cells #[.int .i64 room, .int .i64 lives, .bool power, .map (some mb)] 55 (0, 0)
def ptrOf : Option Nat → Value
  | none => .pointer none
  | some c => .pointer (some ⟨c, 0, none⟩)
def named (s : ByteArray) : Ent → Bool := fun x => decide (x.1 = s)
theorem data_inj {a b : ByteArray} (h : a.data.toList = b.data.toList) : a = b := by cases a; cases b; simp_all
theorem at_Es (s : ByteArray) (zd : DataW Unit) : ∀ L : List Ent, (DataW.map (Es L)).atKey (.string s.data.toList) zd = match L.find? (named s) with | some x => .lit (.int .i64 x.2.1) | none => zd
  | [] => rfl
  | x :: L => by
    have ih := at_Es s zd L
    unfold DataW.atKey at ih ⊢
    simp only [Es, List.map_cons, List.find?_cons] at ih ⊢
    have e : (Lit.string x.1.data.toList).sameKey (.string s.data.toList) = named s x := by
      simp only [Lit.sameKey, named]
      by_cases h : x.1 = s
      · simp [h]
      · simp [h]
        intro h2
        exact h (data_inj (by simpa using h2))
    rw [e]
    cases hx : named s x
    · exact ih
    · rfl
theorem find_split {L : List Ent} {s : ByteArray} {x : Ent} (h : L.find? (named s) = some x) : ∃ L1 L2, L = L1 ++ x :: L2 ∧ x.1 = s ∧ ∀ y ∈ L1, y.1 ≠ s := by
  rw [List.find?_eq_some_iff_append] at h
  obtain ⟨h1, L1, L2, rfl, h2⟩ := h
  exact ⟨L1, L2, rfl, of_decide_eq_true h1, fun y hy => by simpa [named] using h2 y hy⟩
theorem look {L : List Ent} {w : World} {mb : Nat} {o : Obj} (s : ByteArray) (hs : s.size ≤ maxLen) (H : w.heap[mb]? = some o) (hM : MapB Try.prog 9 ptrR o (Es L)) :
    (Instr.lookup 53 (.map (some mb)) (.string s) false).run Try.prog w = .ok (ptrOf ((L.find? (named s)).map (·.2.1))) w := by
  obtain ⟨v, ps, h1, h2⟩ := mp_look H hM (Go.Maps.string_keyed Try.underlying9) Try.underlying53 (Try.zeroValue57 w) (zd := .nil) (zp := []) rfl (Go.WideMaps.keyOf_string_mk Try.underlying9 hs)
  rw [at_Es] at h2
  rw [h1]
  cases hf : L.find? (named s) with
  | none => rw [hf] at h2; rw [ptrR_nil h2]; rfl
  | some x => rw [hf] at h2; rw [ptrR_at h2]; rfl
theorem FilesR.mid {L1 L2 : List Ent} {x : Ent} {h : Hp} : FilesR (L1 ++ x :: L2) h ↔ ∃ h1 hx h2, FilesR L1 h1 ∧ FileR x.2.1 x.2.2 hx ∧ FilesR L2 h2 ∧ h = h1 ++ (hx ++ h2) := by
  induction L1 generalizing h with
  | nil =>
    constructor
    · rintro ⟨h1, h2, a, b, rfl⟩
      exact ⟨[], h1, h2, rfl, a, b, rfl⟩
    · rintro ⟨h1, hx, h2, rfl, a, b, rfl⟩
      exact ⟨hx, h2, a, b, rfl⟩
  | cons y L1 ih =>
    constructor
    · rintro ⟨h1, h2, a, b, rfl⟩
      obtain ⟨g1, gx, g2, c1, c2, c3, rfl⟩ := ih.mp b
      exact ⟨h1 ++ g1, gx, g2, ⟨h1, g1, a, c1, rfl⟩, c2, c3, by simp⟩
    · rintro ⟨h1, hx, h2, ⟨g1, g2, a, b, rfl⟩, c, d, rfl⟩
      exact ⟨g1, g2 ++ (hx ++ h2), a, ih.mpr ⟨g2, hx, h2, b, c, d, rfl⟩, by simp⟩
def findL (power : Bool) (L : List Ent) (s : ByteArray) : Option Nat × Int :=
  if power then (if goodN s then (match L.find? (named s) with | some x => (some x.2.1, 0) | none => (none, 4)) else (none, 1)) else (none, 7)
theorem size_of_good {s : ByteArray} (h : goodN s = true) : s.size ≤ 20 := by
  unfold goodN at h
  rw [Bool.and_eq_true] at h
  exact (of_decide_eq_true h.2).2
set_option maxRecDepth 100000 in
set_option maxHeartbeats 1000000 in
theorem find_calls (g : Nat) (room lives : Int) (power : Bool) (mb : Nat) (o : Obj) (L : List Ent) (s : ByteArray) (F : Hp) (w0 w : World) (hs : s.size ≤ 9223372036854775807) (hM : MapB Try.prog 9 ptrR o (Es L))
    (H : Holds w0 ((g, dskO room lives power mb) :: (mb, o) :: F) w) : Calls Try.prog 32 #[.pointer (some ⟨g, 0, none⟩), .string s] w fun e w' =>
      e = .returned (.tuple #[ptrOf (findL power L s).1, .int .i64 (findL power L s).2]) ∧ Below w.heap.size w w' := by
  have HM := Lib.hid hM
  have HG : w.heap[g]? = some (dskO room lives power mb) := H.get
  have HG2 := Lib.hid HG
  have HO := Lib.hid (show w.heap[mb]? = some o from H.tail.get)
  have c3 : w.cell? ⟨g, 3, none⟩ = some (.map (some mb)) := H.cell 3
  have hrd : Reads (w.alloc (.cells #[.string s] 9)) (some ⟨w.heap.size, 0, none⟩) [s].length 1 ([s].map Value.string) := by
    refine ⟨rfl, (fun h => by cases h), fun ad had j u hj => ?_⟩
    injection had with had
    subst had
    match j with
    | 0 =>
      obtain rfl : Value.string s = u := by simpa using hj
      exact (H.alloc (.cells #[.string s] 9)).cell 0
    | _ + 1 => simp at hj
  have HR := Lib.hid hrd
  have B1 : Below w.heap.size w (w.alloc (.cells #[.string s] 9)) := (Below.refl _ w).alloc (Nat.le_refl _) _
  have c3' : (w.alloc (.cells #[.string s] 9)).cell? ⟨g, 3, none⟩ = some (.map (some mb)) := (B1.cell H.lt).trans c3
  have HG3 := Lib.hid ((B1.block g H.lt).trans HG)
  have HO3 := Lib.hid ((B1.block mb H.tail.lt).trans HO.out)
  have HB := Lib.hid B1
  clear hM HG H B1 hrd c3
  unfold findL
  cases power
  · go_enter Try.func32, Try.ntmps32
    go_wp2_with fail
    refine (may_calls g room lives false mb [s] (some ⟨w.heap.size, 0, none⟩) 1 _ HG3.out HR.out (by simp) (by simpa using hs) (by simp)).mono ?_
    rintro e w' ⟨he, rfl⟩
    rw [show mayE false [s] = 7 from rfl] at he
    subst he
    go_wp2_with fail
    exact bodyPost_ret (v := .tuple #[.pointer none, .int .i64 7]) (by simp [results, Try.results32, go_sem]) rfl ⟨rfl, HB.out⟩
  · cases hgd : goodN s
    · have hq : mayE true [s] = 1 := by simp [mayE, hgd]
      go_enter Try.func32, Try.ntmps32
      go_wp2_with fail
      refine (may_calls g room lives true mb [s] (some ⟨w.heap.size, 0, none⟩) 1 _ HG3.out HR.out (by simp) (by simpa using hs) (by simp)).mono ?_
      rintro e w' ⟨he, rfl⟩
      rw [hq] at he
      subst he
      go_wp2_with fail
      exact bodyPost_ret (v := .tuple #[.pointer none, .int .i64 1]) (by simp [results, Try.results32, go_sem]) rfl ⟨rfl, HB.out⟩
    · have hq : mayE true [s] = 0 := by simp [mayE, hgd]
      have hlk := look (L := L) s (by have := size_of_good hgd; have hmx : maxLen = 9223372036854775807 := rfl; omega) HO3.out HM.out
      cases hf : L.find? (named s) with
      | none =>
        rw [hf] at hlk
        simp only [Option.map_none, ptrOf] at hlk
        go_enter Try.func32, Try.ntmps32
        go_wp2_with fail
        refine (may_calls g room lives true mb [s] (some ⟨w.heap.size, 0, none⟩) 1 _ HG3.out HR.out (by simp) (by simpa using hs) (by simp)).mono ?_
        rintro e w' ⟨he, rfl⟩
        rw [hq] at he
        subst he
        clear hf
        go_wp2_with fail
        exact bodyPost_ret (v := .tuple #[.pointer none, .int .i64 4]) (by simp [results, Try.results32, go_sem]) rfl ⟨rfl, HB.out⟩
      | some x =>
        rw [hf] at hlk
        simp only [Option.map_some, ptrOf] at hlk
        go_enter Try.func32, Try.ntmps32
        go_wp2_with fail
        refine (may_calls g room lives true mb [s] (some ⟨w.heap.size, 0, none⟩) 1 _ HG3.out HR.out (by simp) (by simpa using hs) (by simp)).mono ?_
        rintro e w' ⟨he, rfl⟩
        rw [hq] at he
        subst he
        clear hf
        go_wp2_with fail
        exact bodyPost_ret (v := .tuple #[.pointer (some ⟨x.2.1, 0, none⟩), .int .i64 0]) (by simp [results, Try.results32, go_sem]) rfl ⟨rfl, HB.out⟩

theorem Holds_other {w0 w w' : World} {F : Hp} {r : Nat} (H : Holds w0 F w) (hg : w.grownBy w' (some r)) (hr : w0.heap.size ≤ r) (hn : ∀ x ∈ F, x.1 ≠ r) : Holds w0 F w' :=
  ⟨H.below.grown hg H.size (by rintro k hk; injection hk with hk; omega), fun x hx => by
    have h2 := H.at_ x hx
    exact ⟨(hg.block _ (lt_of_block h2.1) (by intro e; injection e with e; exact hn x hx e)).trans h2.1, h2.2⟩, H.nodup⟩
/-- What a step of a range over the files brings. -/
theorem next_ent {L : List Ent} {x : ByteArray} {c : Option Nat} {kl : Lit} {y : DataW Unit × List MemPlace} (hk : keyOf Try.prog 9 (.string x) = some kl) (hv : ptrR (ptrOf c) = some y) (hat : ∀ zd, (DataW.map (Es L)).atKey kl zd = y.1) :
    kl = .string x.data.toList ∧ ∃ e, L.find? (named x) = some e ∧ c = some e.2.1 := by
  obtain ⟨s, h1, h2, _⟩ := Go.WideMaps.string_of_keyOf Try.underlying9 hk
  injection h1 with h1
  subst h1
  refine ⟨h2, ?_⟩
  subst h2
  cases hf : L.find? (named x) with
  | none =>
    have a := hat .nil
    have b := hat (.lit (.int .i64 0))
    rw [at_Es, hf] at a b
    simp only at a b
    rw [← a] at b
    cases b
  | some e =>
    refine ⟨e, rfl, ?_⟩
    have a := hat .nil
    rw [at_Es, hf] at a
    simp only at a
    cases c with
    | none => simp [ptrOf, ptrR] at hv; rw [← hv] at a; cases a
    | some k =>
      simp [ptrOf, ptrR] at hv
      rw [← hv] at a
      simp at a
      rw [show e.2.1 = k by omega]
def wt (left : Lit → Bool) (x : Ent) : Nat := if left (.string x.1.data.toList) then 0 else x.2.2.b.length
def part (left : Lit → Bool) (L : List Ent) : Nat := (L.map (wt left)).sum
def tot (L : List Ent) : Nat := (L.map fun x => x.2.2.b.length).sum
theorem part_le (left : Lit → Bool) : ∀ L : List Ent, part left L ≤ tot L
  | [] => Nat.le_refl _
  | x :: L => by
    have := part_le left L
    simp only [part, tot, List.map_cons, List.sum_cons] at *
    have : wt left x ≤ x.2.2.b.length := by unfold wt; split <;> omega
    omega
theorem part_none {left : Lit → Bool} (h : ∀ k, left k = false) (L : List Ent) : part left L = tot L := by
  unfold part tot
  congr 1
  exact List.map_congr_left fun x _ => by simp [wt, h]
theorem part_all {left : Lit → Bool} {L : List Ent} (h : ∀ x ∈ L, left (.string x.1.data.toList) = true) : part left L = 0 := by
  unfold part
  induction L with
  | nil => rfl
  | cons x L ih =>
    simp only [List.map_cons, List.sum_cons]
    rw [ih (fun y hy => h y (List.mem_cons_of_mem _ hy))]
    simp [wt, h x List.mem_cons_self]
def Apart (L : List Ent) : Prop := L.Pairwise fun x y => x.1 ≠ y.1
theorem wt_other {left : Lit → Bool} {x : Ent} {s : ByteArray} (h : x.1 ≠ s) : wt (fun z => left z && !z.sameKey (.string s.data.toList)) x = wt left x := by
  unfold wt
  have : (Lit.string x.1.data.toList).sameKey (.string s.data.toList) = false := by
    simp only [Lit.sameKey]
    simp
    intro h2
    exact h (data_inj (by simpa using h2))
  simp only [this, Bool.not_false, Bool.and_true]
theorem part_step {left : Lit → Bool} {L : List Ent} {s : ByteArray} {e : Ent} (hA : Apart L) (hf : L.find? (named s) = some e) (hl : left (.string s.data.toList) = true) :
    part (fun z => left z && !z.sameKey (.string s.data.toList)) L = part left L + e.2.2.b.length := by
  obtain ⟨L1, L2, rfl, he, h1⟩ := find_split hf
  have h2 : ∀ y ∈ L2, y.1 ≠ s := by
    intro y hy hq
    unfold Apart at hA
    rw [List.pairwise_append] at hA
    have := (List.pairwise_cons.mp hA.2.1).1 y hy
    exact this (by rw [he, hq])
  unfold part
  simp only [List.map_append, List.map_cons, List.sum_append, List.sum_cons]
  have b1 : L1.map (wt fun z => left z && !z.sameKey (.string s.data.toList)) = L1.map (wt left) := List.map_congr_left (fun y hy => wt_other (h1 y hy))
  have b2 : L2.map (wt fun z => left z && !z.sameKey (.string s.data.toList)) = L2.map (wt left) := List.map_congr_left (fun y hy => wt_other (h2 y hy))
  rw [b1, b2]
  have a1 : wt left e = 0 := by simp [wt, he, hl]
  have a2 : wt (fun z => left z && !z.sameKey (.string s.data.toList)) e = e.2.2.b.length := by simp [wt, he, Lit.sameKey]
  rw [a1, a2]
  omega
theorem has_Es {L : List Ent} {x : Ent} (hx : x ∈ L) : Maps.has (DataW.map (Es L)) (.string x.1.data.toList) = true := by
  simp only [Maps.has, List.any_eq_true]
  exact ⟨_, List.mem_map.mpr ⟨x, hx, rfl⟩, by simp [Lit.sameKey]⟩
theorem ptrR_form {v : Value} {y : DataW Unit × List MemPlace} (h : ptrR v = some y) : ∃ c, v = ptrOf c := by
  unfold ptrR at h
  split at h
  · exact ⟨none, rfl⟩
  · exact ⟨some _, rfl⟩
  · cases h
theorem law9 : Go.Maps.Keyed Try.prog 9 := Go.Maps.string_keyed Try.underlying9
theorem RowB.form {e : TypeId} {sz n : Nat} {v : Value} {xs : List Value} {h : Hp} (R : RowB e sz v n xs h) : ∃ A c, v = .slice A n c ∧ n ≤ c ∧ (A = none → c = 0) := by
  obtain ⟨h1, ⟨rfl, rfl, rfl⟩ | ⟨g, cap, cur, rfl, rfl, h2, _⟩⟩ := R
  · exact ⟨none, 0, rfl, Nat.le_refl _, fun _ => rfl⟩
  · exact ⟨_, _, rfl, h2, fun h => by cases h⟩
def TotR (w0 : World) (G : Hp) (mb r : Nat) (L : List Ent) (n : Value) (wr : World) : Prop :=
  ∃ left cnt, wr.ranges Try.prog 9 ptrR mb r (Es L).length (DataW.map (Es L)) left cnt ∧ Holds w0 G wr ∧ n = .int .i64 (part left L : Nat)
set_option maxRecDepth 100000 in
set_option maxHeartbeats 2000000 in
theorem total_calls (g : Nat) (room lives : Int) (power : Bool) (mb : Nat) (o : Obj) (L : List Ent) (hf F : Hp) (w0 w : World) (hM : MapB Try.prog 9 ptrR o (Es L)) (hF : FilesR L hf) (hA : Apart L) (ht : tot L ≤ 1000000000)
    (H : Holds w0 ((g, dskO room lives power mb) :: (mb, o) :: hf ++ F) w) : Calls Try.prog 31 #[.pointer (some ⟨g, 0, none⟩)] w fun e w' =>
      e = .returned (.int .i64 (tot L)) ∧ Holds w0 ((g, dskO room lives power mb) :: (mb, o) :: hf ++ F) w' := by
  have c3 : w.cell? ⟨g, 3, none⟩ = some (.map (some mb)) := H.cell 3
  have hown := MapB.owns (H.tail.get) hM
  have HH := Lib.hid H; have HM := Lib.hid hM; have HF := Lib.hid hF; have HA := Lib.hid hA
  obtain ⟨G, hG⟩ : ∃ G, G = (g, dskO room lives power mb) :: (mb, o) :: hf ++ F := ⟨_, rfl⟩
  rw [← hG] at HH ⊢
  have HGe := Lib.hid hG
  clear H hM hF hA hG
  go_enter Try.func31, Try.ntmps31
  go_wp2_with (first | (at_range; refine wpList_range_own _ rfl _ 53 rfl 9 57 law9 Try.underlying53 _ mb _ _ rfl hown ?_; intro w1 hrg0 hg0 hs0))
  have HR0 := Lib.hid hrg0
  have HH1 := Lib.hid (HH.out.grow (below_of_none hg0))
  obtain ⟨r, hr⟩ : ∃ r, r = w.heap.size := ⟨_, rfl⟩
  have hrG : Hid (∀ x ∈ G, x.1 ≠ r) := Lib.hid (fun x hx e => by have := lt_of_block (HH.out.mem hx); omega)
  have hrB : w0.heap.size ≤ r := by have := HH.out.size; omega
  rw [← hr] at HR0 ⊢
  clear hrg0 hg0 hs0 hown hr
  go_frame
  go_loopw [3] (fun n wr => TotR w0 G mb r L n wr) (fun _ wr => wr.rangeLeft mb r)
  case atStart =>
    refine ⟨_, _, HR0.out, HH1.out, ?_⟩
    rw [part_all (fun x hx => has_Es hx)]
    rfl
  case round =>
    obtain ⟨left, cnt, hrg, hHr, rfl⟩ := hrel
    have HHr := Lib.hid hHr
    clear hHr
    have hpl := part_le left L
    go_wp2_with (first | (at_next; refine wpList_next_ranges _ rfl _ rfl 9 law9 ptrR Value.string ptrOf (fun key kl hk => by obtain ⟨s, h1, _⟩ := Go.WideMaps.string_of_keyOf Try.underlying9 hk; exact ⟨s, h1⟩) (fun v y hv => ptrR_form hv) mb r _ _ _ _ rfl hrg ?_ ?_))
    · intro hc0 hl0
      rw [part_none hl0] at *
      clear hl0 hrg
      go_wp2
      go_ret
      exact ⟨rfl, HHr.out⟩
    · intro x c kl y1 y2 w2 cnt' hk hl hv hat hrg2 hlt hg2 hs2 hen
      obtain ⟨rfl, e, hfe, rfl⟩ := next_ent (y := (y1, y2)) hk hv hat
      have hH2 : Holds w0 G w2 := Holds_other HHr.out hg2 hrB hrG.out
      have hps := part_step HA.out hfe hl
      have hple := part_le (fun z => left z && !z.sameKey (.string x.data.toList)) L
      obtain ⟨L1, L2, hL, _, _⟩ := find_split hfe
      have hF2 := HF.out
      rw [hL] at hF2
      obtain ⟨f1, fx, f2, _, ⟨v, hrw, hrow, rfl⟩, _, hfeq⟩ := FilesR.mid.mp hF2
      have hce : w2.heap[e.2.1]? = some (flO v e.2.2) := hH2.mem (x := (e.2.1, flO v e.2.2)) (by rw [HGe.out, hfeq]; simp)
      have d0 : w2.cell? ⟨e.2.1, 0, none⟩ = some v := by simp [World.cell?, hce, flO, flC]
      obtain ⟨A, cc, hvs, _⟩ := RowB.form hrow
      subst hvs
      have HRG := Lib.hid hrg2; have HH2 := Lib.hid hH2; have HL := Lib.hid hlt; have HPS := Lib.hid hps; have HEq := Lib.hid hrg.left_eq
      have HE2 := Lib.hid hrg2.left_eq
      clear hrg hrg2 hg2 hH2 hlt hs2 hat hv hk hfe hF2 hfeq hce hrow hl
      subst hL
      clear hps
      have hb1 : (part left (L1 ++ e :: L2) : Int) + e.2.2.b.length ≤ 1000000000 := by have := HPS.out; omega
      simp only [ptrOf] at hen ⊢
      go_wp2
      refine ⟨⟨_, _, HRG.out, HH2.out, ?_⟩, ?_⟩
      · rw [HPS.out]
        simp
      · rw [HE2.out, HEq.out]
        exact HL.out
end Go.Proofs.Ytocpelkgiebkjaa
