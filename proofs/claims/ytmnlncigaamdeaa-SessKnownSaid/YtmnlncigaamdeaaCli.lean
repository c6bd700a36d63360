/- What the methods of sess.Sessions do to clients that lie in blocks of their own behind a map: contracts for every world. Conditions: each theorem's own. -/
import Derived.Test.YtmnlncigaamdeaaProg
import Derived.Test.YtmnlncigaamdeaaMp
import Derived.Test.YtmnlncigaamdeaaRg
import Derived.KernelRfl
import Derived.StillTailTactics
import Derived.Deep.QuietTactic
import Derived.BigQuiet
import Derived.Laws.Tables
import Derived.Laws.Strings
namespace Go.Proofs.Ytmnlncigaamdeaa
open Go.RowKit Go.Proofs.Ytmnlncigaamdeaa.Sp
set_option linter.unusedVariables false
set_option linter.unusedSimpArgs false
structure Cli where
  num : Int
  what : ByteArray
  reply : ByteArray
  waits : Bool
def cliC (c : Cli) : Array Value := #[.int .i64 c.num, .string c.what, .string c.reply, .bool c.waits]
def cliO (c : Cli) : Obj := .cells (cliC c) 50 (0, 0)
def es : ByteArray := ⟨#[]⟩
def z0 : Cli := ⟨0, es, es, false⟩
def again (c : Cli) (what : ByteArray) : Int × ByteArray × Int :=
  if what = c.what then (if c.waits then (1, es, 0) else (2, c.reply, 0)) else (0, es, 1)
def ans (x : Int × ByteArray × Int) : Value := .tuple #[.int .i64 x.1, .string x.2.1, .int .i64 x.2.2]
theorem str_ne {a b : ByteArray} (h : ¬ a = b) : (a.toList == b.toList) = false := by
  rw [beq_eq_false_iff_ne]
  intro e
  rw [ByteArray.toList_eq, ByteArray.toList_eq] at e
  exact h (by cases a; cases b; simp_all)
theorem again_calls (b : Nat) (c : Cli) (what : ByteArray) (w : World) (H : w.heap[b]? = some (cliO c)) :
    Calls Try.prog 22 #[.pointer (some ⟨b, 0, none⟩), .string what] w fun e w' => e = .returned (ans (again c what)) ∧ ∃ n, w' = w.drewN n := by
  have c1 : w.cell? ⟨b, 1, none⟩ = some (.string c.what) := by simp [World.cell?, H, cliO, cliC]
  have c2 : w.cell? ⟨b, 2, none⟩ = some (.string c.reply) := by simp [World.cell?, H, cliO, cliC]
  have c3 : w.cell? ⟨b, 3, none⟩ = some (.bool c.waits) := by simp [World.cell?, H, cliO, cliC]
  clear H
  by_cases h1 : what = c.what
  · subst h1
    cases h2 : c.waits
    · rw [h2] at c3
      go_enter Try.func22, Try.ntmps22
      go_wp2
      go_quiet (fail)
      go_wp2
      exact bodyPost_ret (v := ans (2, c.reply, 0)) (by simp [results, Try.results22, go_sem, ans]) rfl ⟨by simp [again, ans, h2], nq, rfl⟩
    · rw [h2] at c3
      go_enter Try.func22, Try.ntmps22
      go_wp2
      exact bodyPost_ret (v := ans (1, es, 0)) (by simp [results, Try.results22, go_sem, ans, es]) rfl ⟨by simp [again, ans, h2], 0, rfl⟩
  · have hs := str_ne h1
    go_enter Try.func22, Try.ntmps22
    go_wp2
    exact bodyPost_ret (v := ans (0, es, 1)) (by simp [results, Try.results22, go_sem, ans, es]) rfl ⟨by simp [again, ans, h1], 0, rfl⟩

abbrev Row := Int × Nat × Cli
def Es (L : List Row) : List (Lit × DataW Unit) := L.map fun x => (.int .i64 x.1, .lit (.int .i64 x.2.1))
def clis (L : List Row) : Hp := L.map fun x => (x.2.1, cliO x.2.2)
def sessO (room last : Int) (mb : Nat) : Obj := .cells #[.int .i64 room, .int .i64 last, .map (some mb)] 47 (0, 0)
def sessH (g mb : Nat) (o : Obj) (room last : Int) (L : List Row) : Hp := (g, sessO room last mb) :: (mb, o) :: clis L
structure SM where
  room : Int
  last : Int
  cl : List (Int × Cli)
def SM.find (m : SM) (id : Int) : Option (Int × Cli) := m.cl.find? fun x => x.1 == id
def SM.set (m : SM) (id : Int) (c : Cli) : SM := { m with cl := m.cl.map fun x => if x.1 = id then (id, c) else x }
def SM.ok (m : SM) : Prop := (m.cl.map (·.1)).Pairwise (· < ·) ∧ (∀ x ∈ m.cl, 1 ≤ x.1 ∧ x.1 ≤ m.last) ∧ 0 ≤ m.last
def absL (L : List Row) : List (Int × Cli) := L.map fun x => (x.1, x.2.2)
def IsS (g : Nat) (m : SM) (h : Hp) : Prop := ∃ mb o L, MapB Try.prog 2 ptrR o (Es L) ∧ m.cl = absL L ∧ h = sessH g mb o m.room m.last L ∧ m.ok
def ask (m : SM) (id num : Int) (what : ByteArray) : (Int × ByteArray × Int) × SM :=
  match m.find id with
  | none => ((0, es, 4), m)
  | some x => if num < 1 ∨ 8000 < (what.size : Int) then ((0, es, 1), m) else if num < x.2.num then ((0, es, 10), m) else if num = x.2.num then (again x.2 what, m)
    else if x.2.waits then ((0, es, 8), m) else ((0, es, 0), m.set id ⟨num, what, es, true⟩)
def answer (m : SM) (id num : Int) (reply : ByteArray) : Int × SM :=
  match m.find id with
  | none => (4, m)
  | some x => if num = x.2.num ∧ x.2.waits = true then (0, m.set id ⟨x.2.num, x.2.what, reply, false⟩) else (10, m)
def opened (m : SM) : (Int × Int) × SM :=
  if m.room ≤ (m.cl.length : Int) then ((0, 6), m) else ((m.last + 1, 0), { m with last := m.last + 1, cl := m.cl ++ [(m.last + 1, ⟨0, es, es, false⟩)] })

theorem at_Es (id : Int) : ∀ L : List Row, (DataW.map (Es L)).atKey (.int .i64 id) .nil = match L.find? (fun x => x.1 == id) with | some x => .lit (.int .i64 x.2.1) | none => .nil
  | [] => rfl
  | x :: L => by
    have ih := at_Es id L
    unfold DataW.atKey at ih ⊢
    simp only [Es, List.map_cons, List.find?_cons] at ih ⊢
    have e : (Lit.int .i64 x.1).sameKey (.int .i64 id) = (x.1 == id) := by simp [Lit.sameKey]; by_cases h : x.1 = id <;> simp [h]
    rw [e]
    cases hx : (x.1 == id)
    · exact ih
    · rfl
theorem find_split {L : List Row} {id : Int} {x : Row} (h : L.find? (fun x => x.1 == id) = some x) : ∃ L1 L2, L = L1 ++ x :: L2 ∧ x.1 = id ∧ ∀ y ∈ L1, y.1 ≠ id := by
  rw [List.find?_eq_some_iff_append] at h
  obtain ⟨h1, L1, L2, rfl, h2⟩ := h
  exact ⟨L1, L2, rfl, by simpa using h1, fun y hy => by simpa using h2 y hy⟩
theorem look {L : List Row} {w : World} {mb : Nat} {o : Obj} (id : Int) (hid : (Lit.int .i64 id).wf = true) (H : w.heap[mb]? = some o) (hM : MapB Try.prog 2 ptrR o (Es L)) :
    (L.find? (fun x => x.1 == id) = none ∧ (Instr.lookup 45 (.map (some mb)) (.int .i64 id) false).run Try.prog w = .ok (.pointer none) w) ∨
    (∃ x, L.find? (fun x => x.1 == id) = some x ∧ (Instr.lookup 45 (.map (some mb)) (.int .i64 id) false).run Try.prog w = .ok (.pointer (some ⟨x.2.1, 0, none⟩)) w) := by
  obtain ⟨v, ps, h1, h2⟩ := mp_look H hM (Go.Maps.int_keyed Try.underlying2) Try.underlying45 (Try.zeroValue48 w) (zd := .nil) (zp := []) rfl (Go.Maps.keyOf_int_mk Try.underlying2 hid)
  rw [at_Es] at h2
  cases hf : L.find? (fun x => x.1 == id) with
  | none =>
    rw [hf] at h2
    rw [ptrR_nil h2] at h1
    exact .inl ⟨rfl, h1⟩
  | some x =>
    rw [hf] at h2
    rw [ptrR_at h2] at h1
    exact .inr ⟨x, rfl, h1⟩
theorem find_abs (id : Int) : ∀ L : List Row, (absL L).find? (fun x => x.1 == id) = (L.find? (fun x => x.1 == id)).map fun x => (x.1, x.2.2)
  | [] => rfl
  | x :: L => by
    simp only [absL, List.map_cons, List.find?_cons]
    cases hx : (x.1 == id)
    · exact find_abs id L
    · rfl
theorem set_abs {L1 L2 : List Row} {x : Row} {c : Cli} (hp : ((absL (L1 ++ x :: L2)).map (·.1)).Pairwise (· < ·)) : (absL (L1 ++ x :: L2)).map (fun y => if y.1 = x.1 then (x.1, c) else y) = absL (L1 ++ (x.1, x.2.1, c) :: L2) := by
  have h1 : ∀ y ∈ L1, y.1 ≠ x.1 := by
    intro y hy e
    have hp' := hp
    rw [absL, List.map_append, List.map_append, List.pairwise_append] at hp'
    have := hp'.2.2 y.1 (by simp only [List.map_map]; exact List.mem_map.mpr ⟨y, hy, rfl⟩) x.1 (by simp)
    omega
  have h2 : ∀ y ∈ L2, y.1 ≠ x.1 := by
    intro y hy e
    have hp' := hp
    rw [absL, List.map_append, List.map_append, List.pairwise_append] at hp'
    have hp2 := hp'.2.1
    simp only [List.map_cons, List.pairwise_cons] at hp2
    have := hp2.1 y.1 (by simp only [List.map_map]; exact List.mem_map.mpr ⟨y, hy, rfl⟩)
    omega
  simp only [absL, List.map_append, List.map_cons, List.map_map, if_pos]
  congr 1
  · refine List.map_congr_left fun y hy => ?_
    simp [h1 y hy]
  · congr 1
    refine List.map_congr_left fun y hy => ?_
    simp [h2 y hy]
theorem new_calls (room : Int) (hr : 1 ≤ room ∧ room ≤ 32) (w0 w : World) (F : Hp) (H : Holds w0 F w) :
    Calls Try.prog 8 #[.int .i64 room] w fun e w' => ∃ g, e = .returned (.tuple #[.pointer (some ⟨g, 0, none⟩), .int .i64 0]) ∧ ∃ h, IsS g ⟨room, 0, []⟩ h ∧ Holds w0 (h ++ F) w' := by
  have h1 : ¬ room < 1 := by omega
  have h2 : ¬ 32 < room := by omega
  have HH := Lib.hid H
  clear H
  have hmk : (Instr.makeMap 45 none).run Try.prog w = .ok (.map (some w.heap.size)) (w.alloc (.map #[] 0)) := rfl
  go_enter Try.func8, Try.ntmps8
  go_wp2
  go_ret2
  refine ⟨_, rfl, _, ⟨w.heap.size, _, [], MapB.empty _ _ _, rfl, rfl, by simp [SM.ok]⟩, ?_⟩
  exact HH.out.alloc2 _ _
theorem new_no (room : Int) (hr : room < 1 ∨ 32 < room) (w : World) :
    Calls Try.prog 8 #[.int .i64 room] w fun e w' => e = .returned (.tuple #[.pointer none, .int .i64 1]) ∧ w = w' := by
  rcases hr with h | h
  · go_enter Try.func8, Try.ntmps8
    go_wp2
    go_ret2
    exact ⟨rfl, rfl⟩
  · have h1 : ¬ room < 1 := by omega
    go_enter Try.func8, Try.ntmps8
    go_wp2
    go_ret2
    exact ⟨rfl, rfl⟩

theorem info50 : (Try.prog.info? 50).map (·.size) = some 4 := by kernel_rfl
theorem stC {ops : Array Oper} {rest : List Oper} {dst : Option Tmp} {ty : TypeId} {pos : String} {af : Array Edge} {a : Act} {w : World} {Q : Exit → Act → World → Prop} (x y : Operand) (b : Nat) (c c' : Cli)
    (hx : a.eval x = .pointer (some ⟨b, 0, none⟩)) (hy : a.eval y = .agg (cliC c)) (hg : w.heap[b]? = some (cliO c'))
    (hh : wpList Try.prog ops Q rest (a.put dst undef) (w.setRow b (cliC c))) : wpList Try.prog ops Q ({ dst := dst, op := .store 50 x y, type := ty, pos := pos, after := af, guard := none } :: rest) a w :=
  wpList_store_row rfl 50 x y rfl b (cliC c) hx hy 50 (cliC c') hg info50 rfl (by simp [Value.oneCell', cliC]) hh
theorem mid_of {g mb : Nat} {o : Obj} {room last : Int} {L1 L2 : List Row} {x : Row} {F : Hp} {w0 w : World} (H : Holds w0 (sessH g mb o room last (L1 ++ x :: L2) ++ F) w) :
    Holds w0 (((g, sessO room last mb) :: (mb, o) :: clis L1) ++ (x.2.1, cliO x.2.2) :: (clis L2 ++ F)) w := by
  refine H.congr ?_
  simp [sessH, clis]
theorem isS_set {g mb : Nat} {o : Obj} {m : SM} {L1 L2 : List Row} {xi : Int} {b : Nat} {c : Cli} (hM : MapB Try.prog 2 ptrR o (Es (L1 ++ (xi, b, c) :: L2))) (hcl : m.cl = absL (L1 ++ (xi, b, c) :: L2)) (hok : m.ok) (c' : Cli) :
    IsS g (m.set xi c') (sessH g mb o m.room m.last (L1 ++ (xi, b, c') :: L2)) := by
  refine ⟨mb, o, _, ?_, ?_, rfl, ?_⟩
  · have e : Es (L1 ++ (xi, b, c') :: L2) = Es (L1 ++ (xi, b, c) :: L2) := by simp [Es]
    rw [e]
    exact hM
  · show m.cl.map _ = _
    rw [hcl]
    exact set_abs (x := (xi, b, c)) (by rw [← hcl]; exact hok.1)
  · obtain ⟨o1, o2, o3⟩ := hok
    have e : (m.set xi c').cl.map (·.1) = m.cl.map (·.1) := by
      simp only [SM.set, List.map_map]
      refine List.map_congr_left fun y _ => ?_
      by_cases hy : y.1 = xi <;> simp [hy]
    refine ⟨by rw [e]; exact o1, fun y hy => ?_, o3⟩
    have hy' : y.1 ∈ (m.set xi c').cl.map (·.1) := List.mem_map_of_mem hy
    rw [e] at hy'
    obtain ⟨z, hz, ez⟩ := List.mem_map.mp hy'
    have := o2 z hz
    rw [← ez]
    exact this
theorem ask_calls (g : Nat) (m : SM) (h F : Hp) (id num : Int) (what : ByteArray) (w0 w : World) (hid : (Lit.int .i64 id).wf = true) (hI : IsS g m h) (H : Holds w0 (h ++ F) w) :
    Calls Try.prog 10 #[.pointer (some ⟨g, 0, none⟩), .int .i64 id, .int .i64 num, .string what] w fun e w' => e = .returned (ans (ask m id num what).1) ∧ ∃ h', IsS g (ask m id num what).2 h' ∧ Holds w0 (h' ++ F) w' := by
  obtain ⟨mb, o, L, hM, hcl, rfl, hok⟩ := hI
  have c2 : w.cell? ⟨g, 2, none⟩ = some (.map (some mb)) := H.cell 2
  have hmb : w.heap[mb]? = some o := H.tail.get
  unfold ask SM.find
  rw [hcl, find_abs]
  rcases look id hid hmb hM with ⟨hf, hlk⟩ | ⟨x, hf, hlk⟩
  · rw [hf]
    have HH := Lib.hid H
    have HI := Lib.hid (show IsS g m _ from ⟨mb, o, L, hM, hcl, rfl, hok⟩)
    clear H hM hcl hok hmb hf
    go_enter Try.func10, Try.ntmps10
    go_wp2
    all_goals exact bodyPost_ret (v := ans (0, es, 4)) (by simp [results, Try.results10, go_sem, ans, es]) rfl ⟨rfl, _, HI.out, HH.out⟩
  · rw [hf]
    obtain ⟨L1, L2, rfl, hxi, _⟩ := find_split hf
    subst hxi
    have H' := mid_of H
    have hb := H'.get_mid
    obtain ⟨xi, b, c⟩ := x
    simp only at hb hlk hid
    have d0 : w.cell? ⟨b, 0, none⟩ = some (.int .i64 c.num) := by simp [World.cell?, hb, cliO, cliC]
    have d3 : w.cell? ⟨b, 3, none⟩ = some (.bool c.waits) := by simp [World.cell?, hb, cliO, cliC]
    have HH := Lib.hid H
    have HH' := Lib.hid H'
    have HB := Lib.hid hb
    have HI := Lib.hid (show IsS g m _ from ⟨mb, o, _, hM, hcl, rfl, hok⟩)
    have HN := Lib.hid (isS_set (g := g) (mb := mb) (m := m) hM hcl hok)
    clear H H' hM hcl hok hmb hf hb
    simp only [Option.map_some]
    by_cases h1 : num < 1
    · rw [if_pos (.inl h1)]
      go_enter Try.func10, Try.ntmps10
      go_wp2
      exact bodyPost_ret (v := ans (0, es, 1)) (by simp [results, Try.results10, go_sem, ans, es]) rfl ⟨rfl, _, HI.out, HH.out⟩
    by_cases h2 : 8000 < (what.size : Int)
    · rw [if_pos (.inr h2)]
      go_enter Try.func10, Try.ntmps10
      go_wp2
      exact bodyPost_ret (v := ans (0, es, 1)) (by simp [results, Try.results10, go_sem, ans, es]) rfl ⟨rfl, _, HI.out, HH.out⟩
    rw [if_neg (by simp [h1, h2])]
    by_cases h3 : num < c.num
    · rw [if_pos h3]
      go_enter Try.func10, Try.ntmps10
      go_wp2
      exact bodyPost_ret (v := ans (0, es, 10)) (by simp [results, Try.results10, go_sem, ans, es]) rfl ⟨rfl, _, HI.out, HH.out⟩
    rw [if_neg h3]
    by_cases h4 : num = c.num
    · rw [if_pos h4]
      go_enter Try.func10, Try.ntmps10
      go_wp2_with fail
      refine (again_calls b c what _ HB.out).mono ?_
      rintro e w' ⟨he, n, rfl⟩
      rw [ans] at he
      subst he
      go_wp2_with fail
      exact bodyPost_ret (v := ans (again c what)) (by simp [results, Try.results10, go_sem, ans, es]) rfl ⟨rfl, _, HI.out, HH.out.drewN n⟩
    rw [if_neg h4]
    cases h5 : c.waits
    · rw [h5] at d3
      go_enter Try.func10, Try.ntmps10
      go_wp2_with ((with_reducible refine stC (.tmp 58) (.tmp 57) b ⟨num, what, es, true⟩ c ?_ ?_ HB.out ?_); rfl; rfl)
      refine bodyPost_ret (v := ans (0, es, 0)) (by simp [results, Try.results10, go_sem, ans, es]) rfl ⟨rfl, _, HN.out _, ?_⟩
      refine (HH'.out.turn_mid (row_grown w b _) (setRow_heap w b _ (cliC ⟨num, what, es, true⟩) 50 (0, 0) HB.out)).congr ?_
      simp [sessH, clis, cliO]
    · rw [h5] at d3
      go_enter Try.func10, Try.ntmps10
      go_wp2
      exact bodyPost_ret (v := ans (0, es, 8)) (by simp [results, Try.results10, go_sem, ans, es]) rfl ⟨rfl, _, HI.out, HH.out⟩

theorem answer_calls (g : Nat) (m : SM) (h F : Hp) (id num : Int) (reply : ByteArray) (w0 w : World) (hid : (Lit.int .i64 id).wf = true) (hI : IsS g m h) (H : Holds w0 (h ++ F) w) :
    Calls Try.prog 11 #[.pointer (some ⟨g, 0, none⟩), .int .i64 id, .int .i64 num, .string reply] w fun e w' => e = .returned (.int .i64 (answer m id num reply).1) ∧ ∃ h', IsS g (answer m id num reply).2 h' ∧ Holds w0 (h' ++ F) w' := by
  obtain ⟨mb, o, L, hM, hcl, rfl, hok⟩ := hI
  have c2 : w.cell? ⟨g, 2, none⟩ = some (.map (some mb)) := H.cell 2
  have hmb : w.heap[mb]? = some o := H.tail.get
  unfold answer SM.find
  rw [hcl, find_abs]
  rcases look id hid hmb hM with ⟨hf, hlk⟩ | ⟨x, hf, hlk⟩
  · rw [hf]
    have HH := Lib.hid H
    have HI := Lib.hid (show IsS g m _ from ⟨mb, o, L, hM, hcl, rfl, hok⟩)
    clear H hM hcl hok hmb hf
    go_enter Try.func11, Try.ntmps11
    go_wp2
    all_goals (go_ret; exact ⟨rfl, _, HI.out, HH.out⟩)
  · rw [hf]
    obtain ⟨L1, L2, rfl, hxi, _⟩ := find_split hf
    subst hxi
    have H' := mid_of H
    have hb := H'.get_mid
    obtain ⟨xi, b, c⟩ := x
    simp only at hb hlk hid
    have d0 : w.cell? ⟨b, 0, none⟩ = some (.int .i64 c.num) := by simp [World.cell?, hb, cliO, cliC]
    have d2 : w.cell? ⟨b, 2, none⟩ = some (.string c.reply) := by simp [World.cell?, hb, cliO, cliC]
    have d3 : w.cell? ⟨b, 3, none⟩ = some (.bool c.waits) := by simp [World.cell?, hb, cliO, cliC]
    have f2 : w.frozen? ⟨b, 2, none⟩ = false := by simp [World.frozen?, hb, cliO, cliC]
    have f3 : w.frozen? ⟨b, 3, none⟩ = false := by simp [World.frozen?, hb, cliO, cliC]
    have HH := Lib.hid H
    have HH' := Lib.hid H'
    have HB := Lib.hid hb
    have HI := Lib.hid (show IsS g m _ from ⟨mb, o, _, hM, hcl, rfl, hok⟩)
    have HN := Lib.hid (isS_set (g := g) (mb := mb) (m := m) hM hcl hok)
    clear H H' hM hcl hok hmb hf hb
    simp only [Option.map_some]
    by_cases h1 : num = c.num
    · cases h5 : c.waits
      · rw [if_neg (by simp)]
        rw [h5] at d3
        go_enter Try.func11, Try.ntmps11
        go_wp2
        all_goals (go_ret; exact ⟨rfl, _, HI.out, HH.out⟩)
      · rw [if_pos ⟨h1, rfl⟩]
        rw [h5] at d3
        go_enter Try.func11, Try.ntmps11
        go_wp2
        go_ret
        refine ⟨rfl, _, HN.out _, ?_⟩
        have G := ((HH'.out.turn_mid (set_grown w ⟨b, 2, none⟩ (.string reply)) (heap_set HB.out 2 _)).turn_mid (set_grown _ ⟨b, 3, none⟩ (.bool false)) (heap_set (heap_set HB.out 2 _) 3 _))
        refine G.congr ?_
        simp [sessH, clis, cliO, cliC]
    · rw [if_neg (by simp [h1])]
      go_enter Try.func11, Try.ntmps11
      go_wp2
      all_goals (go_ret; exact ⟨rfl, _, HI.out, HH.out⟩)

theorem put_last (k : Int) (d : DataW Unit) : ∀ L : List Row, (∀ x ∈ L, x.1 < k) → Go.ChangeMaps.putKey (.int .i64 k) d (Es L) = Es L ++ [(.int .i64 k, d)] := by
  intro L hL
  have e : (Es L).filter (Go.ChangeMaps.notKey (.int .i64 k)) = Es L := by
    rw [List.filter_eq_self]
    intro p hp
    obtain ⟨x, hx, rfl⟩ := List.mem_map.mp hp
    have := hL x hx
    simp [Go.ChangeMaps.notKey, Lit.sameKey]
    omega
  unfold Go.ChangeMaps.putKey
  rw [e]
  clear e
  induction L with
  | nil => rfl
  | cons x L ih =>
    have h1 := hL x List.mem_cons_self
    simp only [Es, List.map_cons, DataW.insert, List.cons_append]
    rw [if_neg (by simp [Lit.before]; omega)]
    congr 1
    exact ih (fun y hy => hL y (List.mem_cons_of_mem _ hy))
theorem opened_is {g mb b : Nat} {o o2 : Obj} {m : SM} {L : List Row} (HM : Hid (MapB Try.prog 2 ptrR o (Es L) ∧ m.cl = absL L ∧ m.ok)) (hM : MapB Try.prog 2 ptrR o2 (Go.ChangeMaps.putKey (.int .i64 (m.last + 1)) (.lit (.int .i64 b)) (Es L))) :
    IsS g { m with last := m.last + 1, cl := m.cl ++ [(m.last + 1, ⟨0, es, es, false⟩)] } (sessH g mb o2 m.room (m.last + 1) (L ++ [(m.last + 1, b, z0)])) := by
  obtain ⟨h1, h2, h3, h4, h5⟩ := HM.out
  have hlt : ∀ x ∈ L, x.1 < m.last + 1 := fun x hx => by
    have := h4 (x.1, x.2.2) (by rw [h2]; exact List.mem_map.mpr ⟨x, hx, rfl⟩)
    simp only at this
    omega
  refine ⟨mb, o2, _, ?_, ?_, rfl, ?_, ?_, ?_⟩
  · rw [put_last _ _ L hlt] at hM
    simpa [Es] using hM
  · simp [h2, absL, z0]
  · simp only [List.map_append, List.map_cons, List.map_nil]
    rw [List.pairwise_append]
    refine ⟨h3, by simp, fun a ha c hc => ?_⟩
    obtain ⟨x, hx, rfl⟩ := List.mem_map.mp ha
    have := h4 x hx
    simp at hc
    omega
  · intro x hx
    rcases List.mem_append.mp hx with hx | hx
    · have := h4 x hx
      simp only
      omega
    · simp at hx
      subst hx
      simp only
      omega
  · simp only
    omega
theorem open_calls (g : Nat) (m : SM) (h F : Hp) (w0 w : World) (hl : m.last < 9223372036854775807) (hr : m.room ≤ 32) (hI : IsS g m h) (H : Holds w0 (h ++ F) w) :
    Calls Try.prog 9 #[.pointer (some ⟨g, 0, none⟩)] w fun e w' => e = .returned (.tuple #[.int .i64 (opened m).1.1, .int .i64 (opened m).1.2]) ∧ ∃ h', IsS g (opened m).2 h' ∧ Holds w0 (h' ++ F) w' := by
  obtain ⟨mb, o, Lx, hM, hcl, rfl, hok⟩ := hI
  have c0 : w.cell? ⟨g, 0, none⟩ = some (.int .i64 m.room) := H.cell 0
  have c1 : w.cell? ⟨g, 1, none⟩ = some (.int .i64 m.last) := H.cell 1
  have c2 : w.cell? ⟨g, 2, none⟩ = some (.map (some mb)) := H.cell 2
  have f1 : w.frozen? ⟨g, 1, none⟩ = false := H.froz 1
  have hmb : w.heap[mb]? = some o := H.tail.get
  have hlen : (Es Lx).length = m.cl.length := by simp [Es, hcl, absL]
  have hln : ∀ ty n, (Builtin.len_ #[45] ty #[.map (some mb)]).run Try.prog (w.drewN n) = .ok (.int .i64 m.cl.length) (w.drewN n) := fun ty n => by rw [← hlen]; exact mp_len (w := w.drewN n) hmb hM Try.underlying45 ty
  have HH := Lib.hid H
  have HI := Lib.hid (show IsS g m _ from ⟨mb, o, Lx, hM, hcl, rfl, hok⟩)
  unfold opened
  by_cases h1 : m.room ≤ (m.cl.length : Int)
  · rw [if_pos h1]
    clear H hM hcl hok hmb hlen
    go_enter Try.func9, Try.ntmps9
    go_wp2_with fail
    go_quiet (fail)
    go_wp2_with fail
    exact bodyPost_ret (v := .tuple #[.int .i64 0, .int .i64 6]) (by simp [results, Try.results9, go_sem]) rfl ⟨rfl, _, HI.out, HH.out.drewN _⟩
  · rw [if_neg h1]
    have HM := Lib.hid (And.intro hM (And.intro hcl hok))
    have h0l : 0 ≤ m.last := hok.2.2
    clear H hmb hlen hM hcl hok
    go_enter Try.func9, Try.ntmps9
    go_wp2_with fail
    go_quiet (fail)
    go_wp2_with fail
    obtain ⟨W, hW⟩ : ∃ W, W = ((w.drewN nq).setCell ⟨g, 1, none⟩ (.int .i64 (m.last + 1))).drew := ⟨_, rfl⟩
    have hH1 : Holds w0 (sessH g mb o m.room (m.last + 1) Lx ++ F) ((w.drewN nq).setCell ⟨g, 1, none⟩ (.int .i64 (m.last + 1))) := (HH.out.drewN nq).set 1 _
    have hH2 : Holds w0 (sessH g mb o m.room (m.last + 1) Lx ++ F) W := by rw [hW]; exact hH1.drew
    have hW0 : Below W.heap.size W ((w.drewN nq).setCell ⟨g, 1, none⟩ (.int .i64 (m.last + 1))).drew := by rw [hW]; exact Below.refl _ _
    have HC1 := Lib.hid (fun w1 (hb : Below W.heap.size W w1) => show w1.cell? ⟨g, 1, none⟩ = some (.int .i64 (m.last + 1)) from ((hH2.grow hb).cell 1))
    have HC2 := Lib.hid (fun w1 (hb : Below W.heap.size W w1) => show w1.cell? ⟨g, 2, none⟩ = some (.map (some mb)) from ((hH2.grow hb).cell 2))
    clear c0 c1 c2 f1 hln hH1 hW
    refine wp_region_vals 10 (by kernel_rfl) (by kernel_rfl) (by kernel_rfl) (fun L w' => Below W.heap.size W w') (fun w1 w2 => Below w1.heap.size w1 w2) (fun i w v => match i with | 0 => v = .pointer (some ⟨g, 0, none⟩) | 1 => v = .pointer (some ⟨g, 0, none⟩) | 2 => v = .pointer (some ⟨g, 2, none⟩) | 3 => v = .map (some mb) | 4 => v = .pointer (some ⟨g, 0, none⟩) | 5 => v = .pointer (some ⟨g, 0, none⟩) | 6 => v = .pointer (some ⟨g, 1, none⟩) | 7 => v = .int .i64 (m.last + 1) | 8 => v = .agg (cliC z0) | 9 => ∃ b, v = .pointer (some ⟨b, 0, none⟩) ∧ w.heap[b]? = some (cliO z0) ∧ W.heap.size ≤ b | _ => True) hW0 ?_ ?_ ?_
    · intro i v w1 w2 hS h
      match i, h with
      | 0, h => exact h
      | 1, h => exact h
      | 2, h => exact h
      | 3, h => exact h
      | 4, h => exact h
      | 5, h => exact h
      | 6, h => exact h
      | 7, h => exact h
      | 8, h => exact h
      | 9, h => exact (by obtain ⟨b, rfl, hb, hle⟩ := h; exact ⟨b, rfl, (hS.block _ (lt_of_block hb)).trans hb, hle⟩)
      | _ + 10, h => exact trivial
    · intro i o hi ho L f w1 hI hL hd
      match i, hi with
      | 0, _ =>
        obtain rfl := Option.some.inj ho
        have c1 := (HC1.out w1 hI); have c2 := (HC2.out w1 hI)
        clear hd ho
        unfold wpOp
        refine Or.inl ?_
        simp only [fill, List.take_succ_cons, List.take_zero, Act.put, List.setIfInBounds_toArray, List.set_cons_zero, List.set_cons_succ]
        unfold Oper.wp
        go_simp
        exact LeftBy.mk _ rfl (hI) (Below.refl _ _) (rfl)
      | 1, _ =>
        obtain rfl := Option.some.inj ho
        have e0 : f 0 = .pointer (some ⟨g, 0, none⟩) := (hd ⟨0, .data⟩ (by simp) rfl).2
        have c1 := (HC1.out w1 hI); have c2 := (HC2.out w1 hI)
        clear hd ho
        unfold wpOp
        refine Or.inl ?_
        simp only [fill, List.take_succ_cons, List.take_zero, Act.put, List.setIfInBounds_toArray, List.set_cons_zero, List.set_cons_succ, e0]
        unfold Oper.wp
        go_simp
        exact LeftBy.mk _ rfl (hI) (Below.refl _ _) (rfl)
      | 2, _ =>
        obtain rfl := Option.some.inj ho
        have e1 : f 1 = .pointer (some ⟨g, 0, none⟩) := (hd ⟨1, .data⟩ (by simp) rfl).2
        have c1 := (HC1.out w1 hI); have c2 := (HC2.out w1 hI)
        clear hd ho
        unfold wpOp
        refine Or.inl ?_
        simp only [fill, List.take_succ_cons, List.take_zero, Act.put, List.setIfInBounds_toArray, List.set_cons_zero, List.set_cons_succ, e1]
        unfold Oper.wp
        go_simp
        exact LeftBy.mk _ rfl (hI) (Below.refl _ _) (rfl)
      | 3, _ =>
        obtain rfl := Option.some.inj ho
        have e2 : f 2 = .pointer (some ⟨g, 2, none⟩) := (hd ⟨2, .data⟩ (by simp) rfl).2
        have c1 := (HC1.out w1 hI); have c2 := (HC2.out w1 hI)
        clear hd ho
        unfold wpOp
        refine Or.inl ?_
        simp only [fill, List.take_succ_cons, List.take_zero, Act.put, List.setIfInBounds_toArray, List.set_cons_zero, List.set_cons_succ, e2]
        unfold Oper.wp
        go_simp
        exact LeftBy.mk _ rfl (hI) (Below.refl _ _) (rfl)
      | 4, _ =>
        obtain rfl := Option.some.inj ho
        have c1 := (HC1.out w1 hI); have c2 := (HC2.out w1 hI)
        clear hd ho
        unfold wpOp
        refine Or.inl ?_
        simp only [fill, List.take_succ_cons, List.take_zero, Act.put, List.setIfInBounds_toArray, List.set_cons_zero, List.set_cons_succ]
        unfold Oper.wp
        go_simp
        exact LeftBy.mk _ rfl (hI) (Below.refl _ _) (rfl)
      | 5, _ =>
        obtain rfl := Option.some.inj ho
        have e4 : f 4 = .pointer (some ⟨g, 0, none⟩) := (hd ⟨4, .data⟩ (by simp) rfl).2
        have c1 := (HC1.out w1 hI); have c2 := (HC2.out w1 hI)
        clear hd ho
        unfold wpOp
        refine Or.inl ?_
        simp only [fill, List.take_succ_cons, List.take_zero, Act.put, List.setIfInBounds_toArray, List.set_cons_zero, List.set_cons_succ, e4]
        unfold Oper.wp
        go_simp
        exact LeftBy.mk _ rfl (hI) (Below.refl _ _) (rfl)
      | 6, _ =>
        obtain rfl := Option.some.inj ho
        have e5 : f 5 = .pointer (some ⟨g, 0, none⟩) := (hd ⟨5, .data⟩ (by simp) rfl).2
        have c1 := (HC1.out w1 hI); have c2 := (HC2.out w1 hI)
        clear hd ho
        unfold wpOp
        refine Or.inl ?_
        simp only [fill, List.take_succ_cons, List.take_zero, Act.put, List.setIfInBounds_toArray, List.set_cons_zero, List.set_cons_succ, e5]
        unfold Oper.wp
        go_simp
        exact LeftBy.mk _ rfl (hI) (Below.refl _ _) (rfl)
      | 7, _ =>
        obtain rfl := Option.some.inj ho
        have e6 : f 6 = .pointer (some ⟨g, 1, none⟩) := (hd ⟨6, .data⟩ (by simp) rfl).2
        have c1 := (HC1.out w1 hI); have c2 := (HC2.out w1 hI)
        clear hd ho
        unfold wpOp
        refine Or.inl ?_
        simp only [fill, List.take_succ_cons, List.take_zero, Act.put, List.setIfInBounds_toArray, List.set_cons_zero, List.set_cons_succ, e6]
        unfold Oper.wp
        go_simp
        exact LeftBy.mk _ rfl (hI) (Below.refl _ _) (rfl)
      | 8, _ =>
        obtain rfl := Option.some.inj ho
        have c1 := (HC1.out w1 hI); have c2 := (HC2.out w1 hI)
        clear hd ho
        unfold wpOp
        refine Or.inl ?_
        simp only [fill, List.take_succ_cons, List.take_zero, Act.put, List.setIfInBounds_toArray, List.set_cons_zero, List.set_cons_succ]
        unfold Oper.wp
        go_simp
        exact LeftBy.mk _ rfl (hI) (Below.refl _ _) (rfl)
      | 9, _ =>
        obtain rfl := Option.some.inj ho
        have e8 : f 8 = .agg (cliC z0) := (hd ⟨8, .data⟩ (by simp) rfl).2
        have c1 := (HC1.out w1 hI); have c2 := (HC2.out w1 hI)
        clear hd ho
        unfold wpOp
        refine Or.inl ?_
        simp only [fill, List.take_succ_cons, List.take_zero, Act.put, List.setIfInBounds_toArray, List.set_cons_zero, List.set_cons_succ, e8]
        unfold Oper.wp
        go_simp
        exact LeftBy.mk _ rfl (hI.alloc hI.size _) ((Below.refl _ _).alloc (Nat.le_refl _) _) (⟨w1.heap.size, rfl, heap_alloc_new w1 _, hI.size⟩)
    · intro L f w1 hI hL hV
      have e0 : f 0 = .pointer (some ⟨g, 0, none⟩) := hV 0 (by decide) (by simp)
      have e1 : f 1 = .pointer (some ⟨g, 0, none⟩) := hV 1 (by decide) (by simp)
      have e2 : f 2 = .pointer (some ⟨g, 2, none⟩) := hV 2 (by decide) (by simp)
      have e3 : f 3 = .map (some mb) := hV 3 (by decide) (by simp)
      have e4 : f 4 = .pointer (some ⟨g, 0, none⟩) := hV 4 (by decide) (by simp)
      have e5 : f 5 = .pointer (some ⟨g, 0, none⟩) := hV 5 (by decide) (by simp)
      have e6 : f 6 = .pointer (some ⟨g, 1, none⟩) := hV 6 (by decide) (by simp)
      have e7 : f 7 = .int .i64 (m.last + 1) := hV 7 (by decide) (by simp)
      have e8 : f 8 = .agg (cliC z0) := hV 8 (by decide) (by simp)
      have e9 := hV 9 (by decide) (by simp)
      obtain ⟨b, e9, hb, hbl⟩ := e9
      clear hV hL
      simp only [fill, List.take_succ_cons, List.take_zero, List.drop_succ_cons, List.drop_zero, Act.put, List.setIfInBounds_toArray, List.set_cons_zero, List.set_cons_succ, e0, e1, e2, e3, e4, e5, e6, e7, e8, e9]
      obtain ⟨hM, hcl, hok⟩ := HM.out
      have hH3 := hH2.add hI hbl hb
      have hH4 := hH2.grow hI
      have hwf : (Lit.int .i64 (m.last + 1)).wf = true := by simp [Lit.wf, IntKind.min, IntKind.max, IntKind.signed, IntKind.bits]; omega
      have hlt : (Es Lx).length < maxLen := by
        have hmx : maxLen = 9223372036854775807 := rfl
        have e : (Es Lx).length = m.cl.length := by simp [Es, hcl, absL]
        omega
      obtain ⟨w2, o2, hrun, ho2, hM2, hgr⟩ := mp_put hH4.tail.get hM (Go.Maps.int_keyed Try.underlying2) Try.underlying45 hlt (Go.Maps.keyOf_int_mk Try.underlying2 hwf) (d := .lit (.int .i64 b)) (ps := []) (show ptrR (.pointer (some ⟨b, 0, none⟩)) = _ from rfl)
      have hH5 : Holds w0 (((b, cliO z0) :: (g, sessO m.room (m.last + 1) mb) :: []) ++ (mb, o2) :: (clis Lx ++ F)) w2 := (hH3.congr (k := ((b, cliO z0) :: (g, sessO m.room (m.last + 1) mb) :: []) ++ (mb, o) :: (clis Lx ++ F)) (by simp [sessH])).turn_mid hgr ho2
      have d1 : w2.cell? ⟨g, 1, none⟩ = some (.int .i64 (m.last + 1)) := hH5.tail.cell 1
      have HE := Lib.hid hH5
      have HM2 := Lib.hid hM2
      clear hH2 hH3 hH4 hH5 hM2 hgr ho2 hM hcl hok hI hW0 hwf
      go_wp2_with fail
      refine bodyPost_ret (v := .tuple #[.int .i64 (m.last + 1), .int .i64 0]) (by simp [results, Try.results9, go_sem]) rfl ⟨rfl, _, opened_is (mb := mb) HM HM2.out, ?_⟩
      have hp := List.perm_middle (a := (b, cliO z0)) (l₁ := (g, sessO m.room (m.last + 1) mb) :: (mb, o2) :: clis Lx) (l₂ := F)
      refine HE.out.perm (List.Perm.symm ?_)
      simpa [sessH, clis] using hp
end Go.Proofs.Ytmnlncigaamdeaa
