/- How a table's text is read: leap.Parse, a contract for every world. Conditions: each theorem's own. -/
import Derived.Test.YthelnkmjhchmnaaDoorSpl
import Derived.Test.YthelnkmjhchmnaaDoorQLeapx10
import Derived.Test.YthelnkmjhchmnaaDoorQLeapx11
import Derived.Test.YthelnkmjhchmnaaDoorOs
import Derived.Test.YthelnkmjhchmnaaDoorRw
import Derived.Deep.QuietTactic
import Derived.BigQuiet
import Derived.Lib.Hide
namespace Go.Proofs.YthelnkmjhchmnaaDoor.Pa
open Go.RowKit Go.Proofs.YthelnkmjhchmnaaDoor Go.Proofs.YthelnkmjhchmnaaDoor.Sp Go.Proofs.YthelnkmjhchmnaaDoor.Nm Go.Proofs.YthelnkmjhchmnaaDoor.QLeap Go.Proofs.YthelnkmjhchmnaaDoorW.PrintWords
set_option linter.unusedVariables false
set_option linter.unusedSimpArgs false
def rdv (s : ByteArray) : Int × Int × Bool := (leap_read.f 300 s).getD (0, 0, false)
def flw (a b : S52) : Bool := (leap_follows.f a.f0 a.f1 b.f0 b.f1).getD false
theorem flw_f (a b : S52) : leap_follows.f a.f0 a.f1 b.f0 b.f1 = some (flw a b) := by
  unfold flw leap_follows.f
  split
  · split <;> rfl
  · rfl
def pl (acc : List S52) : List ByteArray → Option (List S52)
  | [] => some acc
  | s :: r => if (rdv s).2.2 = true then (match acc[acc.length - 1]? with
    | none => pl (acc ++ [⟨(rdv s).1, (rdv s).2.1⟩]) r
    | some z => if flw z ⟨(rdv s).1, (rdv s).2.1⟩ = true then pl (acc ++ [⟨(rdv s).1, (rdv s).2.1⟩]) r else none) else none
def parse (s : ByteArray) : Int × List S52 :=
  if 60 < (lines s).length - 1 + (if ((lines s).getD ((lines s).length - 1) ⟨#[]⟩).toList.isEmpty = true then 0 else 1) then (2, [])
  else if (lines s).length - 1 = 0 ∨ ((lines s).getD ((lines s).length - 1) ⟨#[]⟩).toList.isEmpty = false then (3, [])
  else match pl [] ((lines s).take ((lines s).length - 1)) with | none => (3, []) | some l => (0, l)
def lC (x : S52) : Array Value := #[.int .i64 x.f0, .int .i64 x.f1]
def lV (l : List S52) : List Value := l.flatMap fun x => [.int .i64 x.f0, .int .i64 x.f1]
theorem lV_len : ∀ l : List S52, (lV l).length = l.length * 2
  | [] => rfl
  | x :: l => by
    have := lV_len l
    simp only [lV, List.flatMap_cons, List.length_append, List.length_cons, List.length_nil] at this ⊢
    omega
theorem lV_get : ∀ (l : List S52) (j : Nat) (x : S52), l[j]? = some x → (lV l)[j * 2]? = some (.int .i64 x.f0) ∧ (lV l)[j * 2 + 1]? = some (.int .i64 x.f1)
  | [], j, x, h => by simp at h
  | y :: l, 0, x, h => by
    obtain rfl := Option.some.inj h
    exact ⟨rfl, rfl⟩
  | y :: l, j + 1, x, h => by
    have := lV_get l j x (by simpa using h)
    rw [show (j + 1) * 2 = j * 2 + 2 by omega, show j * 2 + 2 + 1 = j * 2 + 1 + 2 by omega]
    exact this
theorem lV_app (l : List S52) (x : S52) : lV (l ++ [x]) = lV l ++ (lC x).toList := by simp [lV, lC]
def IsT (g : Nat) (s : ByteArray) (l : List S52) (hh : Hp) : Prop := ∃ A c hv, RowB 52 2 (.slice A l.length c) l.length (lV l) hv ∧ hh = (g, .cells #[.string s, .slice A l.length c] 50) :: hv
/-- What the printed texts want. -/
theorem IsT.isS {g : Nat} {s : ByteArray} {l : List S52} {hh F : Hp} {w0 w : World} (hI : IsT g s l hh) (H : Holds w0 (hh ++ F) w) : IsS50 w w g s l := by
  obtain ⟨A, c, hv, R, rfl⟩ := hI
  obtain ⟨A', c', e, hc, hA, hr⟩ := R.reads (F := (g, .cells #[.string s, .slice A l.length c] 50) :: F) (H.perm (by classical rw [List.perm_iff_count]; intro a; simp only [List.count_append, List.count_cons, List.count_nil]; omega))
  injection e with e1 e2 e3
  subst e1 e3
  refine ⟨A, c, H.get, trivial, ?_⟩
  have hb : l.length ≤ maxLen := by
    rcases R.2 with ⟨_, h0, _⟩ | ⟨g, cap, cur, _, _, h2, h3, _, _⟩
    · have : maxLen = 9223372036854775807 := rfl
      omega
    · omega
  refine ⟨rfl, hb, fun h0 => ?_⟩
  cases A with
  | none => have := hr.2.1 rfl; omega
  | some ad =>
    refine ⟨ad, rfl, fun j p hp => ⟨[.int .i64 p.f0, .int .i64 p.f1], rfl, k52_mk w p, fun i u hu => ?_⟩⟩
    have hg := lV_get l j p hp
    rcases i with _ | _ | i
    · obtain rfl := Option.some.inj hu
      exact hr.2.2 ad rfl _ _ hg.1
    · obtain rfl := Option.some.inj hu
      exact hr.2.2 ad rfl _ _ hg.2
    · simp at hu
set_option maxRecDepth 10000 in
theorem info52i : ∃ i z, Tryd.prog.info? 52 = some i ∧ i.zero = some z ∧ i.size = 2 ∧ i.bytes = 16 ∧ z.cells.size = 2 := by
  have h : (Tryd.prog.info? 52).any (fun i => (match i.zero with | some z => z.cells.size == 2 | _ => false) && i.size == 2 && i.bytes == 16) = true := by kernel_rfl
  cases hu : Tryd.prog.info? 52 with
  | none => rw [hu] at h; cases h
  | some i =>
    rw [hu] at h
    simp only [Option.any_some, Bool.and_eq_true, beq_iff_eq] at h
    obtain ⟨⟨h1, h2⟩, h3⟩ := h
    cases hz : i.zero with
    | none => rw [hz] at h1; cases h1
    | some z =>
      rw [hz] at h1
      exact ⟨i, z, rfl, hz, h2, h3, by simpa using h1⟩
set_option maxRecDepth 10000 in
theorem ln_append {w0 w : World} {h F : Hp} {v : Value} {n : Nat} {xs : List Value} (R : RowB 52 2 v n xs h) (H : Holds w0 (h ++ F) w) (ty : TypeId) (b : Nat) (p : S52) (hb : w.heap[b]? = some (.cells (lC p) 52 (0, 0))) (hn : n ≤ 1000000) :
    ∃ v' h' w', (Builtin.append_ #[48, 48] ty #[v, .slice (some ⟨b, 0, none⟩) 1 1]).run Tryd.prog w = .ok v' w' ∧ RowB 52 2 v' (n + 1) (xs ++ (lC p).toList) h' ∧ Holds w0 (h' ++ F) w' := by
  obtain ⟨i, z, hi, hz, h1, h2, h3⟩ := info52i
  have hmx : maxLen = 9223372036854775807 := rfl
  refine row_append (t := 48) R H ty i z 16 Tryd.underlying48 hi hz h1 h2 h3 (by decide) (some ⟨b, 0, none⟩) 1 1 (fun h => by cases h) (lC p).toList ⟨rfl, (fun h => by cases h), ?_⟩ ?_ (by omega) (by omega)
  · intro ad had j x hj
    injection had with had
    subst had
    have e : (⟨b, 0, none⟩ : Addr).add j = ⟨b, j, none⟩ := by simp [Addr.add]; omega
    rw [e]
    simp only [World.cell?, hb]
    rwa [Array.getElem?_toList] at hj
  · intro x hx
    simp only [lC, List.mem_cons, List.not_mem_nil, or_false] at hx
    rcases hx with rfl | rfl <;> rfl
theorem wpA {t u ty : TypeId} {o : Oper} {a : Act} {w w' : World} {K : Act → World → Prop} {Q : Exit → Act → World → Prop} (s x : Operand) {v v1 v' : Value} (ho : o.op = .call { callee := .builtin .append, args := #[s, x], argTypes := #[t, u] }) (hty : o.type = ty) (hs : a.eval s = v) (hx : a.eval x = v1)
    (hrun : (Builtin.append_ #[t, u] ty #[v, v1]).run Tryd.prog w = .ok v' w') (hK : K (a.put o.dst v') w') : o.wp Tryd.prog a w K Q := by
  unfold Oper.wp execOp
  simp only [ho, hty, resolve, invoke, builtin, Sem.run_bind, Sem.run_pure, Result.andThen_ok, List.map_toArray, List.map_cons, List.map_nil, hs, hx, hrun]
  exact hK
theorem info52 (x : S52) : (Tryd.prog.info? 52).map (·.size) = some (lC x).size := by kernel_rfl
theorem stL {ops : Array Oper} {rest : List Oper} {dst : Option Tmp} {ty : TypeId} {pos : String} {af : Array Edge} {a : Act} {w : World} {Q : Exit → Act → World → Prop} (x y : Operand) (g : Nat) (p q : S52)
    (hx : a.eval x = .pointer (some ⟨g, 0, none⟩)) (hy : a.eval y = .agg (lC p)) (hg : w.heap[g]? = some (.cells (lC q) 52 (0, 0)))
    (hh : wpList Tryd.prog ops Q rest (a.put dst undef) (w.setRow g (lC p))) : wpList Tryd.prog ops Q ({ dst := dst, op := .store 52 x y, type := ty, pos := pos, after := af, guard := none } :: rest) a w :=
  wpList_store_row rfl 52 x y rfl g (lC p) hx hy 52 (lC q) hg (info52 p) rfl (by simp [lC, Value.oneCell']) hh
def RelP (w : World) (g bl : Nat) (s : ByteArray) (LL : List ByteArray) (last : Nat) (R : Option (List S52)) (i : Value) (wr : World) : Prop :=
  ∃ (k : Nat) (acc : List S52) (h : Hp), k ≤ last ∧ i = .int .i64 k ∧ acc.length = k ∧ pl acc ((LL.take last).drop k) = R ∧ IsT g s acc h ∧ Holds w (h ++ [(bl, .cells (LL.map Value.string).toArray 9)]) wr
theorem ro_form {v : Value} {n : Nat} {xs : List Value} {h : Hp} (R : RowB 52 2 v n xs h) : ∃ A c, v = .slice A n c := by
  rcases R.2 with ⟨rfl, h0, _⟩ | ⟨g, cap, cur, rfl, _⟩
  · subst h0
    exact ⟨none, 0, rfl⟩
  · exact ⟨_, cap, rfl⟩
theorem ro_last {A : Option Addr} {c : Nat} {acc : List S52} {hv : Hp} (R : RowB 52 2 (.slice A acc.length c) acc.length (lV acc) hv) (z : S52) (hz : acc[acc.length - 1]? = some z) : ∃ gr, A = some ⟨gr, 0, none⟩ ∧ ∀ w0 F w, Holds w0 (hv ++ F) w →
    w.cell? ⟨gr, (acc.length - 1) * 2, none⟩ = some (.int .i64 z.f0) ∧ w.cell? ⟨gr, (acc.length - 1) * 2 + 1, none⟩ = some (.int .i64 z.f1) := by
  rcases R.2 with ⟨e, h0, _⟩ | ⟨g, cap, cur, e, hh, h1, h2, h3, h4⟩
  · have : acc = [] := List.eq_nil_of_length_eq_zero h0
    subst this
    simp at hz
  · injection e with e1 e2 e3
    subst e1
    refine ⟨g, rfl, fun w0 F w H => ?_⟩
    subst hh
    have hg := lV_get acc _ z hz
    rw [← h4] at hg
    have hc := fun j => H.cell j
    refine ⟨?_, ?_⟩
    · rw [hc]
      have := hg.1
      rw [List.getElem?_take] at this
      split at this
      · rwa [Array.getElem?_toList] at this
      · cases this
    · rw [hc]
      have := hg.2
      rw [List.getElem?_take] at this
      split at this
      · rwa [Array.getElem?_toList] at this
      · cases this
/-- What Parse hands back. -/
def Out (s : ByteArray) (w : World) (e : Ending) (w' : World) : Prop :=
  (∃ n l, parse s = (n, l) ∧ n ≠ 0 ∧ e = .returned (.tuple #[.pointer none, .int .i64 n]) ∧ Below w.heap.size w w') ∨
  ∃ l g hh, parse s = (0, l) ∧ e = .returned (.tuple #[.pointer (some ⟨g, 0, none⟩), .int .i64 0]) ∧ IsT g s l hh ∧ Holds w hh w'
set_option maxRecDepth 100000 in
set_option maxHeartbeats 16000000 in
theorem loop_calls (s : ByteArray) (w : World) (hs : s.size ≤ 1000000) (hrd : ∀ x ∈ lines s, leap_read.f 300 x = some (rdv x)) : Calls Tryd.prog 10 #[.string s] w (Out s w) := by
  have HS := Lib.hid (split_calls s)
  have hl := lines_len s
  have hle := Lib.countB_le nl (by decide) s.size s (Nat.le_refl _)
  have h2m : (lines s).length ≤ 1000001 := by omega
  clear hle
  obtain ⟨LL, hLL⟩ : ∃ LL, LL = lines s := ⟨_, rfl⟩
  rw [← hLL] at h2m
  obtain ⟨n, hn⟩ : ∃ n, n = LL.length := ⟨_, rfl⟩
  rw [← hn] at h2m
  have hn1 : 1 ≤ n := by rw [hn, hLL]; omega
  obtain ⟨last, hlast⟩ : ∃ last, last = n - 1 := ⟨_, rfl⟩
  obtain rfl : n = last + 1 := by omega
  clear hlast hn1 hl
  obtain ⟨e, he⟩ : ∃ e, LL[last]? = some e := ⟨_, List.getElem?_eq_getElem (by omega)⟩
  have hpar : parse s = (if 60 < last + (if e.toList.isEmpty = true then 0 else 1) then ((2 : Int), ([] : List S52)) else if last = 0 ∨ e.toList.isEmpty = false then (3, []) else match pl [] (LL.take last) with | none => (3, []) | some l => (0, l)) := by
    unfold parse
    rw [← hLL, ← hn, Nat.add_sub_cancel, List.getD_eq_getElem?_getD, he, Option.getD_some]
  rw [← hLL] at HS hrd
  rw [← hn] at HS
  have HP := Lib.hid hpar
  have HRD := Lib.hid hrd
  have HN := Lib.hid hn
  have HE := Lib.hid he
  clear hpar hLL he hn hrd
  have HH0 := Lib.hid ((Holds.nil w).alloc (.cells (LL.map Value.string).toArray 9))
  have HC := Lib.hid (fun w' (F : Hp) (H : Holds w ((w.heap.size, .cells (LL.map Value.string).toArray 9) :: F) w') (k : Nat) (x : ByteArray) (hk : LL[k]? = some x) => show w'.cell? ⟨w.heap.size, k, none⟩ = some (.string x) from by rw [H.cell k]; simp [hk])
  obtain ⟨bl, hbl⟩ : ∃ bl, bl = w.heap.size := ⟨_, rfl⟩
  obtain ⟨w1, hw1⟩ : ∃ w1, w1 = w.alloc (.cells (LL.map Value.string).toArray 9) := ⟨_, rfl⟩
  have HHs := Lib.hid (HS.out w hs)
  rw [← hbl, ← hw1] at HHs
  rw [← hbl, ← hw1] at HH0
  rw [← hbl] at HC
  clear HS
  have c0 := HC.out w1 [] HH0.out last e HE.out
  clear hbl hw1
  have hw64 : wrap64 (last : Int) = (last : Int) := by unfold wrap64; omega
  have htn : ((last : Int)).toNat = last := Int.toNat_natCast _
  have clt : (last : Int) < ((last : Int) + 1) := by omega
  go_enter Tryd.func10, Tryd.ntmps10
  go_wp2_with fail
  refine HHs.out.mono ?_
  rintro e' w1' ⟨rfl, rfl⟩
  by_cases hem : e.toList.isEmpty = true
  · by_cases h60 : (60 : Int) < (last : Int)
    · go_wp2_with fail
      exact bodyPost_ret (v := .tuple #[.pointer none, .int .i64 2]) (by simp [results, Tryd.results10, go_sem]) rfl (Or.inl ⟨2, [], by rw [HP.out, if_pos hem, if_pos (by omega)], by decide, rfl, HH0.out.below⟩)
    by_cases h0 : last = 0
    · subst h0
      go_wp2_with fail
      exact bodyPost_ret (v := .tuple #[.pointer none, .int .i64 3]) (by simp [results, Tryd.results10, go_sem]) rfl (Or.inl ⟨3, [], by rw [HP.out, if_pos hem, if_neg (by omega)]; simp, by decide, rfl, HH0.out.below⟩)
    have h0' : ((last : Int) == 0) = false := by rw [beq_eq_false_iff_ne]; omega
    have hpp : parse s = match pl [] (LL.take last) with | none => ((3 : Int), ([] : List S52)) | some l => (0, l) := by rw [HP.out, if_pos hem, if_neg (by omega), if_neg (by rw [hem]; simp; exact h0)]
    have HPP := Lib.hid hpp
    have H1 := Lib.hid (HH0.out.alloc (.cells #[.string s, .slice none 0 0] 50))
    clear hpp HP
    go_wp2_with fail
    obtain ⟨g, hg⟩ : ∃ g, g = w1'.heap.size := ⟨_, rfl⟩
    obtain ⟨W1, hW1⟩ : ∃ W1, W1 = w1'.alloc (.cells #[.string s, .slice none 0 0] 50) := ⟨_, rfl⟩
    rw [← hg, ← hW1] at H1
    rw [← hg, ← hW1]
    clear hg hW1 HH0 c0
    obtain ⟨R, hR⟩ : ∃ R, R = pl [] (LL.take last) := ⟨_, rfl⟩
    rw [← hR] at HPP
    go_loopw [45] (fun i wr => RelP w g bl s LL last R i wr) (fun i _ => last - (intOf i).toNat)
    case atStart => exact ⟨0, [], [(g, .cells #[.string s, .slice none 0 0] 50)], by omega, rfl, rfl, hR.symm, ⟨none, 0, [], RowB.nil _ _, rfl⟩, H1.out⟩
    case round =>
      obtain ⟨k, acc, h, hk, rfl, hacc, hpl, hI, hH⟩ := hrel
      clear hR H1
      subst hacc
      by_cases hlt : acc.length < last
      · obtain ⟨x0, hx0⟩ : ∃ x0, LL[acc.length]? = some x0 := ⟨_, List.getElem?_eq_getElem (by have := HN.out; omega)⟩
        have hdr : (LL.take last).drop acc.length = x0 :: (LL.take last).drop (acc.length + 1) := by
          have h1 : (LL.take last)[acc.length]? = some x0 := by rw [List.getElem?_take, if_pos hlt]; exact hx0
          obtain ⟨h2, h3⟩ := List.getElem?_eq_some_iff.mp h1
          rw [List.drop_eq_getElem_cons h2, h3]
        rw [hdr] at hpl
        have HRDx := Lib.hid (HRD.out x0 (List.mem_of_getElem? hx0))
        have c1 := HC.out wr h (hH.perm (List.perm_append_comm (l₁ := h))) acc.length x0 hx0
        obtain ⟨rest, hrest⟩ : ∃ rest, rest = (LL.take last).drop (acc.length + 1) := ⟨_, rfl⟩
        rw [← hrest] at hpl
        unfold pl at hpl
        obtain ⟨d, hd⟩ : ∃ d, d = (rdv x0).1 := ⟨_, rfl⟩
        obtain ⟨o, ho⟩ : ∃ o, o = (rdv x0).2.1 := ⟨_, rfl⟩
        obtain ⟨ok, hok⟩ : ∃ ok, ok = (rdv x0).2.2 := ⟨_, rfl⟩
        rw [show rdv x0 = (d, o, ok) by rw [hd, ho, hok]] at HRDx
        rw [← hd, ← ho, ← hok] at hpl
        have hxl : (acc.length : Int) < (last : Int) := by omega
        have HREST := Lib.hid hrest
        have hlen := HN.out
        obtain ⟨A, c, hv, hR0, rfl⟩ := hI
        have HRV := Lib.hid hR0
        have HHr := Lib.hid hH
        have HPLx := Lib.hid hpl
        clear hdr hx0 hd ho hok hrest hR0 hH hpl hlen
        go_wp2_with fail
        refine (leap_read.calls 300 x0 d o ok _ HRDx.out).mono ?_
        rintro e' u ⟨rfl, hb⟩
        have k1 := (HHr.out.grow hb).alloc (.cells (lC ⟨0, 0⟩) 52)
        obtain ⟨b, hbb⟩ : ∃ b, b = u.heap.size := ⟨_, rfl⟩
        have g1 : (u.alloc (.cells #[.int .i64 0, .int .i64 0] 52)).heap[u.heap.size]? = some (.cells (lC ⟨0, 0⟩) 52 (0, 0)) := k1.get
        have k2 := (k1.turn (row_grown _ u.heap.size (lC ⟨d, o⟩)) (setRow_heap _ _ _ _ _ _ k1.get))
        obtain ⟨W5, hW5⟩ : ∃ W5, W5 = (u.alloc (.cells #[.int .i64 0, .int .i64 0] 52)).setRow u.heap.size (lC ⟨d, o⟩) := ⟨_, rfl⟩
        have k3 : Holds w (((g, Obj.cells #[.string s, .slice A acc.length c] 50) :: (hv ++ ((b, Obj.cells (lC ⟨d, o⟩) 52) :: [(bl, .cells (LL.map Value.string).toArray 9)])))) W5 := by rw [hW5, hbb]; exact k2.perm (by classical rw [List.perm_iff_count]; intro a; simp only [List.count_append, List.count_cons, List.count_nil]; omega)
        have HQ := Lib.hid k3
        have HW5 := Lib.hid hW5
        have HBB := Lib.hid hbb
        clear hb k1 k2 k3 hW5 hbb HHr
        go_wp2_with (with_reducible refine stL (.tmp 10) (.tmp 52) u.heap.size ⟨d, o⟩ ⟨0, 0⟩ rfl rfl g1 ?_)
        rw [← HW5.out, ← HBB.out]
        clear g1 HW5
        obtain ⟨x, hxx⟩ : ∃ x : S52, x = ⟨d, o⟩ := ⟨_, rfl⟩
        rw [← hxx] at HQ HPLx
        cases ok with
        | false =>
          have HRN := Lib.hid (show R = none from HPLx.out.symm)
          clear hxx
          refine wp_region_own 27 (fun _ => []) (by kernel_rfl) (by kernel_rfl) (by kernel_rfl) (by kernel_rfl) (Nat.le_of_ble_eq_true (by kernel_rfl)) w (fun Ls hs => hs = ((g, Obj.cells #[.string s, .slice A acc.length c] 50) :: (hv ++ ((b, Obj.cells (lC x) 52) :: [(bl, .cells (LL.map Value.string).toArray 9)])))) (fun i v h => match i with | 0 => v = .bool false ∧ h = [] | 1 => v = .bool true ∧ h = [] | 2 => v = .bool true ∧ h = [] | 3 => v = undef ∧ h = [] | 4 => v = undef ∧ h = [] | 5 => v = undef ∧ h = [] | 6 => v = undef ∧ h = [] | 7 => v = undef ∧ h = [] | 8 => v = undef ∧ h = [] | 9 => v = undef ∧ h = [] | 10 => v = undef ∧ h = [] | 11 => v = undef ∧ h = [] | 12 => v = undef ∧ h = [] | 13 => v = undef ∧ h = [] | 14 => v = undef ∧ h = [] | 15 => v = undef ∧ h = [] | 16 => v = undef ∧ h = [] | 17 => v = undef ∧ h = [] | 18 => v = undef ∧ h = [] | 19 => v = undef ∧ h = [] | 20 => v = undef ∧ h = [] | 21 => v = undef ∧ h = [] | 22 => v = undef ∧ h = [] | 23 => v = undef ∧ h = [] | 24 => v = undef ∧ h = [] | 25 => v = undef ∧ h = [] | 26 => v = .bool true ∧ h = [] | _ => True) (((g, Obj.cells #[.string s, .slice A acc.length c] 50) :: (hv ++ ((b, Obj.cells (lC x) 52) :: [(bl, .cells (LL.map Value.string).toArray 9)])))) (rfl) (HQ.out.drew) ?_ ?_
          · intro i o hi ho Ls f Hf hs R w1 hI hL hd hH
            simp only [fill, List.take_succ_cons, List.take_zero, Act.put, List.setIfInBounds_toArray, List.set_cons_zero, List.set_cons_succ]
            match i, hi with
            | 0, _ =>
              obtain rfl := Option.some.inj ho
              clear hd ho
              have hH : Holds w (hs ++ ([] ++ R)) w1 := hH
              subst hI
              unfold wpOp
              refine Or.inl ?_
              unfold Oper.wp
              go_simp
              exact OwnBy.mk _ _ _ rfl (rfl) (⟨rfl, rfl⟩) (hH)
            | 1, _ =>
              obtain rfl := Option.some.inj ho
              have e0 : f 0 = .bool false := (hd ⟨0, .data⟩ (by simp) rfl).2.1
              clear hd ho
              have hH : Holds w (hs ++ ([] ++ R)) w1 := hH
              subst hI
              unfold wpOp
              refine Or.inl ?_
              simp only [e0]
              unfold Oper.wp
              go_simp
              exact OwnBy.mk _ _ _ rfl (rfl) (⟨rfl, rfl⟩) (hH)
            | 2, _ =>
              obtain rfl := Option.some.inj ho
              have e1 : f 1 = .bool true := (hd ⟨1, .data⟩ (by simp) rfl).2.1
              clear hd ho
              have hH : Holds w (hs ++ ([] ++ R)) w1 := hH
              subst hI
              unfold wpOp
              refine Or.inl ?_
              simp only [e1]
              unfold Oper.wp
              go_simp
              exact OwnBy.mk _ _ _ rfl (rfl) (⟨rfl, rfl⟩) (hH)
            | 3, _ =>
              obtain rfl := Option.some.inj ho
              have e2 : f 2 = .bool true := (hd ⟨2, .guard⟩ (by simp) rfl).2.1
              clear hd ho
              have hH : Holds w (hs ++ ([] ++ R)) w1 := hH
              subst hI
              unfold wpOp
              simp only [e2]
              refine Eq.mpr (if_neg (fun h => absurd (show false = true from h) (by decide))) ?_
              exact OwnBy.mk undef [] _ rfl (rfl) ⟨rfl, rfl⟩ hH
            | 4, _ =>
              obtain rfl := Option.some.inj ho
              have e2 : f 2 = .bool true := (hd ⟨2, .guard⟩ (by simp) rfl).2.1
              clear hd ho
              have hH : Holds w (hs ++ ([] ++ R)) w1 := hH
              subst hI
              unfold wpOp
              simp only [e2]
              refine Eq.mpr (if_neg (fun h => absurd (show false = true from h) (by decide))) ?_
              exact OwnBy.mk undef [] _ rfl (rfl) ⟨rfl, rfl⟩ hH
            | 5, _ =>
              obtain rfl := Option.some.inj ho
              have e2 : f 2 = .bool true := (hd ⟨2, .guard⟩ (by simp) rfl).2.1
              clear hd ho
              have hH : Holds w (hs ++ ([] ++ R)) w1 := hH
              subst hI
              unfold wpOp
              simp only [e2]
              refine Eq.mpr (if_neg (fun h => absurd (show false = true from h) (by decide))) ?_
              exact OwnBy.mk undef [] _ rfl (rfl) ⟨rfl, rfl⟩ hH
            | 6, _ =>
              obtain rfl := Option.some.inj ho
              have e2 : f 2 = .bool true := (hd ⟨2, .guard⟩ (by simp) rfl).2.1
              clear hd ho
              have hH : Holds w (hs ++ ([] ++ R)) w1 := hH
              subst hI
              unfold wpOp
              simp only [e2]
              refine Eq.mpr (if_neg (fun h => absurd (show false = true from h) (by decide))) ?_
              exact OwnBy.mk undef [] _ rfl (rfl) ⟨rfl, rfl⟩ hH
            | 7, _ =>
              obtain rfl := Option.some.inj ho
              have e2 : f 2 = .bool true := (hd ⟨2, .guard⟩ (by simp) rfl).2.1
              clear hd ho
              have hH : Holds w (hs ++ ([] ++ R)) w1 := hH
              subst hI
              unfold wpOp
              simp only [e2]
              refine Eq.mpr (if_neg (fun h => absurd (show false = true from h) (by decide))) ?_
              exact OwnBy.mk undef [] _ rfl (rfl) ⟨rfl, rfl⟩ hH
            | 8, _ =>
              obtain rfl := Option.some.inj ho
              have e2 : f 2 = .bool true := (hd ⟨2, .guard⟩ (by simp) rfl).2.1
              clear hd ho
              have hH : Holds w (hs ++ ([] ++ R)) w1 := hH
              subst hI
              unfold wpOp
              simp only [e2]
              refine Eq.mpr (if_neg (fun h => absurd (show false = true from h) (by decide))) ?_
              exact OwnBy.mk undef [] _ rfl (rfl) ⟨rfl, rfl⟩ hH
            | 9, _ =>
              obtain rfl := Option.some.inj ho
              have e2 : f 2 = .bool true := (hd ⟨2, .guard⟩ (by simp) rfl).2.1
              clear hd ho
              have hH : Holds w (hs ++ ([] ++ R)) w1 := hH
              subst hI
              unfold wpOp
              simp only [e2]
              refine Eq.mpr (if_neg (fun h => absurd (show false = true from h) (by decide))) ?_
              exact OwnBy.mk undef [] _ rfl (rfl) ⟨rfl, rfl⟩ hH
            | 10, _ =>
              obtain rfl := Option.some.inj ho
              have e9 : f 9 = undef := (hd ⟨9, .guard⟩ (by simp) rfl).2.1
              clear hd ho
              have hH : Holds w (hs ++ ([] ++ R)) w1 := hH
              subst hI
              unfold wpOp
              simp only [e9]
              refine Eq.mpr (if_neg (fun h => absurd (show false = true from h) (by decide))) ?_
              exact OwnBy.mk undef [] _ rfl (rfl) ⟨rfl, rfl⟩ hH
            | 11, _ =>
              obtain rfl := Option.some.inj ho
              have e9 : f 9 = undef := (hd ⟨9, .guard⟩ (by simp) rfl).2.1
              clear hd ho
              have hH : Holds w (hs ++ ([] ++ R)) w1 := hH
              subst hI
              unfold wpOp
              simp only [e9]
              refine Eq.mpr (if_neg (fun h => absurd (show false = true from h) (by decide))) ?_
              exact OwnBy.mk undef [] _ rfl (rfl) ⟨rfl, rfl⟩ hH
            | 12, _ =>
              obtain rfl := Option.some.inj ho
              have e9 : f 9 = undef := (hd ⟨9, .guard⟩ (by simp) rfl).2.1
              clear hd ho
              have hH : Holds w (hs ++ ([] ++ R)) w1 := hH
              subst hI
              unfold wpOp
              simp only [e9]
              refine Eq.mpr (if_neg (fun h => absurd (show false = true from h) (by decide))) ?_
              exact OwnBy.mk undef [] _ rfl (rfl) ⟨rfl, rfl⟩ hH
            | 13, _ =>
              obtain rfl := Option.some.inj ho
              have e9 : f 9 = undef := (hd ⟨9, .guard⟩ (by simp) rfl).2.1
              clear hd ho
              have hH : Holds w (hs ++ ([] ++ R)) w1 := hH
              subst hI
              unfold wpOp
              simp only [e9]
              refine Eq.mpr (if_neg (fun h => absurd (show false = true from h) (by decide))) ?_
              exact OwnBy.mk undef [] _ rfl (rfl) ⟨rfl, rfl⟩ hH
            | 14, _ =>
              obtain rfl := Option.some.inj ho
              have e9 : f 9 = undef := (hd ⟨9, .guard⟩ (by simp) rfl).2.1
              clear hd ho
              have hH : Holds w (hs ++ ([] ++ R)) w1 := hH
              subst hI
              unfold wpOp
              simp only [e9]
              refine Eq.mpr (if_neg (fun h => absurd (show false = true from h) (by decide))) ?_
              exact OwnBy.mk undef [] _ rfl (rfl) ⟨rfl, rfl⟩ hH
            | 15, _ =>
              obtain rfl := Option.some.inj ho
              have e9 : f 9 = undef := (hd ⟨9, .guard⟩ (by simp) rfl).2.1
              clear hd ho
              have hH : Holds w (hs ++ ([] ++ R)) w1 := hH
              subst hI
              unfold wpOp
              simp only [e9]
              refine Eq.mpr (if_neg (fun h => absurd (show false = true from h) (by decide))) ?_
              exact OwnBy.mk undef [] _ rfl (rfl) ⟨rfl, rfl⟩ hH
            | 16, _ =>
              obtain rfl := Option.some.inj ho
              have e9 : f 9 = undef := (hd ⟨9, .guard⟩ (by simp) rfl).2.1
              clear hd ho
              have hH : Holds w (hs ++ ([] ++ R)) w1 := hH
              subst hI
              unfold wpOp
              simp only [e9]
              refine Eq.mpr (if_neg (fun h => absurd (show false = true from h) (by decide))) ?_
              exact OwnBy.mk undef [] _ rfl (rfl) ⟨rfl, rfl⟩ hH
            | 17, _ =>
              obtain rfl := Option.some.inj ho
              have e9 : f 9 = undef := (hd ⟨9, .guard⟩ (by simp) rfl).2.1
              clear hd ho
              have hH : Holds w (hs ++ ([] ++ R)) w1 := hH
              subst hI
              unfold wpOp
              simp only [e9]
              refine Eq.mpr (if_neg (fun h => absurd (show false = true from h) (by decide))) ?_
              exact OwnBy.mk undef [] _ rfl (rfl) ⟨rfl, rfl⟩ hH
            | 18, _ =>
              obtain rfl := Option.some.inj ho
              have e9 : f 9 = undef := (hd ⟨9, .guard⟩ (by simp) rfl).2.1
              clear hd ho
              have hH : Holds w (hs ++ ([] ++ R)) w1 := hH
              subst hI
              unfold wpOp
              simp only [e9]
              refine Eq.mpr (if_neg (fun h => absurd (show false = true from h) (by decide))) ?_
              exact OwnBy.mk undef [] _ rfl (rfl) ⟨rfl, rfl⟩ hH
            | 19, _ =>
              obtain rfl := Option.some.inj ho
              have e9 : f 9 = undef := (hd ⟨9, .guard⟩ (by simp) rfl).2.1
              clear hd ho
              have hH : Holds w (hs ++ ([] ++ R)) w1 := hH
              subst hI
              unfold wpOp
              simp only [e9]
              refine Eq.mpr (if_neg (fun h => absurd (show false = true from h) (by decide))) ?_
              exact OwnBy.mk undef [] _ rfl (rfl) ⟨rfl, rfl⟩ hH
            | 20, _ =>
              obtain rfl := Option.some.inj ho
              have e9 : f 9 = undef := (hd ⟨9, .guard⟩ (by simp) rfl).2.1
              clear hd ho
              have hH : Holds w (hs ++ ([] ++ R)) w1 := hH
              subst hI
              unfold wpOp
              simp only [e9]
              refine Eq.mpr (if_neg (fun h => absurd (show false = true from h) (by decide))) ?_
              exact OwnBy.mk undef [] _ rfl (rfl) ⟨rfl, rfl⟩ hH
            | 21, _ =>
              obtain rfl := Option.some.inj ho
              have e9 : f 9 = undef := (hd ⟨9, .guard⟩ (by simp) rfl).2.1
              clear hd ho
              have hH : Holds w (hs ++ ([] ++ R)) w1 := hH
              subst hI
              unfold wpOp
              simp only [e9]
              refine Eq.mpr (if_neg (fun h => absurd (show false = true from h) (by decide))) ?_
              exact OwnBy.mk undef [] _ rfl (rfl) ⟨rfl, rfl⟩ hH
            | 22, _ =>
              obtain rfl := Option.some.inj ho
              have e9 : f 9 = undef := (hd ⟨9, .guard⟩ (by simp) rfl).2.1
              clear hd ho
              have hH : Holds w (hs ++ ([] ++ R)) w1 := hH
              subst hI
              unfold wpOp
              simp only [e9]
              refine Eq.mpr (if_neg (fun h => absurd (show false = true from h) (by decide))) ?_
              exact OwnBy.mk undef [] _ rfl (rfl) ⟨rfl, rfl⟩ hH
            | 23, _ =>
              obtain rfl := Option.some.inj ho
              have e9 : f 9 = undef := (hd ⟨9, .guard⟩ (by simp) rfl).2.1
              clear hd ho
              have hH : Holds w (hs ++ ([] ++ R)) w1 := hH
              subst hI
              unfold wpOp
              simp only [e9]
              refine Eq.mpr (if_neg (fun h => absurd (show false = true from h) (by decide))) ?_
              exact OwnBy.mk undef [] _ rfl (rfl) ⟨rfl, rfl⟩ hH
            | 24, _ =>
              obtain rfl := Option.some.inj ho
              have e9 : f 9 = undef := (hd ⟨9, .guard⟩ (by simp) rfl).2.1
              clear hd ho
              have hH : Holds w (hs ++ ([] ++ R)) w1 := hH
              subst hI
              unfold wpOp
              simp only [e9]
              refine Eq.mpr (if_neg (fun h => absurd (show false = true from h) (by decide))) ?_
              exact OwnBy.mk undef [] _ rfl (rfl) ⟨rfl, rfl⟩ hH
            | 25, _ =>
              obtain rfl := Option.some.inj ho
              have e2 : f 2 = .bool true := (hd ⟨2, .guard⟩ (by simp) rfl).2.1
              clear hd ho
              have hH : Holds w (hs ++ ([] ++ R)) w1 := hH
              subst hI
              unfold wpOp
              simp only [e2]
              refine Eq.mpr (if_neg (fun h => absurd (show false = true from h) (by decide))) ?_
              exact OwnBy.mk undef [] _ rfl (rfl) ⟨rfl, rfl⟩ hH
            | 26, _ =>
              obtain rfl := Option.some.inj ho
              have e2 : f 2 = .bool true := (hd ⟨2, .data⟩ (by simp) rfl).2.1
              clear hd ho
              have hH : Holds w (hs ++ ([] ++ R)) w1 := hH
              subst hI
              unfold wpOp
              refine Or.inl ?_
              simp only [e2]
              unfold Oper.wp
              go_simp
              exact OwnBy.mk _ _ _ rfl (rfl) (⟨rfl, rfl⟩) (hH)
            | _ + 27, h27 => exact absurd h27 (by omega)
          · intro Ls f Hf hs w1 hI hL hV hH
            have e0 : f 0 = .bool false := (hV 0 (by decide)).1
            have e1 : f 1 = .bool true := (hV 1 (by decide)).1
            have e2 : f 2 = .bool true := (hV 2 (by decide)).1
            have e3 : f 3 = undef := (hV 3 (by decide)).1
            have e4 : f 4 = undef := (hV 4 (by decide)).1
            have e5 : f 5 = undef := (hV 5 (by decide)).1
            have e6 : f 6 = undef := (hV 6 (by decide)).1
            have e7 : f 7 = undef := (hV 7 (by decide)).1
            have e8 : f 8 = undef := (hV 8 (by decide)).1
            have e9 : f 9 = undef := (hV 9 (by decide)).1
            have e10 : f 10 = undef := (hV 10 (by decide)).1
            have e11 : f 11 = undef := (hV 11 (by decide)).1
            have e12 : f 12 = undef := (hV 12 (by decide)).1
            have e13 : f 13 = undef := (hV 13 (by decide)).1
            have e14 : f 14 = undef := (hV 14 (by decide)).1
            have e15 : f 15 = undef := (hV 15 (by decide)).1
            have e16 : f 16 = undef := (hV 16 (by decide)).1
            have e17 : f 17 = undef := (hV 17 (by decide)).1
            have e18 : f 18 = undef := (hV 18 (by decide)).1
            have e19 : f 19 = undef := (hV 19 (by decide)).1
            have e20 : f 20 = undef := (hV 20 (by decide)).1
            have e21 : f 21 = undef := (hV 21 (by decide)).1
            have e22 : f 22 = undef := (hV 22 (by decide)).1
            have e23 : f 23 = undef := (hV 23 (by decide)).1
            have e24 : f 24 = undef := (hV 24 (by decide)).1
            have e25 : f 25 = undef := (hV 25 (by decide)).1
            have e26 : f 26 = .bool true := (hV 26 (by decide)).1
            clear hV
            have hH : Holds w (hs ++ []) w1 := hH
            simp only [fill, List.take_succ_cons, List.take_zero, List.drop_succ_cons, List.drop_zero, Act.put, List.setIfInBounds_toArray, List.set_cons_zero, List.set_cons_succ, e0, e1, e2, e3, e4, e5, e6, e7, e8, e9, e10, e11, e12, e13, e14, e15, e16, e17, e18, e19, e20, e21, e22, e23, e24, e25, e26]
            subst hI
            have HQ2 := Lib.hid (show Holds w ((g, Obj.cells #[.string s, .slice A acc.length c] 50) :: (hv ++ ((b, Obj.cells (lC x) 52) :: [(bl, .cells (LL.map Value.string).toArray 9)]))) w1 from by simpa using hH)
            clear hH hL
            go_wp2_with fail
            exact bodyPost_ret (v := .tuple #[.pointer none, .int .i64 3]) (by simp [results, Tryd.results10, go_sem]) rfl (Or.inl ⟨3, [], by rw [HPP.out, HRN.out], by decide, rfl, HQ2.out.below⟩)
        | true =>
          rw [if_pos rfl] at HPLx
          clear hxx
          cases hz : acc[acc.length - 1]? with
          | none =>
            rw [hz] at HPLx
            have HPL := HPLx
            have hl0 : acc.length = 0 := by have := List.getElem?_eq_none_iff.mp hz; omega
            have HL0 := Lib.hid hl0
            clear hz HPLx hl0
            refine wp_region_own 27 (fun _ => []) (by kernel_rfl) (by kernel_rfl) (by kernel_rfl) (by kernel_rfl) (Nat.le_of_ble_eq_true (by kernel_rfl)) w (fun Ls hs => hs = ((g, Obj.cells #[.string s, .slice A acc.length c] 50) :: (hv ++ ((b, Obj.cells (lC x) 52) :: [(bl, .cells (LL.map Value.string).toArray 9)])))) (fun i v h => match i with | 0 => v = .bool true ∧ h = [] | 1 => v = .bool false ∧ h = [] | 2 => v = .bool false ∧ h = [] | 3 => v = .pointer (some ⟨g, 0, none⟩) ∧ h = [] | 4 => v = .pointer (some ⟨g, 0, none⟩) ∧ h = [] | 5 => v = .pointer (some ⟨g, 1, none⟩) ∧ h = [] | 6 => v = .slice A acc.length c ∧ h = [] | 7 => v = .int .i64 acc.length ∧ h = [] | 8 => v = .bool false ∧ h = [] | 9 => v = .bool false ∧ h = [] | 10 => v = undef ∧ h = [] | 11 => v = undef ∧ h = [] | 12 => v = undef ∧ h = [] | 13 => v = undef ∧ h = [] | 14 => v = undef ∧ h = [] | 15 => v = undef ∧ h = [] | 16 => v = undef ∧ h = [] | 17 => v = undef ∧ h = [] | 18 => v = undef ∧ h = [] | 19 => v = undef ∧ h = [] | 20 => v = undef ∧ h = [] | 21 => v = undef ∧ h = [] | 22 => v = undef ∧ h = [] | 23 => v = undef ∧ h = [] | 24 => v = undef ∧ h = [] | 25 => v = .bool false ∧ h = [] | 26 => v = .bool false ∧ h = [] | _ => True) (((g, Obj.cells #[.string s, .slice A acc.length c] 50) :: (hv ++ ((b, Obj.cells (lC x) 52) :: [(bl, .cells (LL.map Value.string).toArray 9)])))) (rfl) (HQ.out.drew) ?_ ?_
            · intro i o hi ho Ls f Hf hs R w1 hI hL hd hH
              simp only [fill, List.take_succ_cons, List.take_zero, Act.put, List.setIfInBounds_toArray, List.set_cons_zero, List.set_cons_succ]
              match i, hi with
              | 0, _ =>
                obtain rfl := Option.some.inj ho
                clear hd ho
                have hH : Holds w (hs ++ ([] ++ R)) w1 := hH
                subst hI
                unfold wpOp
                refine Or.inl ?_
                unfold Oper.wp
                go_simp
                exact OwnBy.mk _ _ _ rfl (rfl) (⟨rfl, rfl⟩) (hH)
              | 1, _ =>
                obtain rfl := Option.some.inj ho
                have e0 : f 0 = .bool true := (hd ⟨0, .data⟩ (by simp) rfl).2.1
                clear hd ho
                have hH : Holds w (hs ++ ([] ++ R)) w1 := hH
                subst hI
                unfold wpOp
                refine Or.inl ?_
                simp only [e0]
                unfold Oper.wp
                go_simp
                exact OwnBy.mk _ _ _ rfl (rfl) (⟨rfl, rfl⟩) (hH)
              | 2, _ =>
                obtain rfl := Option.some.inj ho
                have e1 : f 1 = .bool false := (hd ⟨1, .data⟩ (by simp) rfl).2.1
                clear hd ho
                have hH : Holds w (hs ++ ([] ++ R)) w1 := hH
                subst hI
                unfold wpOp
                refine Or.inl ?_
                simp only [e1]
                unfold Oper.wp
                go_simp
                exact OwnBy.mk _ _ _ rfl (rfl) (⟨rfl, rfl⟩) (hH)
              | 3, _ =>
                obtain rfl := Option.some.inj ho
                have e2 : f 2 = .bool false := (hd ⟨2, .guard⟩ (by simp) rfl).2.1
                clear hd ho
                have hH : Holds w (hs ++ ([] ++ R)) w1 := hH
                subst hI
                unfold wpOp
                simp only [e2]
                refine Or.inl ?_
                unfold Oper.wp
                go_simp
                exact OwnBy.mk _ _ _ rfl (rfl) (⟨rfl, rfl⟩) (hH)
              | 4, _ =>
                obtain rfl := Option.some.inj ho
                have e3 : f 3 = .pointer (some ⟨g, 0, none⟩) := (hd ⟨3, .data⟩ (by simp) rfl).2.1
                have e2 : f 2 = .bool false := (hd ⟨2, .guard⟩ (by simp) rfl).2.1
                clear hd ho
                have hH : Holds w (hs ++ ([] ++ R)) w1 := hH
                subst hI
                unfold wpOp
                simp only [e3, e2]
                refine Or.inl ?_
                unfold Oper.wp
                go_simp
                exact OwnBy.mk _ _ _ rfl (rfl) (⟨rfl, rfl⟩) (hH)
              | 5, _ =>
                obtain rfl := Option.some.inj ho
                have e4 : f 4 = .pointer (some ⟨g, 0, none⟩) := (hd ⟨4, .data⟩ (by simp) rfl).2.1
                have e2 : f 2 = .bool false := (hd ⟨2, .guard⟩ (by simp) rfl).2.1
                clear hd ho
                have hH : Holds w (hs ++ ([] ++ R)) w1 := hH
                subst hI
                unfold wpOp
                simp only [e4, e2]
                refine Or.inl ?_
                unfold Oper.wp
                go_simp
                exact OwnBy.mk _ _ _ rfl (rfl) (⟨rfl, rfl⟩) (hH)
              | 6, _ =>
                obtain rfl := Option.some.inj ho
                have e5 : f 5 = .pointer (some ⟨g, 1, none⟩) := (hd ⟨5, .data⟩ (by simp) rfl).2.1
                have e2 : f 2 = .bool false := (hd ⟨2, .guard⟩ (by simp) rfl).2.1
                clear hd ho
                have hH : Holds w (hs ++ ([] ++ R)) w1 := hH
                subst hI
                unfold wpOp
                simp only [e5, e2]
                refine Or.inl ?_
                unfold Oper.wp
                have q1 : w1.cell? ⟨g, 1, none⟩ = some (.slice A acc.length c) := hH.cell 1
                go_simp
                exact OwnBy.mk _ _ _ rfl (rfl) (⟨rfl, rfl⟩) (hH)
              | 7, _ =>
                obtain rfl := Option.some.inj ho
                have e6 : f 6 = .slice A acc.length c := (hd ⟨6, .data⟩ (by simp) rfl).2.1
                have e2 : f 2 = .bool false := (hd ⟨2, .guard⟩ (by simp) rfl).2.1
                clear hd ho
                have hH : Holds w (hs ++ ([] ++ R)) w1 := hH
                subst hI
                unfold wpOp
                simp only [e6, e2]
                refine Or.inl ?_
                unfold Oper.wp
                go_simp
                exact OwnBy.mk _ _ _ rfl (rfl) (⟨rfl, rfl⟩) (hH)
              | 8, _ =>
                obtain rfl := Option.some.inj ho
                have e7 : f 7 = .int .i64 acc.length := (hd ⟨7, .data⟩ (by simp) rfl).2.1
                have e2 : f 2 = .bool false := (hd ⟨2, .guard⟩ (by simp) rfl).2.1
                clear hd ho
                have hH : Holds w (hs ++ ([] ++ R)) w1 := hH
                subst hI
                unfold wpOp
                simp only [e7, e2]
                refine Or.inl ?_
                unfold Oper.wp
                have hd0 : decide ((0 : Int) < (acc.length : Int)) = false := decide_eq_false (by have := HL0.out; omega)
                have hd1 : decide (0 < acc.length) = false := decide_eq_false (by have := HL0.out; omega)
                go_simp
                exact OwnBy.mk _ _ _ rfl (rfl) (⟨rfl, rfl⟩) (hH)
              | 9, _ =>
                obtain rfl := Option.some.inj ho
                have e8 : f 8 = .bool false := (hd ⟨8, .data⟩ (by simp) rfl).2.1
                have e2 : f 2 = .bool false := (hd ⟨2, .guard⟩ (by simp) rfl).2.1
                clear hd ho
                have hH : Holds w (hs ++ ([] ++ R)) w1 := hH
                subst hI
                unfold wpOp
                simp only [e8, e2]
                refine Or.inl ?_
                unfold Oper.wp
                go_simp
                exact OwnBy.mk _ _ _ rfl (rfl) (⟨rfl, rfl⟩) (hH)
              | 10, _ =>
                obtain rfl := Option.some.inj ho
                have e9 : f 9 = .bool false := (hd ⟨9, .guard⟩ (by simp) rfl).2.1
                clear hd ho
                have hH : Holds w (hs ++ ([] ++ R)) w1 := hH
                subst hI
                unfold wpOp
                simp only [e9]
                refine Eq.mpr (if_neg (fun h => absurd (show false = true from h) (by decide))) ?_
                exact OwnBy.mk undef [] _ rfl (rfl) ⟨rfl, rfl⟩ hH
              | 11, _ =>
                obtain rfl := Option.some.inj ho
                have e9 : f 9 = .bool false := (hd ⟨9, .guard⟩ (by simp) rfl).2.1
                clear hd ho
                have hH : Holds w (hs ++ ([] ++ R)) w1 := hH
                subst hI
                unfold wpOp
                simp only [e9]
                refine Eq.mpr (if_neg (fun h => absurd (show false = true from h) (by decide))) ?_
                exact OwnBy.mk undef [] _ rfl (rfl) ⟨rfl, rfl⟩ hH
              | 12, _ =>
                obtain rfl := Option.some.inj ho
                have e9 : f 9 = .bool false := (hd ⟨9, .guard⟩ (by simp) rfl).2.1
                clear hd ho
                have hH : Holds w (hs ++ ([] ++ R)) w1 := hH
                subst hI
                unfold wpOp
                simp only [e9]
                refine Eq.mpr (if_neg (fun h => absurd (show false = true from h) (by decide))) ?_
                exact OwnBy.mk undef [] _ rfl (rfl) ⟨rfl, rfl⟩ hH
              | 13, _ =>
                obtain rfl := Option.some.inj ho
                have e9 : f 9 = .bool false := (hd ⟨9, .guard⟩ (by simp) rfl).2.1
                clear hd ho
                have hH : Holds w (hs ++ ([] ++ R)) w1 := hH
                subst hI
                unfold wpOp
                simp only [e9]
                refine Eq.mpr (if_neg (fun h => absurd (show false = true from h) (by decide))) ?_
                exact OwnBy.mk undef [] _ rfl (rfl) ⟨rfl, rfl⟩ hH
              | 14, _ =>
                obtain rfl := Option.some.inj ho
                have e9 : f 9 = .bool false := (hd ⟨9, .guard⟩ (by simp) rfl).2.1
                clear hd ho
                have hH : Holds w (hs ++ ([] ++ R)) w1 := hH
                subst hI
                unfold wpOp
                simp only [e9]
                refine Eq.mpr (if_neg (fun h => absurd (show false = true from h) (by decide))) ?_
                exact OwnBy.mk undef [] _ rfl (rfl) ⟨rfl, rfl⟩ hH
              | 15, _ =>
                obtain rfl := Option.some.inj ho
                have e9 : f 9 = .bool false := (hd ⟨9, .guard⟩ (by simp) rfl).2.1
                clear hd ho
                have hH : Holds w (hs ++ ([] ++ R)) w1 := hH
                subst hI
                unfold wpOp
                simp only [e9]
                refine Eq.mpr (if_neg (fun h => absurd (show false = true from h) (by decide))) ?_
                exact OwnBy.mk undef [] _ rfl (rfl) ⟨rfl, rfl⟩ hH
              | 16, _ =>
                obtain rfl := Option.some.inj ho
                have e9 : f 9 = .bool false := (hd ⟨9, .guard⟩ (by simp) rfl).2.1
                clear hd ho
                have hH : Holds w (hs ++ ([] ++ R)) w1 := hH
                subst hI
                unfold wpOp
                simp only [e9]
                refine Eq.mpr (if_neg (fun h => absurd (show false = true from h) (by decide))) ?_
                exact OwnBy.mk undef [] _ rfl (rfl) ⟨rfl, rfl⟩ hH
              | 17, _ =>
                obtain rfl := Option.some.inj ho
                have e9 : f 9 = .bool false := (hd ⟨9, .guard⟩ (by simp) rfl).2.1
                clear hd ho
                have hH : Holds w (hs ++ ([] ++ R)) w1 := hH
                subst hI
                unfold wpOp
                simp only [e9]
                refine Eq.mpr (if_neg (fun h => absurd (show false = true from h) (by decide))) ?_
                exact OwnBy.mk undef [] _ rfl (rfl) ⟨rfl, rfl⟩ hH
              | 18, _ =>
                obtain rfl := Option.some.inj ho
                have e9 : f 9 = .bool false := (hd ⟨9, .guard⟩ (by simp) rfl).2.1
                clear hd ho
                have hH : Holds w (hs ++ ([] ++ R)) w1 := hH
                subst hI
                unfold wpOp
                simp only [e9]
                refine Eq.mpr (if_neg (fun h => absurd (show false = true from h) (by decide))) ?_
                exact OwnBy.mk undef [] _ rfl (rfl) ⟨rfl, rfl⟩ hH
              | 19, _ =>
                obtain rfl := Option.some.inj ho
                have e9 : f 9 = .bool false := (hd ⟨9, .guard⟩ (by simp) rfl).2.1
                clear hd ho
                have hH : Holds w (hs ++ ([] ++ R)) w1 := hH
                subst hI
                unfold wpOp
                simp only [e9]
                refine Eq.mpr (if_neg (fun h => absurd (show false = true from h) (by decide))) ?_
                exact OwnBy.mk undef [] _ rfl (rfl) ⟨rfl, rfl⟩ hH
              | 20, _ =>
                obtain rfl := Option.some.inj ho
                have e9 : f 9 = .bool false := (hd ⟨9, .guard⟩ (by simp) rfl).2.1
                clear hd ho
                have hH : Holds w (hs ++ ([] ++ R)) w1 := hH
                subst hI
                unfold wpOp
                simp only [e9]
                refine Eq.mpr (if_neg (fun h => absurd (show false = true from h) (by decide))) ?_
                exact OwnBy.mk undef [] _ rfl (rfl) ⟨rfl, rfl⟩ hH
              | 21, _ =>
                obtain rfl := Option.some.inj ho
                have e9 : f 9 = .bool false := (hd ⟨9, .guard⟩ (by simp) rfl).2.1
                clear hd ho
                have hH : Holds w (hs ++ ([] ++ R)) w1 := hH
                subst hI
                unfold wpOp
                simp only [e9]
                refine Eq.mpr (if_neg (fun h => absurd (show false = true from h) (by decide))) ?_
                exact OwnBy.mk undef [] _ rfl (rfl) ⟨rfl, rfl⟩ hH
              | 22, _ =>
                obtain rfl := Option.some.inj ho
                have e9 : f 9 = .bool false := (hd ⟨9, .guard⟩ (by simp) rfl).2.1
                clear hd ho
                have hH : Holds w (hs ++ ([] ++ R)) w1 := hH
                subst hI
                unfold wpOp
                simp only [e9]
                refine Eq.mpr (if_neg (fun h => absurd (show false = true from h) (by decide))) ?_
                exact OwnBy.mk undef [] _ rfl (rfl) ⟨rfl, rfl⟩ hH
              | 23, _ =>
                obtain rfl := Option.some.inj ho
                have e9 : f 9 = .bool false := (hd ⟨9, .guard⟩ (by simp) rfl).2.1
                clear hd ho
                have hH : Holds w (hs ++ ([] ++ R)) w1 := hH
                subst hI
                unfold wpOp
                simp only [e9]
                refine Eq.mpr (if_neg (fun h => absurd (show false = true from h) (by decide))) ?_
                exact OwnBy.mk undef [] _ rfl (rfl) ⟨rfl, rfl⟩ hH
              | 24, _ =>
                obtain rfl := Option.some.inj ho
                have e9 : f 9 = .bool false := (hd ⟨9, .guard⟩ (by simp) rfl).2.1
                clear hd ho
                have hH : Holds w (hs ++ ([] ++ R)) w1 := hH
                subst hI
                unfold wpOp
                simp only [e9]
                refine Eq.mpr (if_neg (fun h => absurd (show false = true from h) (by decide))) ?_
                exact OwnBy.mk undef [] _ rfl (rfl) ⟨rfl, rfl⟩ hH
              | 25, _ =>
                obtain rfl := Option.some.inj ho
                have e9 : f 9 = .bool false := (hd ⟨9, .data⟩ (by simp) rfl).2.1
                have e2 : f 2 = .bool false := (hd ⟨2, .guard⟩ (by simp) rfl).2.1
                clear hd ho
                have hH : Holds w (hs ++ ([] ++ R)) w1 := hH
                subst hI
                unfold wpOp
                simp only [e9, e2]
                refine Or.inl ?_
                unfold Oper.wp
                go_simp
                exact OwnBy.mk _ _ _ rfl (rfl) (⟨rfl, rfl⟩) (hH)
              | 26, _ =>
                obtain rfl := Option.some.inj ho
                have e2 : f 2 = .bool false := (hd ⟨2, .data⟩ (by simp) rfl).2.1
                have e25 : f 25 = .bool false := (hd ⟨25, .data⟩ (by simp) rfl).2.1
                clear hd ho
                have hH : Holds w (hs ++ ([] ++ R)) w1 := hH
                subst hI
                unfold wpOp
                refine Or.inl ?_
                simp only [e2, e25]
                unfold Oper.wp
                go_simp
                exact OwnBy.mk _ _ _ rfl (rfl) (⟨rfl, rfl⟩) (hH)
              | _ + 27, h27 => exact absurd h27 (by omega)
            · intro Ls f Hf hs w1 hI hL hV hH
              have e0 : f 0 = .bool true := (hV 0 (by decide)).1
              have e1 : f 1 = .bool false := (hV 1 (by decide)).1
              have e2 : f 2 = .bool false := (hV 2 (by decide)).1
              have e3 : f 3 = .pointer (some ⟨g, 0, none⟩) := (hV 3 (by decide)).1
              have e4 : f 4 = .pointer (some ⟨g, 0, none⟩) := (hV 4 (by decide)).1
              have e5 : f 5 = .pointer (some ⟨g, 1, none⟩) := (hV 5 (by decide)).1
              have e6 : f 6 = .slice A acc.length c := (hV 6 (by decide)).1
              have e7 : f 7 = .int .i64 acc.length := (hV 7 (by decide)).1
              have e8 : f 8 = .bool false := (hV 8 (by decide)).1
              have e9 : f 9 = .bool false := (hV 9 (by decide)).1
              have e10 : f 10 = undef := (hV 10 (by decide)).1
              have e11 : f 11 = undef := (hV 11 (by decide)).1
              have e12 : f 12 = undef := (hV 12 (by decide)).1
              have e13 : f 13 = undef := (hV 13 (by decide)).1
              have e14 : f 14 = undef := (hV 14 (by decide)).1
              have e15 : f 15 = undef := (hV 15 (by decide)).1
              have e16 : f 16 = undef := (hV 16 (by decide)).1
              have e17 : f 17 = undef := (hV 17 (by decide)).1
              have e18 : f 18 = undef := (hV 18 (by decide)).1
              have e19 : f 19 = undef := (hV 19 (by decide)).1
              have e20 : f 20 = undef := (hV 20 (by decide)).1
              have e21 : f 21 = undef := (hV 21 (by decide)).1
              have e22 : f 22 = undef := (hV 22 (by decide)).1
              have e23 : f 23 = undef := (hV 23 (by decide)).1
              have e24 : f 24 = undef := (hV 24 (by decide)).1
              have e25 : f 25 = .bool false := (hV 25 (by decide)).1
              have e26 : f 26 = .bool false := (hV 26 (by decide)).1
              clear hV
              have hH : Holds w (hs ++ []) w1 := hH
              simp only [fill, List.take_succ_cons, List.take_zero, List.drop_succ_cons, List.drop_zero, Act.put, List.setIfInBounds_toArray, List.set_cons_zero, List.set_cons_succ, e0, e1, e2, e3, e4, e5, e6, e7, e8, e9, e10, e11, e12, e13, e14, e15, e16, e17, e18, e19, e20, e21, e22, e23, e24, e25, e26]
              subst hI
              have HQ2 := Lib.hid (show Holds w ((g, Obj.cells #[.string s, .slice A acc.length c] 50) :: (hv ++ ((b, Obj.cells (lC x) 52) :: [(bl, .cells (LL.map Value.string).toArray 9)]))) w1 from by simpa using hH)
              clear hH hL
              go_wp2_with fail
              refine wp_region_own 8 (fun k => match k with | 7 => [6] | 8 => [7] | _ => []) (by kernel_rfl) (by kernel_rfl) (by kernel_rfl) (by kernel_rfl) (Nat.le_of_ble_eq_true (by kernel_rfl)) w (fun Ls hs => hs = (g, .cells #[.string s, .slice A acc.length c] 50) :: ((if Ls 7 = true then [] else hv) ++ ((b, Obj.cells (lC x) 52) :: [(bl, .cells (LL.map Value.string).toArray 9)]))) (fun i v h => match i with | 0 => v = .pointer (some ⟨g, 0, none⟩) ∧ h = [] | 1 => v = .pointer (some ⟨g, 0, none⟩) ∧ h = [] | 2 => v = .pointer (some ⟨g, 0, none⟩) ∧ h = [] | 3 => v = .pointer (some ⟨g, 1, none⟩) ∧ h = [] | 4 => v = .slice A acc.length c ∧ h = [] | 5 => v = .agg (lC x) ∧ h = [] | 6 => ∃ b7, v = .slice (some ⟨b7, 0, none⟩) 1 1 ∧ h = [(b7, .cells (lC x) 52)] | 7 => RowB 52 2 v (acc.length + 1) (lV acc ++ (lC x).toList) h | _ => True) ((g, .cells #[.string s, .slice A acc.length c] 50) :: (hv ++ ((b, Obj.cells (lC x) 52) :: [(bl, .cells (LL.map Value.string).toArray 9)]))) (rfl) (HQ2.out.drew) ?_ ?_
              · intro i o hi ho Ls f Hf hs R w1 hI hL hd hH
                simp only [fill, List.take_succ_cons, List.take_zero, Act.put, List.setIfInBounds_toArray, List.set_cons_zero, List.set_cons_succ]
                match i, hi with
                | 0, _ =>
                  obtain rfl := Option.some.inj ho
                  clear hd ho
                  have hH : Holds w (hs ++ ([] ++ R)) w1 := hH
                  subst hI
                  unfold wpOp
                  refine Or.inl ?_
                  unfold Oper.wp
                  go_simp
                  exact OwnBy.mk _ _ _ rfl (rfl) (⟨rfl, rfl⟩) (hH)
                | 1, _ =>
                  obtain rfl := Option.some.inj ho
                  clear hd ho
                  have hH : Holds w (hs ++ ([] ++ R)) w1 := hH
                  subst hI
                  unfold wpOp
                  refine Or.inl ?_
                  unfold Oper.wp
                  go_simp
                  exact OwnBy.mk _ _ _ rfl (rfl) (⟨rfl, rfl⟩) (hH)
                | 2, _ =>
                  obtain rfl := Option.some.inj ho
                  have e1 : f 1 = .pointer (some ⟨g, 0, none⟩) := (hd ⟨1, .data⟩ (by simp) rfl).2.1
                  clear hd ho
                  have hH : Holds w (hs ++ ([] ++ R)) w1 := hH
                  subst hI
                  unfold wpOp
                  refine Or.inl ?_
                  simp only [e1]
                  unfold Oper.wp
                  go_simp
                  exact OwnBy.mk _ _ _ rfl (rfl) (⟨rfl, rfl⟩) (hH)
                | 3, _ =>
                  obtain rfl := Option.some.inj ho
                  have e2 : f 2 = .pointer (some ⟨g, 0, none⟩) := (hd ⟨2, .data⟩ (by simp) rfl).2.1
                  clear hd ho
                  have hH : Holds w (hs ++ ([] ++ R)) w1 := hH
                  subst hI
                  unfold wpOp
                  refine Or.inl ?_
                  simp only [e2]
                  unfold Oper.wp
                  go_simp
                  exact OwnBy.mk _ _ _ rfl (rfl) (⟨rfl, rfl⟩) (hH)
                | 4, _ =>
                  obtain rfl := Option.some.inj ho
                  have e3 : f 3 = .pointer (some ⟨g, 1, none⟩) := (hd ⟨3, .data⟩ (by simp) rfl).2.1
                  clear hd ho
                  have hH : Holds w (hs ++ ([] ++ R)) w1 := hH
                  subst hI
                  unfold wpOp
                  refine Or.inl ?_
                  simp only [e3]
                  unfold Oper.wp
                  have q1 : w1.cell? ⟨g, 1, none⟩ = some (.slice A acc.length c) := hH.cell 1
                  go_simp
                  exact OwnBy.mk _ [] _ rfl rfl ⟨rfl, rfl⟩ hH
                | 5, _ =>
                  obtain rfl := Option.some.inj ho
                  clear hd ho
                  have hH : Holds w (hs ++ ([] ++ R)) w1 := hH
                  subst hI
                  unfold wpOp
                  refine Or.inl ?_
                  unfold Oper.wp
                  have hX : Holds w ((b, Obj.cells (lC x) 52) :: ((g, .cells #[.string s, .slice A acc.length c] 50) :: ((if Ls 7 = true then [] else hv) ++ ([(bl, .cells (LL.map Value.string).toArray 9)] ++ R)))) w1 := hH.perm (by classical rw [List.perm_iff_count]; intro a; simp only [List.count_append, List.count_cons, List.count_nil]; omega)
                  have q0 : w1.cell? ⟨b, 0, none⟩ = some (.int .i64 x.f0) := hX.cell 0
                  have q1 : w1.cell? ⟨b, 1, none⟩ = some (.int .i64 x.f1) := hX.cell 1
                  go_simp
                  exact OwnBy.mk _ [] _ rfl rfl ⟨rfl, rfl⟩ hH
                | 6, _ =>
                  obtain rfl := Option.some.inj ho
                  have e5 : f 5 = .agg (lC x) := (hd ⟨5, .data⟩ (by simp) rfl).2.1
                  clear hd ho
                  have hH : Holds w (hs ++ ([] ++ R)) w1 := hH
                  subst hI
                  unfold wpOp
                  refine Or.inl ?_
                  simp only [e5]
                  unfold Oper.wp
                  unfold lC
                  go_simp
                  exact OwnBy.mk _ [(w1.heap.size, .cells (lC x) 52)] ((g, .cells #[.string s, .slice A acc.length c] 50) :: ((if Ls 7 = true then [] else hv) ++ ((b, Obj.cells (lC x) 52) :: [(bl, .cells (LL.map Value.string).toArray 9)]))) rfl rfl ⟨_, rfl, rfl⟩ ((hH.alloc (.cells (lC x) 52)).perm (by classical rw [List.perm_iff_count]; intro a; simp only [List.count_append, List.count_cons, List.count_nil]; omega))
                | 7, _ =>
                  obtain rfl := Option.some.inj ho
                  have e4 : f 4 = .slice A acc.length c := (hd ⟨4, .data⟩ (by simp) rfl).2.1
                  have e6 := (hd ⟨6, .data⟩ (by simp) rfl).2
                  obtain ⟨b7, e6, q6⟩ := e6
                  clear hd ho
                  have hH : Holds w (hs ++ ((Hf 6 ++ ([])) ++ R)) w1 := hH
                  simp only [q6, List.append_nil, List.append_assoc] at hH
                  subst hI
                  unfold wpOp
                  refine Or.inl ?_
                  simp only [e4, e6]
                  unfold Oper.wp
                  rw [hL, if_neg (by decide)] at hH
                  have hX : Holds w (hv ++ ((b7, Obj.cells (lC x) 52) :: ((g, .cells #[.string s, .slice A acc.length c] 50) :: (((b, Obj.cells (lC x) 52) :: [(bl, .cells (LL.map Value.string).toArray 9)]) ++ R)))) w1 := hH.perm (by classical rw [List.perm_iff_count]; intro a; simp only [List.count_append, List.count_cons, List.count_nil]; omega)
                  have hb7 : w1.heap[b7]? = some (.cells (lC x) 52 (0, 0)) := (hH.perm (k := (b7, Obj.cells (lC x) 52) :: (hv ++ ((g, .cells #[.string s, .slice A acc.length c] 50) :: (((b, Obj.cells (lC x) 52) :: [(bl, .cells (LL.map Value.string).toArray 9)]) ++ R)))) (by classical rw [List.perm_iff_count]; intro a; simp only [List.count_append, List.count_cons, List.count_nil]; omega)).get
                  obtain ⟨v', h', w', hrun, hR', hH'⟩ := ln_append HRV.out hX 48 b7 x hb7 (by omega)
                  have hH2 : Holds w (((g, .cells #[.string s, .slice A acc.length c] 50) :: ((b, Obj.cells (lC x) 52) :: [(bl, .cells (LL.map Value.string).toArray 9)])) ++ (h' ++ R)) w' := (hH'.perm (k := (b7, Obj.cells (lC x) 52) :: (((g, .cells #[.string s, .slice A acc.length c] 50) :: ((b, Obj.cells (lC x) 52) :: [(bl, .cells (LL.map Value.string).toArray 9)])) ++ (h' ++ R))) (by classical rw [List.perm_iff_count]; intro a; simp only [List.count_append, List.count_cons, List.count_nil]; omega)).tail
                  clear hX hb7
                  refine wpA (.tmp 85) (.tmp 87) rfl rfl rfl rfl hrun ?_
                  exact OwnBy.mk _ h' _ rfl rfl hR' hH2
              · intro Ls f Hf hs w1 hI hL hV hH
                have e0 : f 0 = .pointer (some ⟨g, 0, none⟩) := (hV 0 (by decide)).1
                have e1 : f 1 = .pointer (some ⟨g, 0, none⟩) := (hV 1 (by decide)).1
                have e2 : f 2 = .pointer (some ⟨g, 0, none⟩) := (hV 2 (by decide)).1
                have e3 : f 3 = .pointer (some ⟨g, 1, none⟩) := (hV 3 (by decide)).1
                have e4 : f 4 = .slice A acc.length c := (hV 4 (by decide)).1
                have e5 : f 5 = .agg (lC x) := (hV 5 (by decide)).1
                have e6 := hV 6 (by decide)
                obtain ⟨b7, e6, q6⟩ := e6
                have e7 := hV 7 (by decide)
                clear hV
                have hH : Holds w (hs ++ (Hf 7 ++ [])) w1 := hH
                simp only [List.append_nil, List.append_assoc] at hH
                simp only [fill, List.take_succ_cons, List.take_zero, List.drop_succ_cons, List.drop_zero, Act.put, List.setIfInBounds_toArray, List.set_cons_zero, List.set_cons_succ, e0, e1, e2, e3, e4, e5, e6]
                rw [hL 7 (by decide), if_pos rfl] at hI
                subst hI
                obtain ⟨A2, c2, hf7⟩ := ro_form e7
                have HX := Lib.hid (show Holds w ((g, .cells #[.string s, .slice A acc.length c] 50) :: (Hf 7 ++ ((b, Obj.cells (lC x) 52) :: [(bl, .cells (LL.map Value.string).toArray 9)]))) w1 from hH.perm (by classical rw [List.perm_iff_count]; intro a; simp only [List.count_append, List.count_cons, List.count_nil]; omega))
                have q1 : w1.cell? ⟨g, 1, none⟩ = some (.slice A acc.length c) := HX.out.cell 1
                have qf : w1.frozen? ⟨g, 1, none⟩ = false := HX.out.froz 1
                have HR7 := Lib.hid e7
                clear e7 hH
                rw [hf7]
                rw [hf7] at HR7
                go_wp2_with fail
                have HY := Lib.hid (show Holds w ((g, .cells #[.string s, .slice A2 (acc.length + 1) c2] 50) :: (Hf 7 ++ ((b, Obj.cells (lC x) 52) :: [(bl, .cells (LL.map Value.string).toArray 9)]))) _ from HX.out.set 1 (.slice A2 (acc.length + 1) c2))
                go_roundw
                case rel =>
                  refine ⟨acc.length + 1, acc ++ [x], (g, .cells #[.string s, .slice A2 (acc.length + 1) c2] 50) :: Hf 7, by omega, by go_num, by simp, by rw [← HREST.out]; exact HPL.out, ⟨A2, c2, Hf 7, by simpa [lV_app] using HR7.out, by simp⟩, ?_⟩
                  exact (HY.out.perm (k := (b, Obj.cells (lC x) 52) :: (((g, .cells #[.string s, .slice A2 (acc.length + 1) c2] 50) :: Hf 7) ++ [(bl, .cells (LL.map Value.string).toArray 9)])) (by classical rw [List.perm_iff_count]; intro a; simp only [List.count_append, List.count_cons, List.count_nil]; omega)).tail
                case measure => simp [intOf] <;> omega
  
          | some z =>
            rw [hz] at HPLx
            have hl0 : 0 < acc.length := by have := (List.getElem?_eq_some_iff.mp hz).1; omega
            obtain ⟨gr, hA, hzz⟩ := ro_last HRV.out z hz
            have HZ := Lib.hid (fun w1 (F : Hp) (H : Holds w (hv ++ F) w1) => hzz w F w1 H)
            have HL0 := Lib.hid hl0
            have HAA := Lib.hid hA
            clear hz hzz hl0 hA
            cases hfl : flw z x with
            | false =>
              have HRN := Lib.hid (show R = none from by rw [← HPLx.out]; simp [hfl])
              have HF2 := Lib.hid (show (!flw z x) = true by rw [hfl]; rfl)
              clear hfl
              refine wp_region_own 27 (fun _ => []) (by kernel_rfl) (by kernel_rfl) (by kernel_rfl) (by kernel_rfl) (Nat.le_of_ble_eq_true (by kernel_rfl)) w (fun Ls hs => hs = ((g, Obj.cells #[.string s, .slice A acc.length c] 50) :: (hv ++ ((b, Obj.cells (lC x) 52) :: [(bl, .cells (LL.map Value.string).toArray 9)])))) (fun i v h => match i with | 0 => v = .bool true ∧ h = [] | 1 => v = .bool false ∧ h = [] | 2 => v = .bool false ∧ h = [] | 3 => v = .pointer (some ⟨g, 0, none⟩) ∧ h = [] | 4 => v = .pointer (some ⟨g, 0, none⟩) ∧ h = [] | 5 => v = .pointer (some ⟨g, 1, none⟩) ∧ h = [] | 6 => v = .slice A acc.length c ∧ h = [] | 7 => v = .int .i64 acc.length ∧ h = [] | 8 => v = .bool true ∧ h = [] | 9 => v = .bool true ∧ h = [] | 10 => v = .pointer (some ⟨g, 0, none⟩) ∧ h = [] | 11 => v = .pointer (some ⟨g, 0, none⟩) ∧ h = [] | 12 => v = .pointer (some ⟨g, 1, none⟩) ∧ h = [] | 13 => v = .slice A acc.length c ∧ h = [] | 14 => v = .pointer (some ⟨g, 0, none⟩) ∧ h = [] | 15 => v = .pointer (some ⟨g, 0, none⟩) ∧ h = [] | 16 => v = .pointer (some ⟨g, 1, none⟩) ∧ h = [] | 17 => v = .slice A acc.length c ∧ h = [] | 18 => v = .int .i64 acc.length ∧ h = [] | 19 => v = .int .i64 ((acc.length : Int) - 1) ∧ h = [] | 20 => v = .pointer (some ⟨gr, (acc.length - 1) * 2, none⟩) ∧ h = [] | 21 => v = .agg (lC z) ∧ h = [] | 22 => v = .agg (lC x) ∧ h = [] | 23 => v = .bool (flw z x) ∧ h = [] | 24 => v = .bool !flw z x ∧ h = [] | 25 => v = .bool !flw z x ∧ h = [] | 26 => v = .bool !flw z x ∧ h = [] | _ => True) (((g, Obj.cells #[.string s, .slice A acc.length c] 50) :: (hv ++ ((b, Obj.cells (lC x) 52) :: [(bl, .cells (LL.map Value.string).toArray 9)])))) (rfl) (HQ.out.drew) ?_ ?_
              · intro i o hi ho Ls f Hf hs R w1 hI hL hd hH
                simp only [fill, List.take_succ_cons, List.take_zero, Act.put, List.setIfInBounds_toArray, List.set_cons_zero, List.set_cons_succ]
                match i, hi with
                | 0, _ =>
                  obtain rfl := Option.some.inj ho
                  clear hd ho
                  have hH : Holds w (hs ++ ([] ++ R)) w1 := hH
                  subst hI
                  unfold wpOp
                  refine Or.inl ?_
                  unfold Oper.wp
                  go_simp
                  exact OwnBy.mk _ _ _ rfl (rfl) (⟨rfl, rfl⟩) (hH)
                | 1, _ =>
                  obtain rfl := Option.some.inj ho
                  have e0 : f 0 = .bool true := (hd ⟨0, .data⟩ (by simp) rfl).2.1
                  clear hd ho
                  have hH : Holds w (hs ++ ([] ++ R)) w1 := hH
                  subst hI
                  unfold wpOp
                  refine Or.inl ?_
                  simp only [e0]
                  unfold Oper.wp
                  go_simp
                  exact OwnBy.mk _ _ _ rfl (rfl) (⟨rfl, rfl⟩) (hH)
                | 2, _ =>
                  obtain rfl := Option.some.inj ho
                  have e1 : f 1 = .bool false := (hd ⟨1, .data⟩ (by simp) rfl).2.1
                  clear hd ho
                  have hH : Holds w (hs ++ ([] ++ R)) w1 := hH
                  subst hI
                  unfold wpOp
                  refine Or.inl ?_
                  simp only [e1]
                  unfold Oper.wp
                  go_simp
                  exact OwnBy.mk _ _ _ rfl (rfl) (⟨rfl, rfl⟩) (hH)
                | 3, _ =>
                  obtain rfl := Option.some.inj ho
                  have e2 : f 2 = .bool false := (hd ⟨2, .guard⟩ (by simp) rfl).2.1
                  clear hd ho
                  have hH : Holds w (hs ++ ([] ++ R)) w1 := hH
                  subst hI
                  unfold wpOp
                  simp only [e2]
                  refine Or.inl ?_
                  unfold Oper.wp
                  go_simp
                  exact OwnBy.mk _ _ _ rfl (rfl) (⟨rfl, rfl⟩) (hH)
                | 4, _ =>
                  obtain rfl := Option.some.inj ho
                  have e3 : f 3 = .pointer (some ⟨g, 0, none⟩) := (hd ⟨3, .data⟩ (by simp) rfl).2.1
                  have e2 : f 2 = .bool false := (hd ⟨2, .guard⟩ (by simp) rfl).2.1
                  clear hd ho
                  have hH : Holds w (hs ++ ([] ++ R)) w1 := hH
                  subst hI
                  unfold wpOp
                  simp only [e3, e2]
                  refine Or.inl ?_
                  unfold Oper.wp
                  go_simp
                  exact OwnBy.mk _ _ _ rfl (rfl) (⟨rfl, rfl⟩) (hH)
                | 5, _ =>
                  obtain rfl := Option.some.inj ho
                  have e4 : f 4 = .pointer (some ⟨g, 0, none⟩) := (hd ⟨4, .data⟩ (by simp) rfl).2.1
                  have e2 : f 2 = .bool false := (hd ⟨2, .guard⟩ (by simp) rfl).2.1
                  clear hd ho
                  have hH : Holds w (hs ++ ([] ++ R)) w1 := hH
                  subst hI
                  unfold wpOp
                  simp only [e4, e2]
                  refine Or.inl ?_
                  unfold Oper.wp
                  go_simp
                  exact OwnBy.mk _ _ _ rfl (rfl) (⟨rfl, rfl⟩) (hH)
                | 6, _ =>
                  obtain rfl := Option.some.inj ho
                  have e5 : f 5 = .pointer (some ⟨g, 1, none⟩) := (hd ⟨5, .data⟩ (by simp) rfl).2.1
                  have e2 : f 2 = .bool false := (hd ⟨2, .guard⟩ (by simp) rfl).2.1
                  clear hd ho
                  have hH : Holds w (hs ++ ([] ++ R)) w1 := hH
                  subst hI
                  unfold wpOp
                  simp only [e5, e2]
                  refine Or.inl ?_
                  unfold Oper.wp
                  have q1 : w1.cell? ⟨g, 1, none⟩ = some (.slice A acc.length c) := hH.cell 1
                  go_simp
                  exact OwnBy.mk _ _ _ rfl (rfl) (⟨rfl, rfl⟩) (hH)
                | 7, _ =>
                  obtain rfl := Option.some.inj ho
                  have e6 : f 6 = .slice A acc.length c := (hd ⟨6, .data⟩ (by simp) rfl).2.1
                  have e2 : f 2 = .bool false := (hd ⟨2, .guard⟩ (by simp) rfl).2.1
                  clear hd ho
                  have hH : Holds w (hs ++ ([] ++ R)) w1 := hH
                  subst hI
                  unfold wpOp
                  simp only [e6, e2]
                  refine Or.inl ?_
                  unfold Oper.wp
                  go_simp
                  exact OwnBy.mk _ _ _ rfl (rfl) (⟨rfl, rfl⟩) (hH)
                | 8, _ =>
                  obtain rfl := Option.some.inj ho
                  have e7 : f 7 = .int .i64 acc.length := (hd ⟨7, .data⟩ (by simp) rfl).2.1
                  have e2 : f 2 = .bool false := (hd ⟨2, .guard⟩ (by simp) rfl).2.1
                  clear hd ho
                  have hH : Holds w (hs ++ ([] ++ R)) w1 := hH
                  subst hI
                  unfold wpOp
                  simp only [e7, e2]
                  refine Or.inl ?_
                  unfold Oper.wp
                  have hd0 : decide ((0 : Int) < (acc.length : Int)) = true := decide_eq_true (by have := HL0.out; omega)
                  have hd1 : decide (0 < acc.length) = true := decide_eq_true HL0.out
                  go_simp
                  exact OwnBy.mk _ _ _ rfl (rfl) (⟨rfl, rfl⟩) (hH)
                | 9, _ =>
                  obtain rfl := Option.some.inj ho
                  have e8 : f 8 = .bool true := (hd ⟨8, .data⟩ (by simp) rfl).2.1
                  have e2 : f 2 = .bool false := (hd ⟨2, .guard⟩ (by simp) rfl).2.1
                  clear hd ho
                  have hH : Holds w (hs ++ ([] ++ R)) w1 := hH
                  subst hI
                  unfold wpOp
                  simp only [e8, e2]
                  refine Or.inl ?_
                  unfold Oper.wp
                  go_simp
                  exact OwnBy.mk _ _ _ rfl (rfl) (⟨rfl, rfl⟩) (hH)
                | 10, _ =>
                  obtain rfl := Option.some.inj ho
                  have e9 : f 9 = .bool true := (hd ⟨9, .guard⟩ (by simp) rfl).2.1
                  clear hd ho
                  have hH : Holds w (hs ++ ([] ++ R)) w1 := hH
                  subst hI
                  unfold wpOp
                  simp only [e9]
                  refine Or.inl ?_
                  unfold Oper.wp
                  go_simp
                  exact OwnBy.mk _ _ _ rfl (rfl) (⟨rfl, rfl⟩) (hH)
                | 11, _ =>
                  obtain rfl := Option.some.inj ho
                  have e10 : f 10 = .pointer (some ⟨g, 0, none⟩) := (hd ⟨10, .data⟩ (by simp) rfl).2.1
                  have e9 : f 9 = .bool true := (hd ⟨9, .guard⟩ (by simp) rfl).2.1
                  clear hd ho
                  have hH : Holds w (hs ++ ([] ++ R)) w1 := hH
                  subst hI
                  unfold wpOp
                  simp only [e10, e9]
                  refine Or.inl ?_
                  unfold Oper.wp
                  go_simp
                  exact OwnBy.mk _ _ _ rfl (rfl) (⟨rfl, rfl⟩) (hH)
                | 12, _ =>
                  obtain rfl := Option.some.inj ho
                  have e11 : f 11 = .pointer (some ⟨g, 0, none⟩) := (hd ⟨11, .data⟩ (by simp) rfl).2.1
                  have e9 : f 9 = .bool true := (hd ⟨9, .guard⟩ (by simp) rfl).2.1
                  clear hd ho
                  have hH : Holds w (hs ++ ([] ++ R)) w1 := hH
                  subst hI
                  unfold wpOp
                  simp only [e11, e9]
                  refine Or.inl ?_
                  unfold Oper.wp
                  go_simp
                  exact OwnBy.mk _ _ _ rfl (rfl) (⟨rfl, rfl⟩) (hH)
                | 13, _ =>
                  obtain rfl := Option.some.inj ho
                  have e12 : f 12 = .pointer (some ⟨g, 1, none⟩) := (hd ⟨12, .data⟩ (by simp) rfl).2.1
                  have e9 : f 9 = .bool true := (hd ⟨9, .guard⟩ (by simp) rfl).2.1
                  clear hd ho
                  have hH : Holds w (hs ++ ([] ++ R)) w1 := hH
                  subst hI
                  unfold wpOp
                  simp only [e12, e9]
                  refine Or.inl ?_
                  unfold Oper.wp
                  have q1 : w1.cell? ⟨g, 1, none⟩ = some (.slice A acc.length c) := hH.cell 1
                  go_simp
                  exact OwnBy.mk _ _ _ rfl (rfl) (⟨rfl, rfl⟩) (hH)
                | 14, _ =>
                  obtain rfl := Option.some.inj ho
                  have e9 : f 9 = .bool true := (hd ⟨9, .guard⟩ (by simp) rfl).2.1
                  clear hd ho
                  have hH : Holds w (hs ++ ([] ++ R)) w1 := hH
                  subst hI
                  unfold wpOp
                  simp only [e9]
                  refine Or.inl ?_
                  unfold Oper.wp
                  go_simp
                  exact OwnBy.mk _ _ _ rfl (rfl) (⟨rfl, rfl⟩) (hH)
                | 15, _ =>
                  obtain rfl := Option.some.inj ho
                  have e14 : f 14 = .pointer (some ⟨g, 0, none⟩) := (hd ⟨14, .data⟩ (by simp) rfl).2.1
                  have e9 : f 9 = .bool true := (hd ⟨9, .guard⟩ (by simp) rfl).2.1
                  clear hd ho
                  have hH : Holds w (hs ++ ([] ++ R)) w1 := hH
                  subst hI
                  unfold wpOp
                  simp only [e14, e9]
                  refine Or.inl ?_
                  unfold Oper.wp
                  go_simp
                  exact OwnBy.mk _ _ _ rfl (rfl) (⟨rfl, rfl⟩) (hH)
                | 16, _ =>
                  obtain rfl := Option.some.inj ho
                  have e15 : f 15 = .pointer (some ⟨g, 0, none⟩) := (hd ⟨15, .data⟩ (by simp) rfl).2.1
                  have e9 : f 9 = .bool true := (hd ⟨9, .guard⟩ (by simp) rfl).2.1
                  clear hd ho
                  have hH : Holds w (hs ++ ([] ++ R)) w1 := hH
                  subst hI
                  unfold wpOp
                  simp only [e15, e9]
                  refine Or.inl ?_
                  unfold Oper.wp
                  go_simp
                  exact OwnBy.mk _ _ _ rfl (rfl) (⟨rfl, rfl⟩) (hH)
                | 17, _ =>
                  obtain rfl := Option.some.inj ho
                  have e16 : f 16 = .pointer (some ⟨g, 1, none⟩) := (hd ⟨16, .data⟩ (by simp) rfl).2.1
                  have e9 : f 9 = .bool true := (hd ⟨9, .guard⟩ (by simp) rfl).2.1
                  clear hd ho
                  have hH : Holds w (hs ++ ([] ++ R)) w1 := hH
                  subst hI
                  unfold wpOp
                  simp only [e16, e9]
                  refine Or.inl ?_
                  unfold Oper.wp
                  have q1 : w1.cell? ⟨g, 1, none⟩ = some (.slice A acc.length c) := hH.cell 1
                  go_simp
                  exact OwnBy.mk _ _ _ rfl (rfl) (⟨rfl, rfl⟩) (hH)
                | 18, _ =>
                  obtain rfl := Option.some.inj ho
                  have e17 : f 17 = .slice A acc.length c := (hd ⟨17, .data⟩ (by simp) rfl).2.1
                  have e9 : f 9 = .bool true := (hd ⟨9, .guard⟩ (by simp) rfl).2.1
                  clear hd ho
                  have hH : Holds w (hs ++ ([] ++ R)) w1 := hH
                  subst hI
                  unfold wpOp
                  simp only [e17, e9]
                  refine Or.inl ?_
                  unfold Oper.wp
                  go_simp
                  exact OwnBy.mk _ _ _ rfl (rfl) (⟨rfl, rfl⟩) (hH)
                | 19, _ =>
                  obtain rfl := Option.some.inj ho
                  have e18 : f 18 = .int .i64 acc.length := (hd ⟨18, .data⟩ (by simp) rfl).2.1
                  have e9 : f 9 = .bool true := (hd ⟨9, .guard⟩ (by simp) rfl).2.1
                  clear hd ho
                  have hH : Holds w (hs ++ ([] ++ R)) w1 := hH
                  subst hI
                  unfold wpOp
                  simp only [e18, e9]
                  refine Or.inl ?_
                  unfold Oper.wp
                  have hw1 : IntKind.i64.wrap ((acc.length : Int) - 1) = (acc.length : Int) - 1 := by rw [IntKind.wrap_i64]; omega
                  go_simp
                  exact OwnBy.mk _ _ _ rfl (rfl) (⟨rfl, rfl⟩) (hH)
                | 20, _ =>
                  obtain rfl := Option.some.inj ho
                  have e13 : f 13 = .slice A acc.length c := (hd ⟨13, .data⟩ (by simp) rfl).2.1
                  have e19 : f 19 = .int .i64 ((acc.length : Int) - 1) := (hd ⟨19, .data⟩ (by simp) rfl).2.1
                  have e9 : f 9 = .bool true := (hd ⟨9, .guard⟩ (by simp) rfl).2.1
                  clear hd ho
                  have hH : Holds w (hs ++ ([] ++ R)) w1 := hH
                  subst hI
                  unfold wpOp
                  simp only [e13, e19, e9]
                  refine Or.inl ?_
                  unfold Oper.wp
                  have hA := HAA.out
                  subst hA
                  have h1n : (1 : Int) ≤ (acc.length : Int) := by have := HL0.out; omega
                  have hi0 : (0 : Int) ≤ (acc.length : Int) - 1 := by have := HL0.out; omega
                  have hi1 : (acc.length : Int) - 1 < (acc.length : Int) := by omega
                  have hi2 : ((acc.length : Int) - 1).toNat = acc.length - 1 := by have := HL0.out; omega
                  go_simp
                  exact OwnBy.mk _ _ _ rfl (rfl) (⟨rfl, rfl⟩) (hH)
                | 21, _ =>
                  obtain rfl := Option.some.inj ho
                  have e20 : f 20 = .pointer (some ⟨gr, (acc.length - 1) * 2, none⟩) := (hd ⟨20, .data⟩ (by simp) rfl).2.1
                  have e9 : f 9 = .bool true := (hd ⟨9, .guard⟩ (by simp) rfl).2.1
                  clear hd ho
                  have hH : Holds w (hs ++ ([] ++ R)) w1 := hH
                  subst hI
                  unfold wpOp
                  simp only [e20, e9]
                  refine Or.inl ?_
                  unfold Oper.wp
                  obtain ⟨r0, r1⟩ := HZ.out w1 _ (hH.perm (k := hv ++ ((g, Obj.cells #[.string s, .slice A acc.length c] 50) :: (((b, Obj.cells (lC x) 52) :: [(bl, .cells (LL.map Value.string).toArray 9)]) ++ R))) (by classical rw [List.perm_iff_count]; intro a; simp only [List.count_append, List.count_cons, List.count_nil]; omega))
                  go_simp
                  exact OwnBy.mk _ _ _ rfl (rfl) (⟨rfl, rfl⟩) (hH)
                | 22, _ =>
                  obtain rfl := Option.some.inj ho
                  have e9 : f 9 = .bool true := (hd ⟨9, .guard⟩ (by simp) rfl).2.1
                  clear hd ho
                  have hH : Holds w (hs ++ ([] ++ R)) w1 := hH
                  subst hI
                  unfold wpOp
                  simp only [e9]
                  refine Or.inl ?_
                  unfold Oper.wp
                  have hX : Holds w ((b, Obj.cells (lC x) 52) :: ((g, Obj.cells #[.string s, .slice A acc.length c] 50) :: (hv ++ ([(bl, .cells (LL.map Value.string).toArray 9)] ++ R)))) w1 := hH.perm (by classical rw [List.perm_iff_count]; intro a; simp only [List.count_append, List.count_cons, List.count_nil]; omega)
                  have q0 : w1.cell? ⟨b, 0, none⟩ = some (.int .i64 x.f0) := hX.cell 0
                  have q1 : w1.cell? ⟨b, 1, none⟩ = some (.int .i64 x.f1) := hX.cell 1
                  go_simp
                  exact OwnBy.mk _ _ _ rfl (rfl) (⟨rfl, rfl⟩) (hH)
                | 23, _ =>
                  obtain rfl := Option.some.inj ho
                  have e21 : f 21 = .agg (lC z) := (hd ⟨21, .data⟩ (by simp) rfl).2.1
                  have e22 : f 22 = .agg (lC x) := (hd ⟨22, .data⟩ (by simp) rfl).2.1
                  have e9 : f 9 = .bool true := (hd ⟨9, .guard⟩ (by simp) rfl).2.1
                  clear hd ho
                  have hH : Holds w (hs ++ ([] ++ R)) w1 := hH
                  subst hI
                  unfold wpOp
                  simp only [e21, e22, e9]
                  refine Or.inl ?_
                  unfold Oper.wp
                  unfold lC
                  go_simp
                  refine (leap_follows.calls z.f0 z.f1 x.f0 x.f1 _ w1 (flw_f z x)).mono ?_
                  rintro e w3 ⟨rfl, hb⟩
                  exact OwnBy.mk _ _ _ rfl (rfl) (⟨rfl, rfl⟩) (hH.grow hb)
                | 24, _ =>
                  obtain rfl := Option.some.inj ho
                  have e23 : f 23 = .bool (flw z x) := (hd ⟨23, .data⟩ (by simp) rfl).2.1
                  have e9 : f 9 = .bool true := (hd ⟨9, .guard⟩ (by simp) rfl).2.1
                  clear hd ho
                  have hH : Holds w (hs ++ ([] ++ R)) w1 := hH
                  subst hI
                  unfold wpOp
                  simp only [e23, e9]
                  refine Or.inl ?_
                  unfold Oper.wp
                  go_simp
                  exact OwnBy.mk _ _ _ rfl (rfl) (⟨rfl, rfl⟩) (hH)
                | 25, _ =>
                  obtain rfl := Option.some.inj ho
                  have e9 : f 9 = .bool true := (hd ⟨9, .data⟩ (by simp) rfl).2.1
                  have e24 : f 24 = .bool !flw z x := (hd ⟨24, .data⟩ (by simp) rfl).2.1
                  have e2 : f 2 = .bool false := (hd ⟨2, .guard⟩ (by simp) rfl).2.1
                  clear hd ho
                  have hH : Holds w (hs ++ ([] ++ R)) w1 := hH
                  subst hI
                  unfold wpOp
                  simp only [e9, e24, e2]
                  refine Or.inl ?_
                  unfold Oper.wp
                  go_simp
                  exact OwnBy.mk _ _ _ rfl (rfl) (⟨rfl, rfl⟩) (hH)
                | 26, _ =>
                  obtain rfl := Option.some.inj ho
                  have e2 : f 2 = .bool false := (hd ⟨2, .data⟩ (by simp) rfl).2.1
                  have e25 : f 25 = .bool !flw z x := (hd ⟨25, .data⟩ (by simp) rfl).2.1
                  clear hd ho
                  have hH : Holds w (hs ++ ([] ++ R)) w1 := hH
                  subst hI
                  unfold wpOp
                  refine Or.inl ?_
                  simp only [e2, e25]
                  unfold Oper.wp
                  go_simp
                  exact OwnBy.mk _ _ _ rfl (rfl) (⟨rfl, rfl⟩) (hH)
                | _ + 27, h27 => exact absurd h27 (by omega)
              · intro Ls f Hf hs w1 hI hL hV hH
                have e0 : f 0 = .bool true := (hV 0 (by decide)).1
                have e1 : f 1 = .bool false := (hV 1 (by decide)).1
                have e2 : f 2 = .bool false := (hV 2 (by decide)).1
                have e3 : f 3 = .pointer (some ⟨g, 0, none⟩) := (hV 3 (by decide)).1
                have e4 : f 4 = .pointer (some ⟨g, 0, none⟩) := (hV 4 (by decide)).1
                have e5 : f 5 = .pointer (some ⟨g, 1, none⟩) := (hV 5 (by decide)).1
                have e6 : f 6 = .slice A acc.length c := (hV 6 (by decide)).1
                have e7 : f 7 = .int .i64 acc.length := (hV 7 (by decide)).1
                have e8 : f 8 = .bool true := (hV 8 (by decide)).1
                have e9 : f 9 = .bool true := (hV 9 (by decide)).1
                have e10 : f 10 = .pointer (some ⟨g, 0, none⟩) := (hV 10 (by decide)).1
                have e11 : f 11 = .pointer (some ⟨g, 0, none⟩) := (hV 11 (by decide)).1
                have e12 : f 12 = .pointer (some ⟨g, 1, none⟩) := (hV 12 (by decide)).1
                have e13 : f 13 = .slice A acc.length c := (hV 13 (by decide)).1
                have e14 : f 14 = .pointer (some ⟨g, 0, none⟩) := (hV 14 (by decide)).1
                have e15 : f 15 = .pointer (some ⟨g, 0, none⟩) := (hV 15 (by decide)).1
                have e16 : f 16 = .pointer (some ⟨g, 1, none⟩) := (hV 16 (by decide)).1
                have e17 : f 17 = .slice A acc.length c := (hV 17 (by decide)).1
                have e18 : f 18 = .int .i64 acc.length := (hV 18 (by decide)).1
                have e19 : f 19 = .int .i64 ((acc.length : Int) - 1) := (hV 19 (by decide)).1
                have e20 : f 20 = .pointer (some ⟨gr, (acc.length - 1) * 2, none⟩) := (hV 20 (by decide)).1
                have e21 : f 21 = .agg (lC z) := (hV 21 (by decide)).1
                have e22 : f 22 = .agg (lC x) := (hV 22 (by decide)).1
                have e23 : f 23 = .bool (flw z x) := (hV 23 (by decide)).1
                have e24 : f 24 = .bool !flw z x := (hV 24 (by decide)).1
                have e25 : f 25 = .bool !flw z x := (hV 25 (by decide)).1
                have e26 : f 26 = .bool !flw z x := (hV 26 (by decide)).1
                clear hV
                have hH : Holds w (hs ++ []) w1 := hH
                simp only [fill, List.take_succ_cons, List.take_zero, List.drop_succ_cons, List.drop_zero, Act.put, List.setIfInBounds_toArray, List.set_cons_zero, List.set_cons_succ, e0, e1, e2, e3, e4, e5, e6, e7, e8, e9, e10, e11, e12, e13, e14, e15, e16, e17, e18, e19, e20, e21, e22, e23, e24, e25, e26]
                subst hI
                have HQ2 := Lib.hid (show Holds w ((g, Obj.cells #[.string s, .slice A acc.length c] 50) :: (hv ++ ((b, Obj.cells (lC x) 52) :: [(bl, .cells (LL.map Value.string).toArray 9)]))) w1 from by simpa using hH)
                clear hH hL
                have hf2 : flw z x = false := by simpa using HF2.out
                simp only [hf2, Bool.not_false]
                clear hf2
                go_wp2_with fail
                exact bodyPost_ret (v := .tuple #[.pointer none, .int .i64 3]) (by simp [results, Tryd.results10, go_sem]) rfl (Or.inl ⟨3, [], by rw [HPP.out, HRN.out], by decide, rfl, HQ2.out.below⟩)
            | true =>
              have HPL := Lib.hid (show pl (acc ++ [x]) rest = R from by rw [← HPLx.out]; simp [hfl])
              have HF2 := Lib.hid (show (!flw z x) = false by rw [hfl]; rfl)
              clear hfl
              refine wp_region_own 27 (fun _ => []) (by kernel_rfl) (by kernel_rfl) (by kernel_rfl) (by kernel_rfl) (Nat.le_of_ble_eq_true (by kernel_rfl)) w (fun Ls hs => hs = ((g, Obj.cells #[.string s, .slice A acc.length c] 50) :: (hv ++ ((b, Obj.cells (lC x) 52) :: [(bl, .cells (LL.map Value.string).toArray 9)])))) (fun i v h => match i with | 0 => v = .bool true ∧ h = [] | 1 => v = .bool false ∧ h = [] | 2 => v = .bool false ∧ h = [] | 3 => v = .pointer (some ⟨g, 0, none⟩) ∧ h = [] | 4 => v = .pointer (some ⟨g, 0, none⟩) ∧ h = [] | 5 => v = .pointer (some ⟨g, 1, none⟩) ∧ h = [] | 6 => v = .slice A acc.length c ∧ h = [] | 7 => v = .int .i64 acc.length ∧ h = [] | 8 => v = .bool true ∧ h = [] | 9 => v = .bool true ∧ h = [] | 10 => v = .pointer (some ⟨g, 0, none⟩) ∧ h = [] | 11 => v = .pointer (some ⟨g, 0, none⟩) ∧ h = [] | 12 => v = .pointer (some ⟨g, 1, none⟩) ∧ h = [] | 13 => v = .slice A acc.length c ∧ h = [] | 14 => v = .pointer (some ⟨g, 0, none⟩) ∧ h = [] | 15 => v = .pointer (some ⟨g, 0, none⟩) ∧ h = [] | 16 => v = .pointer (some ⟨g, 1, none⟩) ∧ h = [] | 17 => v = .slice A acc.length c ∧ h = [] | 18 => v = .int .i64 acc.length ∧ h = [] | 19 => v = .int .i64 ((acc.length : Int) - 1) ∧ h = [] | 20 => v = .pointer (some ⟨gr, (acc.length - 1) * 2, none⟩) ∧ h = [] | 21 => v = .agg (lC z) ∧ h = [] | 22 => v = .agg (lC x) ∧ h = [] | 23 => v = .bool (flw z x) ∧ h = [] | 24 => v = .bool !flw z x ∧ h = [] | 25 => v = .bool !flw z x ∧ h = [] | 26 => v = .bool !flw z x ∧ h = [] | _ => True) (((g, Obj.cells #[.string s, .slice A acc.length c] 50) :: (hv ++ ((b, Obj.cells (lC x) 52) :: [(bl, .cells (LL.map Value.string).toArray 9)])))) (rfl) (HQ.out.drew) ?_ ?_
              · intro i o hi ho Ls f Hf hs R w1 hI hL hd hH
                simp only [fill, List.take_succ_cons, List.take_zero, Act.put, List.setIfInBounds_toArray, List.set_cons_zero, List.set_cons_succ]
                match i, hi with
                | 0, _ =>
                  obtain rfl := Option.some.inj ho
                  clear hd ho
                  have hH : Holds w (hs ++ ([] ++ R)) w1 := hH
                  subst hI
                  unfold wpOp
                  refine Or.inl ?_
                  unfold Oper.wp
                  go_simp
                  exact OwnBy.mk _ _ _ rfl (rfl) (⟨rfl, rfl⟩) (hH)
                | 1, _ =>
                  obtain rfl := Option.some.inj ho
                  have e0 : f 0 = .bool true := (hd ⟨0, .data⟩ (by simp) rfl).2.1
                  clear hd ho
                  have hH : Holds w (hs ++ ([] ++ R)) w1 := hH
                  subst hI
                  unfold wpOp
                  refine Or.inl ?_
                  simp only [e0]
                  unfold Oper.wp
                  go_simp
                  exact OwnBy.mk _ _ _ rfl (rfl) (⟨rfl, rfl⟩) (hH)
                | 2, _ =>
                  obtain rfl := Option.some.inj ho
                  have e1 : f 1 = .bool false := (hd ⟨1, .data⟩ (by simp) rfl).2.1
                  clear hd ho
                  have hH : Holds w (hs ++ ([] ++ R)) w1 := hH
                  subst hI
                  unfold wpOp
                  refine Or.inl ?_
                  simp only [e1]
                  unfold Oper.wp
                  go_simp
                  exact OwnBy.mk _ _ _ rfl (rfl) (⟨rfl, rfl⟩) (hH)
                | 3, _ =>
                  obtain rfl := Option.some.inj ho
                  have e2 : f 2 = .bool false := (hd ⟨2, .guard⟩ (by simp) rfl).2.1
                  clear hd ho
                  have hH : Holds w (hs ++ ([] ++ R)) w1 := hH
                  subst hI
                  unfold wpOp
                  simp only [e2]
                  refine Or.inl ?_
                  unfold Oper.wp
                  go_simp
                  exact OwnBy.mk _ _ _ rfl (rfl) (⟨rfl, rfl⟩) (hH)
                | 4, _ =>
                  obtain rfl := Option.some.inj ho
                  have e3 : f 3 = .pointer (some ⟨g, 0, none⟩) := (hd ⟨3, .data⟩ (by simp) rfl).2.1
                  have e2 : f 2 = .bool false := (hd ⟨2, .guard⟩ (by simp) rfl).2.1
                  clear hd ho
                  have hH : Holds w (hs ++ ([] ++ R)) w1 := hH
                  subst hI
                  unfold wpOp
                  simp only [e3, e2]
                  refine Or.inl ?_
                  unfold Oper.wp
                  go_simp
                  exact OwnBy.mk _ _ _ rfl (rfl) (⟨rfl, rfl⟩) (hH)
                | 5, _ =>
                  obtain rfl := Option.some.inj ho
                  have e4 : f 4 = .pointer (some ⟨g, 0, none⟩) := (hd ⟨4, .data⟩ (by simp) rfl).2.1
                  have e2 : f 2 = .bool false := (hd ⟨2, .guard⟩ (by simp) rfl).2.1
                  clear hd ho
                  have hH : Holds w (hs ++ ([] ++ R)) w1 := hH
                  subst hI
                  unfold wpOp
                  simp only [e4, e2]
                  refine Or.inl ?_
                  unfold Oper.wp
                  go_simp
                  exact OwnBy.mk _ _ _ rfl (rfl) (⟨rfl, rfl⟩) (hH)
                | 6, _ =>
                  obtain rfl := Option.some.inj ho
                  have e5 : f 5 = .pointer (some ⟨g, 1, none⟩) := (hd ⟨5, .data⟩ (by simp) rfl).2.1
                  have e2 : f 2 = .bool false := (hd ⟨2, .guard⟩ (by simp) rfl).2.1
                  clear hd ho
                  have hH : Holds w (hs ++ ([] ++ R)) w1 := hH
                  subst hI
                  unfold wpOp
                  simp only [e5, e2]
                  refine Or.inl ?_
                  unfold Oper.wp
                  have q1 : w1.cell? ⟨g, 1, none⟩ = some (.slice A acc.length c) := hH.cell 1
                  go_simp
                  exact OwnBy.mk _ _ _ rfl (rfl) (⟨rfl, rfl⟩) (hH)
                | 7, _ =>
                  obtain rfl := Option.some.inj ho
                  have e6 : f 6 = .slice A acc.length c := (hd ⟨6, .data⟩ (by simp) rfl).2.1
                  have e2 : f 2 = .bool false := (hd ⟨2, .guard⟩ (by simp) rfl).2.1
                  clear hd ho
                  have hH : Holds w (hs ++ ([] ++ R)) w1 := hH
                  subst hI
                  unfold wpOp
                  simp only [e6, e2]
                  refine Or.inl ?_
                  unfold Oper.wp
                  go_simp
                  exact OwnBy.mk _ _ _ rfl (rfl) (⟨rfl, rfl⟩) (hH)
                | 8, _ =>
                  obtain rfl := Option.some.inj ho
                  have e7 : f 7 = .int .i64 acc.length := (hd ⟨7, .data⟩ (by simp) rfl).2.1
                  have e2 : f 2 = .bool false := (hd ⟨2, .guard⟩ (by simp) rfl).2.1
                  clear hd ho
                  have hH : Holds w (hs ++ ([] ++ R)) w1 := hH
                  subst hI
                  unfold wpOp
                  simp only [e7, e2]
                  refine Or.inl ?_
                  unfold Oper.wp
                  have hd0 : decide ((0 : Int) < (acc.length : Int)) = true := decide_eq_true (by have := HL0.out; omega)
                  have hd1 : decide (0 < acc.length) = true := decide_eq_true HL0.out
                  go_simp
                  exact OwnBy.mk _ _ _ rfl (rfl) (⟨rfl, rfl⟩) (hH)
                | 9, _ =>
                  obtain rfl := Option.some.inj ho
                  have e8 : f 8 = .bool true := (hd ⟨8, .data⟩ (by simp) rfl).2.1
                  have e2 : f 2 = .bool false := (hd ⟨2, .guard⟩ (by simp) rfl).2.1
                  clear hd ho
                  have hH : Holds w (hs ++ ([] ++ R)) w1 := hH
                  subst hI
                  unfold wpOp
                  simp only [e8, e2]
                  refine Or.inl ?_
                  unfold Oper.wp
                  go_simp
                  exact OwnBy.mk _ _ _ rfl (rfl) (⟨rfl, rfl⟩) (hH)
                | 10, _ =>
                  obtain rfl := Option.some.inj ho
                  have e9 : f 9 = .bool true := (hd ⟨9, .guard⟩ (by simp) rfl).2.1
                  clear hd ho
                  have hH : Holds w (hs ++ ([] ++ R)) w1 := hH
                  subst hI
                  unfold wpOp
                  simp only [e9]
                  refine Or.inl ?_
                  unfold Oper.wp
                  go_simp
                  exact OwnBy.mk _ _ _ rfl (rfl) (⟨rfl, rfl⟩) (hH)
                | 11, _ =>
                  obtain rfl := Option.some.inj ho
                  have e10 : f 10 = .pointer (some ⟨g, 0, none⟩) := (hd ⟨10, .data⟩ (by simp) rfl).2.1
                  have e9 : f 9 = .bool true := (hd ⟨9, .guard⟩ (by simp) rfl).2.1
                  clear hd ho
                  have hH : Holds w (hs ++ ([] ++ R)) w1 := hH
                  subst hI
                  unfold wpOp
                  simp only [e10, e9]
                  refine Or.inl ?_
                  unfold Oper.wp
                  go_simp
                  exact OwnBy.mk _ _ _ rfl (rfl) (⟨rfl, rfl⟩) (hH)
                | 12, _ =>
                  obtain rfl := Option.some.inj ho
                  have e11 : f 11 = .pointer (some ⟨g, 0, none⟩) := (hd ⟨11, .data⟩ (by simp) rfl).2.1
                  have e9 : f 9 = .bool true := (hd ⟨9, .guard⟩ (by simp) rfl).2.1
                  clear hd ho
                  have hH : Holds w (hs ++ ([] ++ R)) w1 := hH
                  subst hI
                  unfold wpOp
                  simp only [e11, e9]
                  refine Or.inl ?_
                  unfold Oper.wp
                  go_simp
                  exact OwnBy.mk _ _ _ rfl (rfl) (⟨rfl, rfl⟩) (hH)
                | 13, _ =>
                  obtain rfl := Option.some.inj ho
                  have e12 : f 12 = .pointer (some ⟨g, 1, none⟩) := (hd ⟨12, .data⟩ (by simp) rfl).2.1
                  have e9 : f 9 = .bool true := (hd ⟨9, .guard⟩ (by simp) rfl).2.1
                  clear hd ho
                  have hH : Holds w (hs ++ ([] ++ R)) w1 := hH
                  subst hI
                  unfold wpOp
                  simp only [e12, e9]
                  refine Or.inl ?_
                  unfold Oper.wp
                  have q1 : w1.cell? ⟨g, 1, none⟩ = some (.slice A acc.length c) := hH.cell 1
                  go_simp
                  exact OwnBy.mk _ _ _ rfl (rfl) (⟨rfl, rfl⟩) (hH)
                | 14, _ =>
                  obtain rfl := Option.some.inj ho
                  have e9 : f 9 = .bool true := (hd ⟨9, .guard⟩ (by simp) rfl).2.1
                  clear hd ho
                  have hH : Holds w (hs ++ ([] ++ R)) w1 := hH
                  subst hI
                  unfold wpOp
                  simp only [e9]
                  refine Or.inl ?_
                  unfold Oper.wp
                  go_simp
                  exact OwnBy.mk _ _ _ rfl (rfl) (⟨rfl, rfl⟩) (hH)
                | 15, _ =>
                  obtain rfl := Option.some.inj ho
                  have e14 : f 14 = .pointer (some ⟨g, 0, none⟩) := (hd ⟨14, .data⟩ (by simp) rfl).2.1
                  have e9 : f 9 = .bool true := (hd ⟨9, .guard⟩ (by simp) rfl).2.1
                  clear hd ho
                  have hH : Holds w (hs ++ ([] ++ R)) w1 := hH
                  subst hI
                  unfold wpOp
                  simp only [e14, e9]
                  refine Or.inl ?_
                  unfold Oper.wp
                  go_simp
                  exact OwnBy.mk _ _ _ rfl (rfl) (⟨rfl, rfl⟩) (hH)
                | 16, _ =>
                  obtain rfl := Option.some.inj ho
                  have e15 : f 15 = .pointer (some ⟨g, 0, none⟩) := (hd ⟨15, .data⟩ (by simp) rfl).2.1
                  have e9 : f 9 = .bool true := (hd ⟨9, .guard⟩ (by simp) rfl).2.1
                  clear hd ho
                  have hH : Holds w (hs ++ ([] ++ R)) w1 := hH
                  subst hI
                  unfold wpOp
                  simp only [e15, e9]
                  refine Or.inl ?_
                  unfold Oper.wp
                  go_simp
                  exact OwnBy.mk _ _ _ rfl (rfl) (⟨rfl, rfl⟩) (hH)
                | 17, _ =>
                  obtain rfl := Option.some.inj ho
                  have e16 : f 16 = .pointer (some ⟨g, 1, none⟩) := (hd ⟨16, .data⟩ (by simp) rfl).2.1
                  have e9 : f 9 = .bool true := (hd ⟨9, .guard⟩ (by simp) rfl).2.1
                  clear hd ho
                  have hH : Holds w (hs ++ ([] ++ R)) w1 := hH
                  subst hI
                  unfold wpOp
                  simp only [e16, e9]
                  refine Or.inl ?_
                  unfold Oper.wp
                  have q1 : w1.cell? ⟨g, 1, none⟩ = some (.slice A acc.length c) := hH.cell 1
                  go_simp
                  exact OwnBy.mk _ _ _ rfl (rfl) (⟨rfl, rfl⟩) (hH)
                | 18, _ =>
                  obtain rfl := Option.some.inj ho
                  have e17 : f 17 = .slice A acc.length c := (hd ⟨17, .data⟩ (by simp) rfl).2.1
                  have e9 : f 9 = .bool true := (hd ⟨9, .guard⟩ (by simp) rfl).2.1
                  clear hd ho
                  have hH : Holds w (hs ++ ([] ++ R)) w1 := hH
                  subst hI
                  unfold wpOp
                  simp only [e17, e9]
                  refine Or.inl ?_
                  unfold Oper.wp
                  go_simp
                  exact OwnBy.mk _ _ _ rfl (rfl) (⟨rfl, rfl⟩) (hH)
                | 19, _ =>
                  obtain rfl := Option.some.inj ho
                  have e18 : f 18 = .int .i64 acc.length := (hd ⟨18, .data⟩ (by simp) rfl).2.1
                  have e9 : f 9 = .bool true := (hd ⟨9, .guard⟩ (by simp) rfl).2.1
                  clear hd ho
                  have hH : Holds w (hs ++ ([] ++ R)) w1 := hH
                  subst hI
                  unfold wpOp
                  simp only [e18, e9]
                  refine Or.inl ?_
                  unfold Oper.wp
                  have hw1 : IntKind.i64.wrap ((acc.length : Int) - 1) = (acc.length : Int) - 1 := by rw [IntKind.wrap_i64]; omega
                  go_simp
                  exact OwnBy.mk _ _ _ rfl (rfl) (⟨rfl, rfl⟩) (hH)
                | 20, _ =>
                  obtain rfl := Option.some.inj ho
                  have e13 : f 13 = .slice A acc.length c := (hd ⟨13, .data⟩ (by simp) rfl).2.1
                  have e19 : f 19 = .int .i64 ((acc.length : Int) - 1) := (hd ⟨19, .data⟩ (by simp) rfl).2.1
                  have e9 : f 9 = .bool true := (hd ⟨9, .guard⟩ (by simp) rfl).2.1
                  clear hd ho
                  have hH : Holds w (hs ++ ([] ++ R)) w1 := hH
                  subst hI
                  unfold wpOp
                  simp only [e13, e19, e9]
                  refine Or.inl ?_
                  unfold Oper.wp
                  have hA := HAA.out
                  subst hA
                  have h1n : (1 : Int) ≤ (acc.length : Int) := by have := HL0.out; omega
                  have hi0 : (0 : Int) ≤ (acc.length : Int) - 1 := by have := HL0.out; omega
                  have hi1 : (acc.length : Int) - 1 < (acc.length : Int) := by omega
                  have hi2 : ((acc.length : Int) - 1).toNat = acc.length - 1 := by have := HL0.out; omega
                  go_simp
                  exact OwnBy.mk _ _ _ rfl (rfl) (⟨rfl, rfl⟩) (hH)
                | 21, _ =>
                  obtain rfl := Option.some.inj ho
                  have e20 : f 20 = .pointer (some ⟨gr, (acc.length - 1) * 2, none⟩) := (hd ⟨20, .data⟩ (by simp) rfl).2.1
                  have e9 : f 9 = .bool true := (hd ⟨9, .guard⟩ (by simp) rfl).2.1
                  clear hd ho
                  have hH : Holds w (hs ++ ([] ++ R)) w1 := hH
                  subst hI
                  unfold wpOp
                  simp only [e20, e9]
                  refine Or.inl ?_
                  unfold Oper.wp
                  obtain ⟨r0, r1⟩ := HZ.out w1 _ (hH.perm (k := hv ++ ((g, Obj.cells #[.string s, .slice A acc.length c] 50) :: (((b, Obj.cells (lC x) 52) :: [(bl, .cells (LL.map Value.string).toArray 9)]) ++ R))) (by classical rw [List.perm_iff_count]; intro a; simp only [List.count_append, List.count_cons, List.count_nil]; omega))
                  go_simp
                  exact OwnBy.mk _ _ _ rfl (rfl) (⟨rfl, rfl⟩) (hH)
                | 22, _ =>
                  obtain rfl := Option.some.inj ho
                  have e9 : f 9 = .bool true := (hd ⟨9, .guard⟩ (by simp) rfl).2.1
                  clear hd ho
                  have hH : Holds w (hs ++ ([] ++ R)) w1 := hH
                  subst hI
                  unfold wpOp
                  simp only [e9]
                  refine Or.inl ?_
                  unfold Oper.wp
                  have hX : Holds w ((b, Obj.cells (lC x) 52) :: ((g, Obj.cells #[.string s, .slice A acc.length c] 50) :: (hv ++ ([(bl, .cells (LL.map Value.string).toArray 9)] ++ R)))) w1 := hH.perm (by classical rw [List.perm_iff_count]; intro a; simp only [List.count_append, List.count_cons, List.count_nil]; omega)
                  have q0 : w1.cell? ⟨b, 0, none⟩ = some (.int .i64 x.f0) := hX.cell 0
                  have q1 : w1.cell? ⟨b, 1, none⟩ = some (.int .i64 x.f1) := hX.cell 1
                  go_simp
                  exact OwnBy.mk _ _ _ rfl (rfl) (⟨rfl, rfl⟩) (hH)
                | 23, _ =>
                  obtain rfl := Option.some.inj ho
                  have e21 : f 21 = .agg (lC z) := (hd ⟨21, .data⟩ (by simp) rfl).2.1
                  have e22 : f 22 = .agg (lC x) := (hd ⟨22, .data⟩ (by simp) rfl).2.1
                  have e9 : f 9 = .bool true := (hd ⟨9, .guard⟩ (by simp) rfl).2.1
                  clear hd ho
                  have hH : Holds w (hs ++ ([] ++ R)) w1 := hH
                  subst hI
                  unfold wpOp
                  simp only [e21, e22, e9]
                  refine Or.inl ?_
                  unfold Oper.wp
                  unfold lC
                  go_simp
                  refine (leap_follows.calls z.f0 z.f1 x.f0 x.f1 _ w1 (flw_f z x)).mono ?_
                  rintro e w3 ⟨rfl, hb⟩
                  exact OwnBy.mk _ _ _ rfl (rfl) (⟨rfl, rfl⟩) (hH.grow hb)
                | 24, _ =>
                  obtain rfl := Option.some.inj ho
                  have e23 : f 23 = .bool (flw z x) := (hd ⟨23, .data⟩ (by simp) rfl).2.1
                  have e9 : f 9 = .bool true := (hd ⟨9, .guard⟩ (by simp) rfl).2.1
                  clear hd ho
                  have hH : Holds w (hs ++ ([] ++ R)) w1 := hH
                  subst hI
                  unfold wpOp
                  simp only [e23, e9]
                  refine Or.inl ?_
                  unfold Oper.wp
                  go_simp
                  exact OwnBy.mk _ _ _ rfl (rfl) (⟨rfl, rfl⟩) (hH)
                | 25, _ =>
                  obtain rfl := Option.some.inj ho
                  have e9 : f 9 = .bool true := (hd ⟨9, .data⟩ (by simp) rfl).2.1
                  have e24 : f 24 = .bool !flw z x := (hd ⟨24, .data⟩ (by simp) rfl).2.1
                  have e2 : f 2 = .bool false := (hd ⟨2, .guard⟩ (by simp) rfl).2.1
                  clear hd ho
                  have hH : Holds w (hs ++ ([] ++ R)) w1 := hH
                  subst hI
                  unfold wpOp
                  simp only [e9, e24, e2]
                  refine Or.inl ?_
                  unfold Oper.wp
                  go_simp
                  exact OwnBy.mk _ _ _ rfl (rfl) (⟨rfl, rfl⟩) (hH)
                | 26, _ =>
                  obtain rfl := Option.some.inj ho
                  have e2 : f 2 = .bool false := (hd ⟨2, .data⟩ (by simp) rfl).2.1
                  have e25 : f 25 = .bool !flw z x := (hd ⟨25, .data⟩ (by simp) rfl).2.1
                  clear hd ho
                  have hH : Holds w (hs ++ ([] ++ R)) w1 := hH
                  subst hI
                  unfold wpOp
                  refine Or.inl ?_
                  simp only [e2, e25]
                  unfold Oper.wp
                  go_simp
                  exact OwnBy.mk _ _ _ rfl (rfl) (⟨rfl, rfl⟩) (hH)
                | _ + 27, h27 => exact absurd h27 (by omega)
              · intro Ls f Hf hs w1 hI hL hV hH
                have e0 : f 0 = .bool true := (hV 0 (by decide)).1
                have e1 : f 1 = .bool false := (hV 1 (by decide)).1
                have e2 : f 2 = .bool false := (hV 2 (by decide)).1
                have e3 : f 3 = .pointer (some ⟨g, 0, none⟩) := (hV 3 (by decide)).1
                have e4 : f 4 = .pointer (some ⟨g, 0, none⟩) := (hV 4 (by decide)).1
                have e5 : f 5 = .pointer (some ⟨g, 1, none⟩) := (hV 5 (by decide)).1
                have e6 : f 6 = .slice A acc.length c := (hV 6 (by decide)).1
                have e7 : f 7 = .int .i64 acc.length := (hV 7 (by decide)).1
                have e8 : f 8 = .bool true := (hV 8 (by decide)).1
                have e9 : f 9 = .bool true := (hV 9 (by decide)).1
                have e10 : f 10 = .pointer (some ⟨g, 0, none⟩) := (hV 10 (by decide)).1
                have e11 : f 11 = .pointer (some ⟨g, 0, none⟩) := (hV 11 (by decide)).1
                have e12 : f 12 = .pointer (some ⟨g, 1, none⟩) := (hV 12 (by decide)).1
                have e13 : f 13 = .slice A acc.length c := (hV 13 (by decide)).1
                have e14 : f 14 = .pointer (some ⟨g, 0, none⟩) := (hV 14 (by decide)).1
                have e15 : f 15 = .pointer (some ⟨g, 0, none⟩) := (hV 15 (by decide)).1
                have e16 : f 16 = .pointer (some ⟨g, 1, none⟩) := (hV 16 (by decide)).1
                have e17 : f 17 = .slice A acc.length c := (hV 17 (by decide)).1
                have e18 : f 18 = .int .i64 acc.length := (hV 18 (by decide)).1
                have e19 : f 19 = .int .i64 ((acc.length : Int) - 1) := (hV 19 (by decide)).1
                have e20 : f 20 = .pointer (some ⟨gr, (acc.length - 1) * 2, none⟩) := (hV 20 (by decide)).1
                have e21 : f 21 = .agg (lC z) := (hV 21 (by decide)).1
                have e22 : f 22 = .agg (lC x) := (hV 22 (by decide)).1
                have e23 : f 23 = .bool (flw z x) := (hV 23 (by decide)).1
                have e24 : f 24 = .bool !flw z x := (hV 24 (by decide)).1
                have e25 : f 25 = .bool !flw z x := (hV 25 (by decide)).1
                have e26 : f 26 = .bool !flw z x := (hV 26 (by decide)).1
                clear hV
                have hH : Holds w (hs ++ []) w1 := hH
                simp only [fill, List.take_succ_cons, List.take_zero, List.drop_succ_cons, List.drop_zero, Act.put, List.setIfInBounds_toArray, List.set_cons_zero, List.set_cons_succ, e0, e1, e2, e3, e4, e5, e6, e7, e8, e9, e10, e11, e12, e13, e14, e15, e16, e17, e18, e19, e20, e21, e22, e23, e24, e25, e26]
                subst hI
                have HQ2 := Lib.hid (show Holds w ((g, Obj.cells #[.string s, .slice A acc.length c] 50) :: (hv ++ ((b, Obj.cells (lC x) 52) :: [(bl, .cells (LL.map Value.string).toArray 9)]))) w1 from by simpa using hH)
                clear hH hL
                have hf2 : flw z x = true := by simpa using HF2.out
                simp only [hf2, Bool.not_true]
                clear hf2
                go_wp2_with fail
                refine wp_region_own 8 (fun k => match k with | 7 => [6] | 8 => [7] | _ => []) (by kernel_rfl) (by kernel_rfl) (by kernel_rfl) (by kernel_rfl) (Nat.le_of_ble_eq_true (by kernel_rfl)) w (fun Ls hs => hs = (g, .cells #[.string s, .slice A acc.length c] 50) :: ((if Ls 7 = true then [] else hv) ++ ((b, Obj.cells (lC x) 52) :: [(bl, .cells (LL.map Value.string).toArray 9)]))) (fun i v h => match i with | 0 => v = .pointer (some ⟨g, 0, none⟩) ∧ h = [] | 1 => v = .pointer (some ⟨g, 0, none⟩) ∧ h = [] | 2 => v = .pointer (some ⟨g, 0, none⟩) ∧ h = [] | 3 => v = .pointer (some ⟨g, 1, none⟩) ∧ h = [] | 4 => v = .slice A acc.length c ∧ h = [] | 5 => v = .agg (lC x) ∧ h = [] | 6 => ∃ b7, v = .slice (some ⟨b7, 0, none⟩) 1 1 ∧ h = [(b7, .cells (lC x) 52)] | 7 => RowB 52 2 v (acc.length + 1) (lV acc ++ (lC x).toList) h | _ => True) ((g, .cells #[.string s, .slice A acc.length c] 50) :: (hv ++ ((b, Obj.cells (lC x) 52) :: [(bl, .cells (LL.map Value.string).toArray 9)]))) (rfl) (HQ2.out.drew) ?_ ?_
                · intro i o hi ho Ls f Hf hs R w1 hI hL hd hH
                  simp only [fill, List.take_succ_cons, List.take_zero, Act.put, List.setIfInBounds_toArray, List.set_cons_zero, List.set_cons_succ]
                  match i, hi with
                  | 0, _ =>
                    obtain rfl := Option.some.inj ho
                    clear hd ho
                    have hH : Holds w (hs ++ ([] ++ R)) w1 := hH
                    subst hI
                    unfold wpOp
                    refine Or.inl ?_
                    unfold Oper.wp
                    go_simp
                    exact OwnBy.mk _ _ _ rfl (rfl) (⟨rfl, rfl⟩) (hH)
                  | 1, _ =>
                    obtain rfl := Option.some.inj ho
                    clear hd ho
                    have hH : Holds w (hs ++ ([] ++ R)) w1 := hH
                    subst hI
                    unfold wpOp
                    refine Or.inl ?_
                    unfold Oper.wp
                    go_simp
                    exact OwnBy.mk _ _ _ rfl (rfl) (⟨rfl, rfl⟩) (hH)
                  | 2, _ =>
                    obtain rfl := Option.some.inj ho
                    have e1 : f 1 = .pointer (some ⟨g, 0, none⟩) := (hd ⟨1, .data⟩ (by simp) rfl).2.1
                    clear hd ho
                    have hH : Holds w (hs ++ ([] ++ R)) w1 := hH
                    subst hI
                    unfold wpOp
                    refine Or.inl ?_
                    simp only [e1]
                    unfold Oper.wp
                    go_simp
                    exact OwnBy.mk _ _ _ rfl (rfl) (⟨rfl, rfl⟩) (hH)
                  | 3, _ =>
                    obtain rfl := Option.some.inj ho
                    have e2 : f 2 = .pointer (some ⟨g, 0, none⟩) := (hd ⟨2, .data⟩ (by simp) rfl).2.1
                    clear hd ho
                    have hH : Holds w (hs ++ ([] ++ R)) w1 := hH
                    subst hI
                    unfold wpOp
                    refine Or.inl ?_
                    simp only [e2]
                    unfold Oper.wp
                    go_simp
                    exact OwnBy.mk _ _ _ rfl (rfl) (⟨rfl, rfl⟩) (hH)
                  | 4, _ =>
                    obtain rfl := Option.some.inj ho
                    have e3 : f 3 = .pointer (some ⟨g, 1, none⟩) := (hd ⟨3, .data⟩ (by simp) rfl).2.1
                    clear hd ho
                    have hH : Holds w (hs ++ ([] ++ R)) w1 := hH
                    subst hI
                    unfold wpOp
                    refine Or.inl ?_
                    simp only [e3]
                    unfold Oper.wp
                    have q1 : w1.cell? ⟨g, 1, none⟩ = some (.slice A acc.length c) := hH.cell 1
                    go_simp
                    exact OwnBy.mk _ [] _ rfl rfl ⟨rfl, rfl⟩ hH
                  | 5, _ =>
                    obtain rfl := Option.some.inj ho
                    clear hd ho
                    have hH : Holds w (hs ++ ([] ++ R)) w1 := hH
                    subst hI
                    unfold wpOp
                    refine Or.inl ?_
                    unfold Oper.wp
                    have hX : Holds w ((b, Obj.cells (lC x) 52) :: ((g, .cells #[.string s, .slice A acc.length c] 50) :: ((if Ls 7 = true then [] else hv) ++ ([(bl, .cells (LL.map Value.string).toArray 9)] ++ R)))) w1 := hH.perm (by classical rw [List.perm_iff_count]; intro a; simp only [List.count_append, List.count_cons, List.count_nil]; omega)
                    have q0 : w1.cell? ⟨b, 0, none⟩ = some (.int .i64 x.f0) := hX.cell 0
                    have q1 : w1.cell? ⟨b, 1, none⟩ = some (.int .i64 x.f1) := hX.cell 1
                    go_simp
                    exact OwnBy.mk _ [] _ rfl rfl ⟨rfl, rfl⟩ hH
                  | 6, _ =>
                    obtain rfl := Option.some.inj ho
                    have e5 : f 5 = .agg (lC x) := (hd ⟨5, .data⟩ (by simp) rfl).2.1
                    clear hd ho
                    have hH : Holds w (hs ++ ([] ++ R)) w1 := hH
                    subst hI
                    unfold wpOp
                    refine Or.inl ?_
                    simp only [e5]
                    unfold Oper.wp
                    unfold lC
                    go_simp
                    exact OwnBy.mk _ [(w1.heap.size, .cells (lC x) 52)] ((g, .cells #[.string s, .slice A acc.length c] 50) :: ((if Ls 7 = true then [] else hv) ++ ((b, Obj.cells (lC x) 52) :: [(bl, .cells (LL.map Value.string).toArray 9)]))) rfl rfl ⟨_, rfl, rfl⟩ ((hH.alloc (.cells (lC x) 52)).perm (by classical rw [List.perm_iff_count]; intro a; simp only [List.count_append, List.count_cons, List.count_nil]; omega))
                  | 7, _ =>
                    obtain rfl := Option.some.inj ho
                    have e4 : f 4 = .slice A acc.length c := (hd ⟨4, .data⟩ (by simp) rfl).2.1
                    have e6 := (hd ⟨6, .data⟩ (by simp) rfl).2
                    obtain ⟨b7, e6, q6⟩ := e6
                    clear hd ho
                    have hH : Holds w (hs ++ ((Hf 6 ++ ([])) ++ R)) w1 := hH
                    simp only [q6, List.append_nil, List.append_assoc] at hH
                    subst hI
                    unfold wpOp
                    refine Or.inl ?_
                    simp only [e4, e6]
                    unfold Oper.wp
                    rw [hL, if_neg (by decide)] at hH
                    have hX : Holds w (hv ++ ((b7, Obj.cells (lC x) 52) :: ((g, .cells #[.string s, .slice A acc.length c] 50) :: (((b, Obj.cells (lC x) 52) :: [(bl, .cells (LL.map Value.string).toArray 9)]) ++ R)))) w1 := hH.perm (by classical rw [List.perm_iff_count]; intro a; simp only [List.count_append, List.count_cons, List.count_nil]; omega)
                    have hb7 : w1.heap[b7]? = some (.cells (lC x) 52 (0, 0)) := (hH.perm (k := (b7, Obj.cells (lC x) 52) :: (hv ++ ((g, .cells #[.string s, .slice A acc.length c] 50) :: (((b, Obj.cells (lC x) 52) :: [(bl, .cells (LL.map Value.string).toArray 9)]) ++ R)))) (by classical rw [List.perm_iff_count]; intro a; simp only [List.count_append, List.count_cons, List.count_nil]; omega)).get
                    obtain ⟨v', h', w', hrun, hR', hH'⟩ := ln_append HRV.out hX 48 b7 x hb7 (by omega)
                    have hH2 : Holds w (((g, .cells #[.string s, .slice A acc.length c] 50) :: ((b, Obj.cells (lC x) 52) :: [(bl, .cells (LL.map Value.string).toArray 9)])) ++ (h' ++ R)) w' := (hH'.perm (k := (b7, Obj.cells (lC x) 52) :: (((g, .cells #[.string s, .slice A acc.length c] 50) :: ((b, Obj.cells (lC x) 52) :: [(bl, .cells (LL.map Value.string).toArray 9)])) ++ (h' ++ R))) (by classical rw [List.perm_iff_count]; intro a; simp only [List.count_append, List.count_cons, List.count_nil]; omega)).tail
                    clear hX hb7
                    refine wpA (.tmp 85) (.tmp 87) rfl rfl rfl rfl hrun ?_
                    exact OwnBy.mk _ h' _ rfl rfl hR' hH2
                · intro Ls f Hf hs w1 hI hL hV hH
                  have e0 : f 0 = .pointer (some ⟨g, 0, none⟩) := (hV 0 (by decide)).1
                  have e1 : f 1 = .pointer (some ⟨g, 0, none⟩) := (hV 1 (by decide)).1
                  have e2 : f 2 = .pointer (some ⟨g, 0, none⟩) := (hV 2 (by decide)).1
                  have e3 : f 3 = .pointer (some ⟨g, 1, none⟩) := (hV 3 (by decide)).1
                  have e4 : f 4 = .slice A acc.length c := (hV 4 (by decide)).1
                  have e5 : f 5 = .agg (lC x) := (hV 5 (by decide)).1
                  have e6 := hV 6 (by decide)
                  obtain ⟨b7, e6, q6⟩ := e6
                  have e7 := hV 7 (by decide)
                  clear hV
                  have hH : Holds w (hs ++ (Hf 7 ++ [])) w1 := hH
                  simp only [List.append_nil, List.append_assoc] at hH
                  simp only [fill, List.take_succ_cons, List.take_zero, List.drop_succ_cons, List.drop_zero, Act.put, List.setIfInBounds_toArray, List.set_cons_zero, List.set_cons_succ, e0, e1, e2, e3, e4, e5, e6]
                  rw [hL 7 (by decide), if_pos rfl] at hI
                  subst hI
                  obtain ⟨A2, c2, hf7⟩ := ro_form e7
                  have HX := Lib.hid (show Holds w ((g, .cells #[.string s, .slice A acc.length c] 50) :: (Hf 7 ++ ((b, Obj.cells (lC x) 52) :: [(bl, .cells (LL.map Value.string).toArray 9)]))) w1 from hH.perm (by classical rw [List.perm_iff_count]; intro a; simp only [List.count_append, List.count_cons, List.count_nil]; omega))
                  have q1 : w1.cell? ⟨g, 1, none⟩ = some (.slice A acc.length c) := HX.out.cell 1
                  have qf : w1.frozen? ⟨g, 1, none⟩ = false := HX.out.froz 1
                  have HR7 := Lib.hid e7
                  clear e7 hH
                  rw [hf7]
                  rw [hf7] at HR7
                  go_wp2_with fail
                  have HY := Lib.hid (show Holds w ((g, .cells #[.string s, .slice A2 (acc.length + 1) c2] 50) :: (Hf 7 ++ ((b, Obj.cells (lC x) 52) :: [(bl, .cells (LL.map Value.string).toArray 9)]))) _ from HX.out.set 1 (.slice A2 (acc.length + 1) c2))
                  go_roundw
                  case rel =>
                    refine ⟨acc.length + 1, acc ++ [x], (g, .cells #[.string s, .slice A2 (acc.length + 1) c2] 50) :: Hf 7, by omega, by go_num, by simp, by rw [← HREST.out]; exact HPL.out, ⟨A2, c2, Hf 7, by simpa [lV_app] using HR7.out, by simp⟩, ?_⟩
                    exact (HY.out.perm (k := (b, Obj.cells (lC x) 52) :: (((g, .cells #[.string s, .slice A2 (acc.length + 1) c2] 50) :: Hf 7) ++ [(bl, .cells (LL.map Value.string).toArray 9)])) (by classical rw [List.perm_iff_count]; intro a; simp only [List.count_append, List.count_cons, List.count_nil]; omega)).tail
                  case measure => simp [intOf] <;> omega
  
      · obtain rfl : acc.length = last := by omega
        have hfin : pl acc [] = R := by rw [← hpl, List.drop_of_length_le (by rw [List.length_take]; omega)]
        have hB := hH.below
        clear hpl
        go_wp2_with fail
        exact bodyPost_ret (v := .tuple #[.pointer (some ⟨g, 0, none⟩), .int .i64 0]) (by simp [results, Tryd.results10, go_sem]) rfl (Or.inr ⟨acc, g, h, by rw [HPP.out, ← hfin]; rfl, rfl, hI, hH.left⟩)
  · have hem' : e.toList.isEmpty = false := by simpa using hem
    by_cases h60 : (60 : Int) < (last : Int) + 1
    · go_wp2_with fail
      exact bodyPost_ret (v := .tuple #[.pointer none, .int .i64 2]) (by simp [results, Tryd.results10, go_sem]) rfl (Or.inl ⟨2, [], by rw [HP.out, if_neg hem, if_pos (by omega)], by decide, rfl, HH0.out.below⟩)
    · have hnz : ((last : Int) + 1 == 0) = false := by rw [beq_eq_false_iff_ne]; omega
      go_wp2_with fail
      exact bodyPost_ret (v := .tuple #[.pointer none, .int .i64 3]) (by simp [results, Tryd.results10, go_sem]) rfl (Or.inl ⟨3, [], by rw [HP.out, if_neg hem, if_neg (by omega), if_pos (Or.inr hem')], by decide, rfl, HH0.out.below⟩)
end Go.Proofs.YthelnkmjhchmnaaDoor.Pa
