/- What a disk's methods do: contracts for every world. Conditions: each theorem's own. -/
import Derived.Test.YtocpelkgiebkjaaDk
namespace Go.Proofs.Ytocpelkgiebkjaa
open Go.RowKit Go.Proofs.Ytocpelkgiebkjaa.Sp
set_option linter.unusedVariables false
set_option linter.unusedSimpArgs false
structure DM where
  room : Int
  lives : Int
  power : Bool
  fl : List (ByteArray × Fl)
def absL (L : List Ent) : List (ByteArray × Fl) := L.map fun x => (x.1, x.2.2)
def totM (l : List (ByteArray × Fl)) : Nat := (l.map fun x => x.2.b.length).sum
structure DM.ok (m : DM) : Prop where
  apart : m.fl.Pairwise fun x y => x.1 ≠ y.1
  safe : ∀ x ∈ m.fl, x.2.safe ≤ x.2.b.length
  tot : (totM m.fl : Int) ≤ m.room
  room : m.room ≤ 1048576
  room0 : 64 ≤ m.room
  lives : 0 ≤ m.lives ∧ m.lives ≤ 1000000000
def IsD (g : Nat) (m : DM) (h : Hp) : Prop := ∃ mb o L hf, MapB Try.prog 9 ptrR o (Es L) ∧ m.fl = absL L ∧ FilesR L hf ∧ h = (g, dskO m.room m.lives m.power mb) :: (mb, o) :: hf ∧ m.ok
theorem tot_abs (L : List Ent) : tot L = totM (absL L) := by simp [tot, totM, absL, Function.comp_def]
theorem apart_abs {L : List Ent} (h : (absL L).Pairwise fun x y => x.1 ≠ y.1) : Apart L := by
  unfold absL at h
  rw [List.pairwise_map] at h
  exact h
def namedM (s : ByteArray) : ByteArray × Fl → Bool := fun x => decide (x.1 = s)
theorem find_abs (s : ByteArray) : ∀ L : List Ent, (absL L).find? (namedM s) = (L.find? (named s)).map fun x => (x.1, x.2.2)
  | [] => rfl
  | x :: L => by
    simp only [absL, List.map_cons, List.find?_cons]
    have e : namedM s (x.1, x.2.2) = named s x := rfl
    rw [e]
    cases hx : named s x
    · exact find_abs s L
    · rfl
def setM (s : ByteArray) (f : Fl) (l : List (ByteArray × Fl)) : List (ByteArray × Fl) := l.map fun x => if x.1 = s then (s, f) else x
theorem set_abs {L1 L2 : List Ent} {x : Ent} {f : Fl} (hA : Apart (L1 ++ x :: L2)) : setM x.1 f (absL (L1 ++ x :: L2)) = absL (L1 ++ (x.1, x.2.1, f) :: L2) := by
  unfold Apart at hA
  rw [List.pairwise_append] at hA
  have h1 : ∀ y ∈ L1, y.1 ≠ x.1 := fun y hy => hA.2.2 y hy x List.mem_cons_self
  have h2 : ∀ y ∈ L2, y.1 ≠ x.1 := fun y hy e => (List.pairwise_cons.mp hA.2.1).1 y hy e.symm
  simp only [setM, absL, List.map_append, List.map_cons, List.map_map, if_pos]
  congr 1
  · refine List.map_congr_left fun y hy => ?_
    simp [h1 y hy]
  · congr 1
    refine List.map_congr_left fun y hy => ?_
    simp [h2 y hy]
def insE (x : Ent) : List Ent → List Ent
  | [] => [x]
  | y :: r => if bytesBefore x.1.data.toList y.1.data.toList then x :: y :: r else y :: insE x r
def insM (x : ByteArray × Fl) : List (ByteArray × Fl) → List (ByteArray × Fl)
  | [] => [x]
  | y :: r => if bytesBefore x.1.data.toList y.1.data.toList then x :: y :: r else y :: insM x r
theorem ins_abs (x : Ent) : ∀ L : List Ent, insM (x.1, x.2.2) (absL L) = absL (insE x L)
  | [] => rfl
  | y :: L => by
    have ih := ins_abs x L
    simp only [absL, List.map_cons, insM, insE] at ih ⊢
    split
    · rfl
    · rw [List.map_cons, ← ih]
theorem ins_perm (x : Ent) : ∀ L : List Ent, (insE x L).Perm (x :: L)
  | [] => List.Perm.refl _
  | y :: L => by
    simp only [insE]
    split
    · exact List.Perm.refl _
    · exact ((ins_perm x L).cons y).trans (List.Perm.swap x y L)
theorem ins_permM (x : ByteArray × Fl) : ∀ L : List (ByteArray × Fl), (insM x L).Perm (x :: L)
  | [] => List.Perm.refl _
  | y :: L => by
    simp only [insM]
    split
    · exact List.Perm.refl _
    · exact ((ins_permM x L).cons y).trans (List.Perm.swap x y L)
theorem ins_files {x : Ent} {hx : Hp} (hX : FileR x.2.1 x.2.2 hx) : ∀ (L : List Ent) (h : Hp), FilesR L h → ∃ h', FilesR (insE x L) h' ∧ h'.Perm (hx ++ h)
  | [], h, hF => by
    obtain rfl : h = [] := hF
    exact ⟨hx ++ [], ⟨hx, [], hX, rfl, rfl⟩, List.Perm.refl _⟩
  | y :: L, h, ⟨h1, h2, a, b, e⟩ => by
    subst e
    simp only [insE]
    split
    · exact ⟨hx ++ (h1 ++ h2), ⟨hx, h1 ++ h2, hX, ⟨h1, h2, a, b, rfl⟩, rfl⟩, List.Perm.refl _⟩
    · obtain ⟨h', c, d⟩ := ins_files hX L h2 b
      refine ⟨h1 ++ h', ⟨h1, h', a, c, rfl⟩, ?_⟩
      refine (d.append_left h1).trans ?_
      rw [← List.append_assoc, ← List.append_assoc]
      exact List.perm_append_comm.append_right h2
theorem put_new (s : ByteArray) (c : Nat) (f : Fl) (L : List Ent) (hn : L.find? (named s) = none) : Go.ChangeMaps.putKey (.string s.data.toList) (.lit (.int .i64 c)) (Es L) = Es (insE (s, c, f) L) := by
  have e : (Es L).filter (Go.ChangeMaps.notKey (.string s.data.toList)) = Es L := by
    rw [List.filter_eq_self]
    intro p hp
    obtain ⟨x, hx, rfl⟩ := List.mem_map.mp hp
    have := List.find?_eq_none.mp hn x hx
    simp [named] at this
    simp [Go.ChangeMaps.notKey, Lit.sameKey]
    intro h
    exact this (data_inj (by simpa using h))
  unfold Go.ChangeMaps.putKey
  rw [e]
  clear e hn
  induction L with
  | nil => rfl
  | cons x L ih =>
    simp only [Es, List.map_cons, DataW.insert, insE] at ih ⊢
    have e2 : (Lit.string s.data.toList).before (Lit.string x.1.data.toList) = bytesBefore s.data.toList x.1.data.toList := rfl
    rw [e2]
    split
    · rfl
    · rw [List.map_cons, ← ih]
def appM (m : DM) (s : ByteArray) (d : List UInt8) : Int × DM :=
  if m.power then (if goodN s then (if m.room - totM m.fl < d.length then (6, m)
    else (0, { m with fl := match m.fl.find? (namedM s) with | some x => setM s { x.2 with b := x.2.b ++ d } m.fl | none => insM (s, ⟨d, 0⟩) m.fl })) else (1, m)) else (7, m)
def GI (w0 : World) (G : Hp) (L : Nat → Bool) (w' : World) : Prop := Holds w0 G w'
theorem tot_mid (L1 L2 : List Ent) (x : Ent) : tot (L1 ++ x :: L2) = tot L1 + (x.2.2.b.length + tot L2) := by simp [tot]
theorem ok_mid {m : DM} {L1 L2 : List Ent} {x : Ent} {f : Fl} (hok : m.ok) (hfl : m.fl = absL (L1 ++ x :: L2)) (hs : f.safe ≤ f.b.length) (ht : (totM m.fl : Int) + f.b.length ≤ m.room + x.2.2.b.length) : DM.ok { m with fl := absL (L1 ++ (x.1, x.2.1, f) :: L2) } := by
  obtain ⟨h1, h2, h3, h4, h5, h6⟩ := hok
  refine ⟨?_, ?_, ?_, h4, h5, h6⟩
  · rw [hfl] at h1
    simp only [absL, List.map_append, List.map_cons, List.pairwise_append, List.pairwise_cons, List.mem_cons] at h1 ⊢
    refine ⟨h1.1, ⟨h1.2.1.1, h1.2.1.2⟩, fun a ha b hb => ?_⟩
    rcases hb with rfl | hb
    · exact h1.2.2 a ha (x.1, x.2.2) (.inl rfl)
    · exact h1.2.2 a ha b (.inr hb)
  · intro y hy
    rw [hfl] at h2
    simp only [absL, List.map_append, List.map_cons, List.mem_append, List.mem_cons] at h2 hy
    rcases hy with hy | rfl | hy
    · exact h2 y (.inl hy)
    · exact hs
    · exact h2 y (.inr (.inr hy))
  · rw [hfl] at ht
    rw [← tot_abs] at ht ⊢
    rw [tot_mid] at ht ⊢
    simp only
    omega
theorem ok_ins {m : DM} {L : List Ent} {s : ByteArray} {d : List UInt8} (hok : m.ok) (hfl : m.fl = absL L) (hn : L.find? (named s) = none) (ht : (totM m.fl : Int) + d.length ≤ m.room) : DM.ok { m with fl := insM (s, ⟨d, 0⟩) m.fl } := by
  obtain ⟨h1, h2, h3, h4, h5, h6⟩ := hok
  have hp := ins_permM (s, (⟨d, 0⟩ : Fl)) m.fl
  refine ⟨?_, ?_, ?_, h4, h5, h6⟩
  · have : ((s, (⟨d, 0⟩ : Fl)) :: m.fl).Pairwise fun x y => x.1 ≠ y.1 := by
      refine List.pairwise_cons.mpr ⟨fun y hy e => ?_, h1⟩
      rw [hfl] at hy
      obtain ⟨z, hz, rfl⟩ := List.mem_map.mp hy
      have := List.find?_eq_none.mp hn z hz
      simp [named] at this
      exact this e.symm
    exact (hp.pairwise_iff (fun {_ _} h => Ne.symm h)).mpr this
  · intro y hy
    have := hp.mem_iff.mp hy
    rcases List.mem_cons.mp this with rfl | h
    · exact Nat.zero_le _
    · exact h2 y h
  · have e : totM (insM (s, (⟨d, 0⟩ : Fl)) m.fl) = d.length + totM m.fl := by
      unfold totM
      rw [(hp.map _).sum_nat]
      simp
    simp only
    rw [e]
    omega
theorem reads_one {w0 w : World} {F : Hp} (H : Holds w0 F w) (s : ByteArray) : Reads (w.alloc (.cells #[.string s] 9)) (some ⟨w.heap.size, 0, none⟩) [s].length 1 ([s].map Value.string) := by
  refine ⟨rfl, (fun h => by cases h), fun ad had j u hj => ?_⟩
  injection had with had
  subst had
  match j with
  | 0 =>
    obtain rfl : Value.string s = u := by simpa using hj
    exact (H.alloc (.cells #[.string s] 9)).cell 0
  | _ + 1 => simp at hj

set_option maxRecDepth 100000 in
set_option maxHeartbeats 4000000 in
theorem append_calls (g : Nat) (m : DM) (h F : Hp) (s : ByteArray) (A : Option Addr) (c : Nat) (d : List UInt8) (w0 w : World) (hs : s.size ≤ 9223372036854775807) (hc : A = none → c = 0) (hd : d.length ≤ 100000000) (hcnt : m.fl.length < 1000000000) (hI : IsD g m h) (H : Holds w0 (h ++ F) w)
    (hr : ∀ w', Holds w0 F w' → Reads w' A d.length 1 (bv d)) :
    Calls Try.prog 10 #[.pointer (some ⟨g, 0, none⟩), .string s, .slice A d.length c] w fun e w' => e = .returned (.int .i64 (appM m s d).1) ∧ ∃ h', IsD g (appM m s d).2 h' ∧ Holds w0 (h' ++ F) w' := by
  obtain ⟨mb, o, L, hf, hM, hfl, hF, rfl, hok⟩ := hI
  have HM := Lib.hid hM; have HF := Lib.hid hF; have HOK := Lib.hid hok; have HFL := Lib.hid hfl
  have HR := Lib.hid hr
  have HA := Lib.hid (apart_abs (L := L) (by rw [← hfl]; exact hok.apart))
  have htm : tot L = totM m.fl := by rw [hfl]; exact tot_abs L
  have HT := Lib.hid (show tot L ≤ 1000000000 by have := hok.tot; have := hok.room; omega)
  have htr : (tot L : Int) ≤ 1048576 := by have := hok.tot; have := hok.room; omega
  have hrm : m.room ≤ 1048576 ∧ 64 ≤ m.room := ⟨hok.room, hok.room0⟩
  have HI := Lib.hid (show IsD g m _ from ⟨mb, o, L, hf, hM, hfl, hF, rfl, hok⟩)
  have hrd : Reads (w.alloc (.cells #[.string s] 9)) (some ⟨w.heap.size, 0, none⟩) [s].length 1 ([s].map Value.string) := reads_one H s
  have HRD := Lib.hid hrd
  have B1 : Below w.heap.size w (w.alloc (.cells #[.string s] 9)) := (Below.refl _ w).alloc (Nat.le_refl _) _
  have HH1 := Lib.hid (H.grow B1)
  have HG3 := Lib.hid (show (w.alloc (.cells #[.string s] 9)).heap[g]? = some (dskO m.room m.lives m.power mb) from HH1.out.get)
  have HTM := Lib.hid htm
  have hwr := Lib.hid (show IntKind.i64.wrap (m.room - (tot L : Int)) = m.room - (tot L : Int) by rw [IntKind.wrap_i64]; omega)
  clear hM hfl hF hok hrd H B1 hr htm
  cases hp : m.power
  · have q : appM m s d = (7, m) := by simp [appM, hp]
    rw [q]
    rw [hp] at HG3
    go_enter Try.func10, Try.ntmps10
    go_wp2_with fail
    refine (may_calls g m.room m.lives false mb [s] (some ⟨w.heap.size, 0, none⟩) 1 _ HG3.out HRD.out (by simp) (by simpa using hs) (by simp)).mono ?_
    rintro e w' ⟨he, rfl⟩
    rw [show mayE false [s] = 7 from rfl] at he
    subst he
    go_wp2_with fail
    go_ret
    exact ⟨rfl, _, HI.out, HH1.out⟩
  rw [hp] at HG3
  cases hgd : goodN s
  · have q : appM m s d = (1, m) := by simp [appM, hp, hgd]
    rw [q]
    have hq : mayE true [s] = 1 := by simp [mayE, hgd]
    go_enter Try.func10, Try.ntmps10
    go_wp2_with fail
    refine (may_calls g m.room m.lives true mb [s] (some ⟨w.heap.size, 0, none⟩) 1 _ HG3.out HRD.out (by simp) (by simpa using hs) (by simp)).mono ?_
    rintro e w' ⟨he, rfl⟩
    rw [hq] at he
    subst he
    go_wp2_with fail
    go_ret
    exact ⟨rfl, _, HI.out, HH1.out⟩
  have hq : mayE true [s] = 0 := by simp [mayE, hgd]
  rw [hp] at HH1
  by_cases hfull : m.room - totM m.fl < d.length
  · have hb : decide (m.room - (tot L : Int) < (d.length : Int)) = true := decide_eq_true (by rw [HTM.out]; exact hfull)
    have q : appM m s d = (6, m) := by simp [appM, hp, hgd, hfull]
    rw [q]
    clear hfull q
    go_enter Try.func10, Try.ntmps10
    go_wp2_with fail
    refine (may_calls g m.room m.lives true mb [s] (some ⟨w.heap.size, 0, none⟩) 1 _ HG3.out HRD.out (by simp) (by simpa using hs) (by simp)).mono ?_
    rintro e w' ⟨he, rfl⟩
    rw [hq] at he
    subst he
    clear hq hgd
    go_wp2_with fail
    refine wp_region_vals 10 (by kernel_rfl) (by kernel_rfl) (by kernel_rfl) (fun Ls w' => GI w0 ((g, dskO m.room m.lives true mb) :: (mb, o) :: hf ++ F) Ls w') (fun w1 w2 => True) (fun i w v => match i with | 0 => v = .slice A d.length c | 1 => v = .int .i64 d.length | 2 => v = .pointer (some ⟨g, 0, none⟩) | 3 => v = .pointer (some ⟨g, 0, none⟩) | 4 => v = .pointer (some ⟨g, 0, none⟩) | 5 => v = .int .i64 m.room | 6 => v = .pointer (some ⟨g, 0, none⟩) | 7 => v = .int .i64 (tot L) | 8 => v = .int .i64 (m.room - tot L) | 9 => v = .bool true | _ => True) (show Holds w0 _ _ from HH1.out.drew) ?_ ?_ ?_
    · intro i v w1 w2 hS h
      match i, h with
      | 0, h => exact h
      | 1, h => exact h
      | 2, h => exact h
      | 3, h => exact h
      | 4, h => exact h
      | 5, h => exact h
      | 6, h => exact h
      | 7, h => exact h
      | 8, h => exact h
      | 9, h => exact h
      | _ + 10, h => exact trivial
    · intro i o hi ho Ls f w1 hI hL hd
      match i, hi with
      | 0, _ =>
        obtain rfl := Option.some.inj ho
        have c0 : w1.cell? ⟨g, 0, none⟩ = some (.int .i64 m.room) := Holds.cell hI 0
        clear hd ho
        unfold wpOp
        refine Or.inl ?_
        simp only [fill, List.take_succ_cons, List.take_zero, Act.put, List.setIfInBounds_toArray, List.set_cons_zero, List.set_cons_succ]
        unfold Oper.wp
        go_simp
        exact LeftBy.mk _ rfl (hI) (trivial) (rfl)
      | 1, _ =>
        obtain rfl := Option.some.inj ho
        have e0 : f 0 = .slice A d.length c := (hd ⟨0, .data⟩ (by simp) rfl).2
        have c0 : w1.cell? ⟨g, 0, none⟩ = some (.int .i64 m.room) := Holds.cell hI 0
        clear hd ho
        unfold wpOp
        refine Or.inl ?_
        simp only [fill, List.take_succ_cons, List.take_zero, Act.put, List.setIfInBounds_toArray, List.set_cons_zero, List.set_cons_succ, e0]
        unfold Oper.wp
        go_simp
        exact LeftBy.mk _ rfl (hI) (trivial) (rfl)
      | 2, _ =>
        obtain rfl := Option.some.inj ho
        have c0 : w1.cell? ⟨g, 0, none⟩ = some (.int .i64 m.room) := Holds.cell hI 0
        clear hd ho
        unfold wpOp
        refine Or.inl ?_
        simp only [fill, List.take_succ_cons, List.take_zero, Act.put, List.setIfInBounds_toArray, List.set_cons_zero, List.set_cons_succ]
        unfold Oper.wp
        go_simp
        exact LeftBy.mk _ rfl (hI) (trivial) (rfl)
      | 3, _ =>
        obtain rfl := Option.some.inj ho
        have e2 : f 2 = .pointer (some ⟨g, 0, none⟩) := (hd ⟨2, .data⟩ (by simp) rfl).2
        have c0 : w1.cell? ⟨g, 0, none⟩ = some (.int .i64 m.room) := Holds.cell hI 0
        clear hd ho
        unfold wpOp
        refine Or.inl ?_
        simp only [fill, List.take_succ_cons, List.take_zero, Act.put, List.setIfInBounds_toArray, List.set_cons_zero, List.set_cons_succ, e2]
        unfold Oper.wp
        go_simp
        exact LeftBy.mk _ rfl (hI) (trivial) (rfl)
      | 4, _ =>
        obtain rfl := Option.some.inj ho
        have e3 : f 3 = .pointer (some ⟨g, 0, none⟩) := (hd ⟨3, .data⟩ (by simp) rfl).2
        have c0 : w1.cell? ⟨g, 0, none⟩ = some (.int .i64 m.room) := Holds.cell hI 0
        clear hd ho
        unfold wpOp
        refine Or.inl ?_
        simp only [fill, List.take_succ_cons, List.take_zero, Act.put, List.setIfInBounds_toArray, List.set_cons_zero, List.set_cons_succ, e3]
        unfold Oper.wp
        go_simp
        exact LeftBy.mk _ rfl (hI) (trivial) (rfl)
      | 5, _ =>
        obtain rfl := Option.some.inj ho
        have e4 : f 4 = .pointer (some ⟨g, 0, none⟩) := (hd ⟨4, .data⟩ (by simp) rfl).2
        have c0 : w1.cell? ⟨g, 0, none⟩ = some (.int .i64 m.room) := Holds.cell hI 0
        clear hd ho
        unfold wpOp
        refine Or.inl ?_
        simp only [fill, List.take_succ_cons, List.take_zero, Act.put, List.setIfInBounds_toArray, List.set_cons_zero, List.set_cons_succ, e4]
        unfold Oper.wp
        go_simp
        exact LeftBy.mk _ rfl (hI) (trivial) (rfl)
      | 6, _ =>
        obtain rfl := Option.some.inj ho
        have c0 : w1.cell? ⟨g, 0, none⟩ = some (.int .i64 m.room) := Holds.cell hI 0
        clear hd ho
        unfold wpOp
        refine Or.inl ?_
        simp only [fill, List.take_succ_cons, List.take_zero, Act.put, List.setIfInBounds_toArray, List.set_cons_zero, List.set_cons_succ]
        unfold Oper.wp
        go_simp
        exact LeftBy.mk _ rfl (hI) (trivial) (rfl)
      | 7, _ =>
        obtain rfl := Option.some.inj ho
        have e6 : f 6 = .pointer (some ⟨g, 0, none⟩) := (hd ⟨6, .data⟩ (by simp) rfl).2
        have c0 : w1.cell? ⟨g, 0, none⟩ = some (.int .i64 m.room) := Holds.cell hI 0
        clear hd ho
        unfold wpOp
        refine Or.inl ?_
        simp only [fill, List.take_succ_cons, List.take_zero, Act.put, List.setIfInBounds_toArray, List.set_cons_zero, List.set_cons_succ, e6]
        unfold Oper.wp
        go_simp
        refine (total_calls g m.room m.lives true mb o L hf F w0 w1 HM.out HF.out HA.out HT.out hI).mono ?_
        rintro e w3 ⟨rfl, hH3⟩
        exact LeftBy.mk _ rfl hH3 trivial rfl
      | 8, _ =>
        obtain rfl := Option.some.inj ho
        have e5 : f 5 = .int .i64 m.room := (hd ⟨5, .data⟩ (by simp) rfl).2
        have e7 : f 7 = .int .i64 (tot L) := (hd ⟨7, .data⟩ (by simp) rfl).2
        have c0 : w1.cell? ⟨g, 0, none⟩ = some (.int .i64 m.room) := Holds.cell hI 0
        clear hd ho
        unfold wpOp
        refine Or.inl ?_
        simp only [fill, List.take_succ_cons, List.take_zero, Act.put, List.setIfInBounds_toArray, List.set_cons_zero, List.set_cons_succ, e5, e7]
        unfold Oper.wp
        go_simp
        exact LeftBy.mk _ rfl (hI) (trivial) ((by first | rfl | (show Value.int .i64 (IntKind.i64.wrap (m.room - ↑(tot L))) = _; rw [hwr.out])))
      | 9, _ =>
        obtain rfl := Option.some.inj ho
        have e1 : f 1 = .int .i64 d.length := (hd ⟨1, .data⟩ (by simp) rfl).2
        have e8 : f 8 = .int .i64 (m.room - tot L) := (hd ⟨8, .data⟩ (by simp) rfl).2
        have c0 : w1.cell? ⟨g, 0, none⟩ = some (.int .i64 m.room) := Holds.cell hI 0
        clear hd ho
        unfold wpOp
        refine Or.inl ?_
        simp only [fill, List.take_succ_cons, List.take_zero, Act.put, List.setIfInBounds_toArray, List.set_cons_zero, List.set_cons_succ, e1, e8]
        unfold Oper.wp
        go_simp
        exact LeftBy.mk _ rfl (hI) (trivial) (rfl)
    · intro Ls f w1 hI hL hV
      have e0 : f 0 = .slice A d.length c := hV 0 (by decide) (by simp)
      have e1 : f 1 = .int .i64 d.length := hV 1 (by decide) (by simp)
      have e2 : f 2 = .pointer (some ⟨g, 0, none⟩) := hV 2 (by decide) (by simp)
      have e3 : f 3 = .pointer (some ⟨g, 0, none⟩) := hV 3 (by decide) (by simp)
      have e4 : f 4 = .pointer (some ⟨g, 0, none⟩) := hV 4 (by decide) (by simp)
      have e5 : f 5 = .int .i64 m.room := hV 5 (by decide) (by simp)
      have e6 : f 6 = .pointer (some ⟨g, 0, none⟩) := hV 6 (by decide) (by simp)
      have e7 : f 7 = .int .i64 (tot L) := hV 7 (by decide) (by simp)
      have e8 : f 8 = .int .i64 (m.room - tot L) := hV 8 (by decide) (by simp)
      have e9 : f 9 = .bool true := hV 9 (by decide) (by simp)
      clear hV hL
      simp only [fill, List.take_succ_cons, List.take_zero, List.drop_succ_cons, List.drop_zero, Act.put, List.setIfInBounds_toArray, List.set_cons_zero, List.set_cons_succ, e0, e1, e2, e3, e4, e5, e6, e7, e8, e9]
      go_wp2_with fail
      go_ret
      exact ⟨rfl, _, HI.out, (by have := hI; unfold GI at this; rw [← hp] at this; exact this)⟩
  · have hb : decide (m.room - (tot L : Int) < (d.length : Int)) = false := decide_eq_false (by rw [HTM.out]; exact hfull)
    have hgs := size_of_good hgd
    cases hfd : L.find? (named s) with
    | none =>
      have q : appM m s d = (0, { m with fl := insM (s, ⟨d, 0⟩) m.fl }) := by
        have e := find_abs s L
        rw [hfd, ← HFL.out] at e
        simp only [appM, hp, hgd, if_true]
        rw [if_neg hfull, e]
        rfl
      rw [q]
      have HFU := Lib.hid hfull; have HFD := Lib.hid hfd
      clear hfull q
      go_enter Try.func10, Try.ntmps10
      go_wp2_with fail
      refine (may_calls g m.room m.lives true mb [s] (some ⟨w.heap.size, 0, none⟩) 1 _ HG3.out HRD.out (by simp) (by simpa using hs) (by simp)).mono ?_
      rintro e w' ⟨he, rfl⟩
      rw [hq] at he
      subst he
      have HGD := Lib.hid hgd
      clear hq hgd hfd
      go_wp2_with fail
      refine wp_region_vals 10 (by kernel_rfl) (by kernel_rfl) (by kernel_rfl) (fun Ls w' => GI w0 ((g, dskO m.room m.lives true mb) :: (mb, o) :: hf ++ F) Ls w') (fun w1 w2 => True) (fun i w v => match i with | 0 => v = .slice A d.length c | 1 => v = .int .i64 d.length | 2 => v = .pointer (some ⟨g, 0, none⟩) | 3 => v = .pointer (some ⟨g, 0, none⟩) | 4 => v = .pointer (some ⟨g, 0, none⟩) | 5 => v = .int .i64 m.room | 6 => v = .pointer (some ⟨g, 0, none⟩) | 7 => v = .int .i64 (tot L) | 8 => v = .int .i64 (m.room - tot L) | 9 => v = .bool false | _ => True) (show Holds w0 _ _ from HH1.out.drew) ?_ ?_ ?_
      · intro i v w1 w2 hS h
        match i, h with
        | 0, h => exact h
        | 1, h => exact h
        | 2, h => exact h
        | 3, h => exact h
        | 4, h => exact h
        | 5, h => exact h
        | 6, h => exact h
        | 7, h => exact h
        | 8, h => exact h
        | 9, h => exact h
        | _ + 10, h => exact trivial
      · intro i o hi ho Ls f w1 hI hL hd
        match i, hi with
        | 0, _ =>
          obtain rfl := Option.some.inj ho
          have c0 : w1.cell? ⟨g, 0, none⟩ = some (.int .i64 m.room) := Holds.cell hI 0
          clear hd ho
          unfold wpOp
          refine Or.inl ?_
          simp only [fill, List.take_succ_cons, List.take_zero, Act.put, List.setIfInBounds_toArray, List.set_cons_zero, List.set_cons_succ]
          unfold Oper.wp
          go_simp
          exact LeftBy.mk _ rfl (hI) (trivial) (rfl)
        | 1, _ =>
          obtain rfl := Option.some.inj ho
          have e0 : f 0 = .slice A d.length c := (hd ⟨0, .data⟩ (by simp) rfl).2
          have c0 : w1.cell? ⟨g, 0, none⟩ = some (.int .i64 m.room) := Holds.cell hI 0
          clear hd ho
          unfold wpOp
          refine Or.inl ?_
          simp only [fill, List.take_succ_cons, List.take_zero, Act.put, List.setIfInBounds_toArray, List.set_cons_zero, List.set_cons_succ, e0]
          unfold Oper.wp
          go_simp
          exact LeftBy.mk _ rfl (hI) (trivial) (rfl)
        | 2, _ =>
          obtain rfl := Option.some.inj ho
          have c0 : w1.cell? ⟨g, 0, none⟩ = some (.int .i64 m.room) := Holds.cell hI 0
          clear hd ho
          unfold wpOp
          refine Or.inl ?_
          simp only [fill, List.take_succ_cons, List.take_zero, Act.put, List.setIfInBounds_toArray, List.set_cons_zero, List.set_cons_succ]
          unfold Oper.wp
          go_simp
          exact LeftBy.mk _ rfl (hI) (trivial) (rfl)
        | 3, _ =>
          obtain rfl := Option.some.inj ho
          have e2 : f 2 = .pointer (some ⟨g, 0, none⟩) := (hd ⟨2, .data⟩ (by simp) rfl).2
          have c0 : w1.cell? ⟨g, 0, none⟩ = some (.int .i64 m.room) := Holds.cell hI 0
          clear hd ho
          unfold wpOp
          refine Or.inl ?_
          simp only [fill, List.take_succ_cons, List.take_zero, Act.put, List.setIfInBounds_toArray, List.set_cons_zero, List.set_cons_succ, e2]
          unfold Oper.wp
          go_simp
          exact LeftBy.mk _ rfl (hI) (trivial) (rfl)
        | 4, _ =>
          obtain rfl := Option.some.inj ho
          have e3 : f 3 = .pointer (some ⟨g, 0, none⟩) := (hd ⟨3, .data⟩ (by simp) rfl).2
          have c0 : w1.cell? ⟨g, 0, none⟩ = some (.int .i64 m.room) := Holds.cell hI 0
          clear hd ho
          unfold wpOp
          refine Or.inl ?_
          simp only [fill, List.take_succ_cons, List.take_zero, Act.put, List.setIfInBounds_toArray, List.set_cons_zero, List.set_cons_succ, e3]
          unfold Oper.wp
          go_simp
          exact LeftBy.mk _ rfl (hI) (trivial) (rfl)
        | 5, _ =>
          obtain rfl := Option.some.inj ho
          have e4 : f 4 = .pointer (some ⟨g, 0, none⟩) := (hd ⟨4, .data⟩ (by simp) rfl).2
          have c0 : w1.cell? ⟨g, 0, none⟩ = some (.int .i64 m.room) := Holds.cell hI 0
          clear hd ho
          unfold wpOp
          refine Or.inl ?_
          simp only [fill, List.take_succ_cons, List.take_zero, Act.put, List.setIfInBounds_toArray, List.set_cons_zero, List.set_cons_succ, e4]
          unfold Oper.wp
          go_simp
          exact LeftBy.mk _ rfl (hI) (trivial) (rfl)
        | 6, _ =>
          obtain rfl := Option.some.inj ho
          have c0 : w1.cell? ⟨g, 0, none⟩ = some (.int .i64 m.room) := Holds.cell hI 0
          clear hd ho
          unfold wpOp
          refine Or.inl ?_
          simp only [fill, List.take_succ_cons, List.take_zero, Act.put, List.setIfInBounds_toArray, List.set_cons_zero, List.set_cons_succ]
          unfold Oper.wp
          go_simp
          exact LeftBy.mk _ rfl (hI) (trivial) (rfl)
        | 7, _ =>
          obtain rfl := Option.some.inj ho
          have e6 : f 6 = .pointer (some ⟨g, 0, none⟩) := (hd ⟨6, .data⟩ (by simp) rfl).2
          have c0 : w1.cell? ⟨g, 0, none⟩ = some (.int .i64 m.room) := Holds.cell hI 0
          clear hd ho
          unfold wpOp
          refine Or.inl ?_
          simp only [fill, List.take_succ_cons, List.take_zero, Act.put, List.setIfInBounds_toArray, List.set_cons_zero, List.set_cons_succ, e6]
          unfold Oper.wp
          go_simp
          refine (total_calls g m.room m.lives true mb o L hf F w0 w1 HM.out HF.out HA.out HT.out hI).mono ?_
          rintro e w3 ⟨rfl, hH3⟩
          exact LeftBy.mk _ rfl hH3 trivial rfl
        | 8, _ =>
          obtain rfl := Option.some.inj ho
          have e5 : f 5 = .int .i64 m.room := (hd ⟨5, .data⟩ (by simp) rfl).2
          have e7 : f 7 = .int .i64 (tot L) := (hd ⟨7, .data⟩ (by simp) rfl).2
          have c0 : w1.cell? ⟨g, 0, none⟩ = some (.int .i64 m.room) := Holds.cell hI 0
          clear hd ho
          unfold wpOp
          refine Or.inl ?_
          simp only [fill, List.take_succ_cons, List.take_zero, Act.put, List.setIfInBounds_toArray, List.set_cons_zero, List.set_cons_succ, e5, e7]
          unfold Oper.wp
          go_simp
          exact LeftBy.mk _ rfl (hI) (trivial) ((by first | rfl | (show Value.int .i64 (IntKind.i64.wrap (m.room - ↑(tot L))) = _; rw [hwr.out])))
        | 9, _ =>
          obtain rfl := Option.some.inj ho
          have e1 : f 1 = .int .i64 d.length := (hd ⟨1, .data⟩ (by simp) rfl).2
          have e8 : f 8 = .int .i64 (m.room - tot L) := (hd ⟨8, .data⟩ (by simp) rfl).2
          have c0 : w1.cell? ⟨g, 0, none⟩ = some (.int .i64 m.room) := Holds.cell hI 0
          clear hd ho
          unfold wpOp
          refine Or.inl ?_
          simp only [fill, List.take_succ_cons, List.take_zero, Act.put, List.setIfInBounds_toArray, List.set_cons_zero, List.set_cons_succ, e1, e8]
          unfold Oper.wp
          go_simp
          exact LeftBy.mk _ rfl (hI) (trivial) (rfl)
      · intro Ls f w1 hI hL hV
        have e0 : f 0 = .slice A d.length c := hV 0 (by decide) (by simp)
        have e1 : f 1 = .int .i64 d.length := hV 1 (by decide) (by simp)
        have e2 : f 2 = .pointer (some ⟨g, 0, none⟩) := hV 2 (by decide) (by simp)
        have e3 : f 3 = .pointer (some ⟨g, 0, none⟩) := hV 3 (by decide) (by simp)
        have e4 : f 4 = .pointer (some ⟨g, 0, none⟩) := hV 4 (by decide) (by simp)
        have e5 : f 5 = .int .i64 m.room := hV 5 (by decide) (by simp)
        have e6 : f 6 = .pointer (some ⟨g, 0, none⟩) := hV 6 (by decide) (by simp)
        have e7 : f 7 = .int .i64 (tot L) := hV 7 (by decide) (by simp)
        have e8 : f 8 = .int .i64 (m.room - tot L) := hV 8 (by decide) (by simp)
        have e9 : f 9 = .bool false := hV 9 (by decide) (by simp)
        clear hV hL
        simp only [fill, List.take_succ_cons, List.take_zero, List.drop_succ_cons, List.drop_zero, Act.put, List.setIfInBounds_toArray, List.set_cons_zero, List.set_cons_succ, e0, e1, e2, e3, e4, e5, e6, e7, e8, e9]
        have H1 : Holds w0 ((g, dskO m.room m.lives true mb) :: (mb, o) :: hf ++ F) w1 := hI
        have c3 : w1.cell? ⟨g, 3, none⟩ = some (.map (some mb)) := H1.cell 3
        have hlk := look (L := L) s (by have hmx : maxLen = 9223372036854775807 := rfl; omega) H1.tail.get HM.out
        rw [HFD.out] at hlk
        simp only [Option.map_none, ptrOf] at hlk
        have H2 := H1.alloc (flO (.slice none 0 0) ⟨[], 0⟩)
        obtain ⟨bx, hbx⟩ : ∃ bx, w1.heap.size = bx := ⟨_, rfl⟩
        rw [hbx] at H2
        have H2' : Holds w0 ((bx, flO (.slice none 0 0) ⟨[], 0⟩) :: (g, dskO m.room m.lives true mb) :: (mb, o) :: (hf ++ F)) (w1.alloc (flO (.slice none 0 0) ⟨[], 0⟩)) := H2
        have c3a : (w1.alloc (.cells #[.slice none 0 0, .int .i64 0] 59)).cell? ⟨g, 3, none⟩ = some (.map (some mb)) := H2'.tail.cell 3
        obtain ⟨w2, o2, hrun, ho2, hM2, hgr⟩ := mp_put (H2'.tail.tail.get) HM.out law9 Try.underlying53 (by rw [show (Es L).length = L.length by simp [Es]]; have h1 := hcnt; rw [HFL.out] at h1; simp only [absL, List.length_map] at h1; have hmx : maxLen = 9223372036854775807 := rfl; omega) (Go.WideMaps.keyOf_string_mk Try.underlying9 (by have hmx : maxLen = 9223372036854775807 := rfl; omega : s.size ≤ maxLen)) (d := .lit (.int .i64 bx)) (ps := []) (show ptrR (.pointer (some ⟨bx, 0, none⟩)) = _ from rfl)
        rw [put_new s bx ⟨d, 0⟩ L HFD.out] at hM2
        have H3 : Holds w0 ([(bx, flO (.slice none 0 0) ⟨[], 0⟩), (g, dskO m.room m.lives true mb)] ++ (mb, o2) :: (hf ++ F)) w2 := Holds.turn_mid (h := [(bx, flO (.slice none 0 0) ⟨[], 0⟩), (g, dskO m.room m.lives true mb)]) H2' hgr ho2
        have d0 : w2.cell? ⟨bx, 0, none⟩ = some (.slice none 0 0) := Holds.cell (cs := flC (.slice none 0 0) ⟨[], 0⟩) H3 0
        have H3' : Holds w0 ([] ++ ((bx, flO (.slice none 0 0) ⟨[], 0⟩) :: (g, dskO m.room m.lives true mb) :: (mb, o2) :: (hf ++ F))) w2 := H3
        obtain ⟨v', h', w3, r1, r2, r3⟩ := bytes_append (bs := []) (RowB.nil 5 1) (h := []) H3' 28 A c d hc (HR.out w2 (Holds.right (h := (bx, flO (.slice none 0 0) ⟨[], 0⟩) :: (g, dskO m.room m.lives true mb) :: (mb, o2) :: hf) (by simpa using H3))) (by simp; omega)
        have r3' : Holds w0 ((bx, flO (.slice none 0 0) ⟨[], 0⟩) :: ((g, dskO m.room m.lives true mb) :: (mb, o2) :: (hf ++ (h' ++ F)))) w3 := r3.perm (by classical rw [List.perm_iff_count]; intro a; simp only [List.count_append, List.count_cons, List.count_nil]; omega)
        have e0 : w3.cell? ⟨bx, 0, none⟩ = some (.slice none 0 0) := Holds.cell (cs := flC (.slice none 0 0) ⟨[], 0⟩) r3' 0
        have f0 : w3.frozen? ⟨bx, 0, none⟩ = false := Holds.froz (cs := flC (.slice none 0 0) ⟨[], 0⟩) r3' 0
        simp only [List.nil_append] at r2
        obtain ⟨A2, c2, hv2, _⟩ := RowB.form r2
        subst hv2
        have R1 := Lib.hid r1; have R2 := Lib.hid r2; have R3 := Lib.hid r3'; have HM2 := Lib.hid hM2
        have hrun' : (Instr.mapUpdate 53 (.map (some mb)) (.string s) (.pointer (some ⟨bx, 0, none⟩))).run Try.prog (w1.alloc (.cells #[.slice none 0 0, .int .i64 0] 59)) = .ok () w2 := hrun
        clear H1 hI H2 H2' H3 H3' r1 r2 r3 r3' hM2 hgr ho2 hrun
        go_wp2_with ((with_reducible refine apL (.tmp 46) (.tmp 47) ?_ ?_ R1.out ?_); rfl; rfl)
        go_ret
        obtain ⟨hf', k1, k2⟩ := ins_files (x := (s, bx, ⟨d, 0⟩)) (hx := (bx, flO (.slice A2 d.length c2) ⟨d, 0⟩) :: h') ⟨_, h', R2.out, rfl⟩ L hf HF.out
        refine ⟨rfl, _, ⟨mb, o2, insE (s, bx, ⟨d, 0⟩) L, hf', HM2.out, ?_, k1, rfl, ok_ins HOK.out HFL.out HFD.out (by have := HTM.out; have := HFU.out; omega)⟩, ?_⟩
        · show insM (s, ⟨d, 0⟩) m.fl = _
          rw [HFL.out]
          exact ins_abs (s, bx, ⟨d, 0⟩) L
        · have H6 : Holds w0 ((bx, flO (.slice A2 d.length c2) ⟨d, 0⟩) :: ((g, dskO m.room m.lives true mb) :: (mb, o2) :: (hf ++ (h' ++ F)))) (w3.setCell ⟨bx, 0, none⟩ (.slice A2 d.length c2)) := Holds.set (cs := flC (.slice none 0 0) ⟨[], 0⟩) R3.out 0 (.slice A2 d.length c2)
          rw [← hp] at H6
          refine H6.perm ?_
          refine List.Perm.trans (by classical rw [List.perm_iff_count]; intro a; simp only [List.count_append, List.count_cons, List.count_nil]; omega) (List.Perm.symm (((k2.append_right F).cons (mb, o2)).cons (g, dskO m.room m.lives m.power mb)))
    | some x =>
      have q : appM m s d = (0, { m with fl := setM s { x.2.2 with b := x.2.2.b ++ d } m.fl }) := by
        have e := find_abs s L
        rw [hfd, ← HFL.out] at e
        simp only [appM, hp, hgd, if_true]
        rw [if_neg hfull, e]
        rfl
      rw [q]
      have HFU := Lib.hid hfull; have HFD := Lib.hid hfd
      clear hfull q
      go_enter Try.func10, Try.ntmps10
      go_wp2_with fail
      refine (may_calls g m.room m.lives true mb [s] (some ⟨w.heap.size, 0, none⟩) 1 _ HG3.out HRD.out (by simp) (by simpa using hs) (by simp)).mono ?_
      rintro e w' ⟨he, rfl⟩
      rw [hq] at he
      subst he
      have HGD := Lib.hid hgd
      clear hq hgd hfd
      go_wp2_with fail
      refine wp_region_vals 10 (by kernel_rfl) (by kernel_rfl) (by kernel_rfl) (fun Ls w' => GI w0 ((g, dskO m.room m.lives true mb) :: (mb, o) :: hf ++ F) Ls w') (fun w1 w2 => True) (fun i w v => match i with | 0 => v = .slice A d.length c | 1 => v = .int .i64 d.length | 2 => v = .pointer (some ⟨g, 0, none⟩) | 3 => v = .pointer (some ⟨g, 0, none⟩) | 4 => v = .pointer (some ⟨g, 0, none⟩) | 5 => v = .int .i64 m.room | 6 => v = .pointer (some ⟨g, 0, none⟩) | 7 => v = .int .i64 (tot L) | 8 => v = .int .i64 (m.room - tot L) | 9 => v = .bool false | _ => True) (show Holds w0 _ _ from HH1.out.drew) ?_ ?_ ?_
      · intro i v w1 w2 hS h
        match i, h with
        | 0, h => exact h
        | 1, h => exact h
        | 2, h => exact h
        | 3, h => exact h
        | 4, h => exact h
        | 5, h => exact h
        | 6, h => exact h
        | 7, h => exact h
        | 8, h => exact h
        | 9, h => exact h
        | _ + 10, h => exact trivial
      · intro i o hi ho Ls f w1 hI hL hd
        match i, hi with
        | 0, _ =>
          obtain rfl := Option.some.inj ho
          have c0 : w1.cell? ⟨g, 0, none⟩ = some (.int .i64 m.room) := Holds.cell hI 0
          clear hd ho
          unfold wpOp
          refine Or.inl ?_
          simp only [fill, List.take_succ_cons, List.take_zero, Act.put, List.setIfInBounds_toArray, List.set_cons_zero, List.set_cons_succ]
          unfold Oper.wp
          go_simp
          exact LeftBy.mk _ rfl (hI) (trivial) (rfl)
        | 1, _ =>
          obtain rfl := Option.some.inj ho
          have e0 : f 0 = .slice A d.length c := (hd ⟨0, .data⟩ (by simp) rfl).2
          have c0 : w1.cell? ⟨g, 0, none⟩ = some (.int .i64 m.room) := Holds.cell hI 0
          clear hd ho
          unfold wpOp
          refine Or.inl ?_
          simp only [fill, List.take_succ_cons, List.take_zero, Act.put, List.setIfInBounds_toArray, List.set_cons_zero, List.set_cons_succ, e0]
          unfold Oper.wp
          go_simp
          exact LeftBy.mk _ rfl (hI) (trivial) (rfl)
        | 2, _ =>
          obtain rfl := Option.some.inj ho
          have c0 : w1.cell? ⟨g, 0, none⟩ = some (.int .i64 m.room) := Holds.cell hI 0
          clear hd ho
          unfold wpOp
          refine Or.inl ?_
          simp only [fill, List.take_succ_cons, List.take_zero, Act.put, List.setIfInBounds_toArray, List.set_cons_zero, List.set_cons_succ]
          unfold Oper.wp
          go_simp
          exact LeftBy.mk _ rfl (hI) (trivial) (rfl)
        | 3, _ =>
          obtain rfl := Option.some.inj ho
          have e2 : f 2 = .pointer (some ⟨g, 0, none⟩) := (hd ⟨2, .data⟩ (by simp) rfl).2
          have c0 : w1.cell? ⟨g, 0, none⟩ = some (.int .i64 m.room) := Holds.cell hI 0
          clear hd ho
          unfold wpOp
          refine Or.inl ?_
          simp only [fill, List.take_succ_cons, List.take_zero, Act.put, List.setIfInBounds_toArray, List.set_cons_zero, List.set_cons_succ, e2]
          unfold Oper.wp
          go_simp
          exact LeftBy.mk _ rfl (hI) (trivial) (rfl)
        | 4, _ =>
          obtain rfl := Option.some.inj ho
          have e3 : f 3 = .pointer (some ⟨g, 0, none⟩) := (hd ⟨3, .data⟩ (by simp) rfl).2
          have c0 : w1.cell? ⟨g, 0, none⟩ = some (.int .i64 m.room) := Holds.cell hI 0
          clear hd ho
          unfold wpOp
          refine Or.inl ?_
          simp only [fill, List.take_succ_cons, List.take_zero, Act.put, List.setIfInBounds_toArray, List.set_cons_zero, List.set_cons_succ, e3]
          unfold Oper.wp
          go_simp
          exact LeftBy.mk _ rfl (hI) (trivial) (rfl)
        | 5, _ =>
          obtain rfl := Option.some.inj ho
          have e4 : f 4 = .pointer (some ⟨g, 0, none⟩) := (hd ⟨4, .data⟩ (by simp) rfl).2
          have c0 : w1.cell? ⟨g, 0, none⟩ = some (.int .i64 m.room) := Holds.cell hI 0
          clear hd ho
          unfold wpOp
          refine Or.inl ?_
          simp only [fill, List.take_succ_cons, List.take_zero, Act.put, List.setIfInBounds_toArray, List.set_cons_zero, List.set_cons_succ, e4]
          unfold Oper.wp
          go_simp
          exact LeftBy.mk _ rfl (hI) (trivial) (rfl)
        | 6, _ =>
          obtain rfl := Option.some.inj ho
          have c0 : w1.cell? ⟨g, 0, none⟩ = some (.int .i64 m.room) := Holds.cell hI 0
          clear hd ho
          unfold wpOp
          refine Or.inl ?_
          simp only [fill, List.take_succ_cons, List.take_zero, Act.put, List.setIfInBounds_toArray, List.set_cons_zero, List.set_cons_succ]
          unfold Oper.wp
          go_simp
          exact LeftBy.mk _ rfl (hI) (trivial) (rfl)
        | 7, _ =>
          obtain rfl := Option.some.inj ho
          have e6 : f 6 = .pointer (some ⟨g, 0, none⟩) := (hd ⟨6, .data⟩ (by simp) rfl).2
          have c0 : w1.cell? ⟨g, 0, none⟩ = some (.int .i64 m.room) := Holds.cell hI 0
          clear hd ho
          unfold wpOp
          refine Or.inl ?_
          simp only [fill, List.take_succ_cons, List.take_zero, Act.put, List.setIfInBounds_toArray, List.set_cons_zero, List.set_cons_succ, e6]
          unfold Oper.wp
          go_simp
          refine (total_calls g m.room m.lives true mb o L hf F w0 w1 HM.out HF.out HA.out HT.out hI).mono ?_
          rintro e w3 ⟨rfl, hH3⟩
          exact LeftBy.mk _ rfl hH3 trivial rfl
        | 8, _ =>
          obtain rfl := Option.some.inj ho
          have e5 : f 5 = .int .i64 m.room := (hd ⟨5, .data⟩ (by simp) rfl).2
          have e7 : f 7 = .int .i64 (tot L) := (hd ⟨7, .data⟩ (by simp) rfl).2
          have c0 : w1.cell? ⟨g, 0, none⟩ = some (.int .i64 m.room) := Holds.cell hI 0
          clear hd ho
          unfold wpOp
          refine Or.inl ?_
          simp only [fill, List.take_succ_cons, List.take_zero, Act.put, List.setIfInBounds_toArray, List.set_cons_zero, List.set_cons_succ, e5, e7]
          unfold Oper.wp
          go_simp
          exact LeftBy.mk _ rfl (hI) (trivial) ((by first | rfl | (show Value.int .i64 (IntKind.i64.wrap (m.room - ↑(tot L))) = _; rw [hwr.out])))
        | 9, _ =>
          obtain rfl := Option.some.inj ho
          have e1 : f 1 = .int .i64 d.length := (hd ⟨1, .data⟩ (by simp) rfl).2
          have e8 : f 8 = .int .i64 (m.room - tot L) := (hd ⟨8, .data⟩ (by simp) rfl).2
          have c0 : w1.cell? ⟨g, 0, none⟩ = some (.int .i64 m.room) := Holds.cell hI 0
          clear hd ho
          unfold wpOp
          refine Or.inl ?_
          simp only [fill, List.take_succ_cons, List.take_zero, Act.put, List.setIfInBounds_toArray, List.set_cons_zero, List.set_cons_succ, e1, e8]
          unfold Oper.wp
          go_simp
          exact LeftBy.mk _ rfl (hI) (trivial) (rfl)
      · intro Ls f w1 hI hL hV
        have e0 : f 0 = .slice A d.length c := hV 0 (by decide) (by simp)
        have e1 : f 1 = .int .i64 d.length := hV 1 (by decide) (by simp)
        have e2 : f 2 = .pointer (some ⟨g, 0, none⟩) := hV 2 (by decide) (by simp)
        have e3 : f 3 = .pointer (some ⟨g, 0, none⟩) := hV 3 (by decide) (by simp)
        have e4 : f 4 = .pointer (some ⟨g, 0, none⟩) := hV 4 (by decide) (by simp)
        have e5 : f 5 = .int .i64 m.room := hV 5 (by decide) (by simp)
        have e6 : f 6 = .pointer (some ⟨g, 0, none⟩) := hV 6 (by decide) (by simp)
        have e7 : f 7 = .int .i64 (tot L) := hV 7 (by decide) (by simp)
        have e8 : f 8 = .int .i64 (m.room - tot L) := hV 8 (by decide) (by simp)
        have e9 : f 9 = .bool false := hV 9 (by decide) (by simp)
        clear hV hL
        simp only [fill, List.take_succ_cons, List.take_zero, List.drop_succ_cons, List.drop_zero, Act.put, List.setIfInBounds_toArray, List.set_cons_zero, List.set_cons_succ, e0, e1, e2, e3, e4, e5, e6, e7, e8, e9]
        have H1 : Holds w0 ((g, dskO m.room m.lives true mb) :: (mb, o) :: hf ++ F) w1 := hI
        have c3 : w1.cell? ⟨g, 3, none⟩ = some (.map (some mb)) := H1.cell 3
        have hlk := look (L := L) s (by have hmx : maxLen = 9223372036854775807 := rfl; omega) H1.tail.get HM.out
        rw [HFD.out] at hlk
        simp only [Option.map_some, ptrOf] at hlk
        obtain ⟨L1, L2, hL, hxs, _⟩ := find_split HFD.out
        have hF2 := HF.out
        rw [hL] at hF2
        obtain ⟨f1, fx, f2, k1, ⟨v, hrw, hrow, rfl⟩, k2, hfeq⟩ := FilesR.mid.mp hF2
        have H2 : Holds w0 (hrw ++ ((x.2.1, flO v x.2.2) :: ((g, dskO m.room m.lives true mb) :: (mb, o) :: (f1 ++ (f2 ++ F))))) w1 := H1.perm (by rw [hfeq]; exact (by classical rw [List.perm_iff_count]; intro a; simp only [List.count_append, List.count_cons, List.count_nil]; omega))
        have d0 : w1.cell? ⟨x.2.1, 0, none⟩ = some v := Holds.cell (cs := flC v x.2.2) H2.right 0
        have hlen : x.2.2.b.length + d.length ≤ 140737488355328 := by
          have := tot_mid L1 L2 x
          rw [← hL] at this
          have := HT.out
          omega
        obtain ⟨v', h', w3, r1, r2, r3⟩ := bytes_append hrow H2 28 A c d hc (HR.out w1 (Holds.right (h := (g, dskO m.room m.lives true mb) :: (mb, o) :: hf) (by simpa using H1))) hlen
        have e0 : w3.cell? ⟨x.2.1, 0, none⟩ = some v := Holds.cell (cs := flC v x.2.2) r3.right 0
        have f0 : w3.frozen? ⟨x.2.1, 0, none⟩ = false := Holds.froz (cs := flC v x.2.2) r3.right 0
        rw [List.length_append] at r2
        obtain ⟨A2, c2, hv2, _⟩ := RowB.form r2
        subst hv2
        have R1 := Lib.hid r1; have R2 := Lib.hid r2; have R3 := Lib.hid r3; have HL := Lib.hid hL; have HXS := Lib.hid hxs; have K1 := Lib.hid k1; have K2 := Lib.hid k2
        clear H1 hI H2 r1 r2 r3 hL hxs hF2 hfeq hrow k1 k2
        go_wp2_with ((with_reducible refine apL (.tmp 46) (.tmp 47) ?_ ?_ R1.out ?_); rfl; rfl)
        go_ret
        have hfl2 := HFL.out
        rw [HL.out] at hfl2
        have hA2 := HA.out
        rw [HL.out] at hA2
        have hM2 := HM.out
        rw [HL.out] at hM2
        refine ⟨rfl, _, ⟨mb, o, L1 ++ (x.1, x.2.1, { x.2.2 with b := x.2.2.b ++ d }) :: L2, f1 ++ (((x.2.1, flO (.slice A2 (x.2.2.b.length + d.length) c2) x.2.2) :: h') ++ f2), ?_, ?_, ?_, rfl, ?_⟩, ?_⟩
        · have e : Es (L1 ++ (x.1, x.2.1, { x.2.2 with b := x.2.2.b ++ d }) :: L2) = Es (L1 ++ x :: L2) := by simp [Es]
          rw [e]
          exact hM2
        · show setM s _ m.fl = _
          rw [hfl2, ← HXS.out]
          exact set_abs hA2
        · exact FilesR.mid.mpr ⟨f1, _, f2, K1.out, ⟨_, h', by rw [List.length_append]; exact R2.out, rfl⟩, K2.out, rfl⟩
        · have := ok_mid (f := { x.2.2 with b := x.2.2.b ++ d }) HOK.out hfl2 (by have := HOK.out.safe (x.1, x.2.2) (by rw [hfl2]; simp [absL]); simp only [List.length_append]; simp only at this; omega) (by have := HTM.out; have := HFU.out; simp only [List.length_append]; omega)
          rw [← set_abs hA2, HXS.out, ← hfl2] at this
          exact this
        · have H6 : Holds w0 (h' ++ (x.2.1, flO (.slice A2 (x.2.2.b.length + d.length) c2) x.2.2) :: ((g, dskO m.room m.lives true mb) :: (mb, o) :: (f1 ++ (f2 ++ F)))) (w3.setCell ⟨x.2.1, 0, none⟩ (.slice A2 (x.2.2.b.length + d.length) c2)) := R3.out.turn_mid (set_grown w3 _ (.slice A2 (x.2.2.b.length + d.length) c2)) (heap_set R3.out.get_mid 0 (.slice A2 (x.2.2.b.length + d.length) c2))
          rw [← hp] at H6
          refine H6.perm ?_
          exact (by classical rw [List.perm_iff_count]; intro a; simp only [List.count_append, List.count_cons, List.count_nil]; omega)
end Go.Proofs.Ytocpelkgiebkjaa
