/- A row of elements of the call's own, told beside all else that is its own; append. Conditions: each theorem's own. -/
import Derived.Test.YtocpelkgiebkjaaSep
import Derived.Maps.AppendAt
import Derived.Laws.OwnMore
import Derived.Deep.AppendLies
import Derived.Lib.SliceRun
namespace Go.Proofs.Ytocpelkgiebkjaa.Sp
open Go.RowKit
set_option linter.unusedVariables false
variable {P : Program} {w0 w w' : World} {h F : Hp} {e t : TypeId} {sz n : Nat} {v : Value} {xs : List Value}
def RowB (e : TypeId) (sz : Nat) (v : Value) (n : Nat) (xs : List Value) (h : Hp) : Prop :=
  xs.length = n * sz ∧ ((v = .slice none 0 0 ∧ n = 0 ∧ h = []) ∨
    ∃ g cap cur, v = .slice (some ⟨g, 0, none⟩) n cap ∧ h = [(g, .cells cur e (0, 0))] ∧ n ≤ cap ∧ cap ≤ maxLen ∧ cur.size = cap * sz ∧ cur.toList.take (n * sz) = xs)
theorem RowB.nil (e : TypeId) (sz : Nat) : RowB e sz (.slice none 0 0) 0 [] [] := ⟨by simp, .inl ⟨rfl, rfl, rfl⟩⟩
theorem RowB.owns (R : RowB e sz v n xs h) (H : Holds w0 (h ++ F) w) : w.ownsRow w0.heap.size e sz v n xs := by
  obtain ⟨h1, ⟨rfl, rfl, rfl⟩ | ⟨g, cap, cur, rfl, rfl, h2, h3, h4, h5⟩⟩ := R
  · exact ⟨h1, .inl ⟨rfl, rfl⟩⟩
  · exact ⟨h1, .inr ⟨g, cap, cur, rfl, H.ge, H.get, h2, h3, h4, h5⟩⟩
theorem Holds.cons {g : Nat} {o : Obj} (H : Holds w0 F w) (hg : w0.heap.size ≤ g) (ho : w.heap[g]? = some o) (hn : ∀ x ∈ F, x.1 ≠ g) : Holds w0 ((g, o) :: F) w := by
  refine ⟨H.below, fun x hx => ?_, ?_⟩
  · rcases List.mem_cons.mp hx with rfl | hx
    · exact ⟨ho, hg⟩
    · exact H.at_ x hx
  · rw [List.map_cons, List.nodup_cons]
    refine ⟨fun hm => ?_, H.nodup⟩
    obtain ⟨x, hx, e⟩ := List.mem_map.mp hm
    exact hn x hx e
theorem Holds.turn_drop {g : Nat} {o : Obj} (H : Holds w0 ((g, o) :: F) w) (hg : w.grownBy w' (some g)) : Holds w0 F w' :=
  ⟨H.below.grown hg H.size (by rintro k hk; injection hk with hk; have := H.ge; omega), fun x hx => by
    have h2 := H.at_ x (List.mem_cons_of_mem _ hx)
    exact ⟨(hg.block _ (lt_of_block h2.1) (by intro e; injection e with e; exact H.mem_ne hx e)).trans h2.1, h2.2⟩, H.tail.nodup⟩
theorem below_of_none (hg : w.grownBy w' none) : Below w.heap.size w w' := ⟨hg.os, hg.tape, hg.output, hg.size, fun i hi => hg.block i hi (by simp)⟩
/-- What owns a row, told by blocks. -/
theorem RowB.of_owns {base : Nat} (R : w.ownsRow base e sz v n xs) : ∃ h, RowB e sz v n xs h ∧ ∀ x ∈ h, w.heap[x.1]? = some x.2 ∧ base ≤ x.1 ∧ v.ownBlock = some x.1 ∧ h = [x] := by
  obtain ⟨h1, ⟨rfl, rfl⟩ | ⟨g, cap, cur, rfl, hb, hg, h2, h3, h4, h5⟩⟩ := R
  · exact ⟨[], ⟨h1, .inl ⟨rfl, rfl, rfl⟩⟩, by simp⟩
  · refine ⟨[(g, .cells cur e (0, 0))], ⟨h1, .inr ⟨g, cap, cur, rfl, rfl, h2, h3, h4, h5⟩⟩, fun x hx => ?_⟩
    obtain rfl := List.mem_singleton.mp hx
    exact ⟨hg, hb, rfl, rfl⟩
/-- A new row in place of an old one, or beside all. -/
theorem RowB.laid {v' : Value} {n' : Nat} {xs' : List Value} (R : RowB e sz v n xs h) (H : Holds w0 (h ++ F) w) (R' : w'.ownsRow w0.heap.size e sz v' n' xs') (hg : w.grownBy w' v.ownBlock)
    (hw : v'.ownBlock = v.ownBlock ∨ v'.ownBlock = some w.heap.size) : ∃ h', RowB e sz v' n' xs' h' ∧ Holds w0 (h' ++ F) w' := by
  have HF : Holds w0 F w' := by
    obtain ⟨h1, ⟨rfl, rfl, rfl⟩ | ⟨g, cap, cur, rfl, rfl, _⟩⟩ := R
    · exact H.grow (below_of_none hg)
    · exact H.turn_drop hg
  obtain ⟨h', r1, r2⟩ := RowB.of_owns R'
  refine ⟨h', r1, ?_⟩
  cases h' with
  | nil => exact HF
  | cons x l =>
    obtain ⟨a1, a2, a3, a4⟩ := r2 x List.mem_cons_self
    obtain rfl : l = [] := by simpa using a4
    refine HF.cons a2 a1 (fun y hy e => ?_)
    have hlt := lt_of_block (H.mem (x := y) (by simp [hy]))
    rcases hw with hw | hw
    · rw [hw] at a3
      obtain ⟨h1, ⟨rfl, rfl, rfl⟩ | ⟨g, cap, cur, rfl, rfl, _⟩⟩ := R
      · simp [Value.ownBlock] at a3
      · have e2 : g = x.1 := by simpa [Value.ownBlock] using a3
        exact H.mem_ne hy (e.trans e2.symm)
    · rw [hw] at a3
      injection a3 with a3
      omega
/-- Elements that are read: nil, or cells from an address on. -/
def Reads (w : World) (A : Option Addr) (n : Nat) (sz : Nat) (news : List Value) : Prop := news.length = n * sz ∧ (A = none → n = 0) ∧ ∀ ad, A = some ad → ∀ j u, news[j]? = some u → w.cell? (ad.add j) = some u
theorem row_append (R : RowB e sz v n xs h) (H : Holds w0 (h ++ F) w) (ty : TypeId) (i : TypeInfo) (z : Value) (bytes : Nat) (ht : P.underlying t = some (.slice e)) (hi : P.info? e = some i) (hz : i.zero = some z)
    (hsize : i.size = sz) (hby : i.bytes = bytes) (hzs : z.cells.size = sz) (hsz : 0 < sz) (A : Option Addr) (m c : Nat) (hc : A = none → c = 0) (news : List Value) (hr : Reads w A m sz news) (h1 : ∀ u ∈ news, u.oneCell' = true)
    (h63 : n + m ≤ maxLen) (hbytes : (n + m) * bytes ≤ 140737488355328) :
    ∃ v' h' w', (Builtin.append_ #[t, t] ty #[v, .slice A m c]).run P w = .ok v' w' ∧ RowB e sz v' (n + m) (xs ++ news) h' ∧ Holds w0 (h' ++ F) w' := by
  have ho := R.owns H
  cases A with
  | none =>
    obtain rfl := hr.2.1 rfl
    obtain rfl := hc rfl
    have e0 : news = [] := List.eq_nil_of_length_eq_zero (by simpa using hr.1)
    subst e0
    exact ⟨v, h, w, run_append_owned_none w w0.heap.size t ty e i sz ht hi v n xs ho, by simpa using R, H⟩
  | some ad =>
    obtain ⟨v', w', hrun, ho', hg, _, hw⟩ := run_append_own_at w w0.heap.size t ty e i z sz bytes ht hi hz hsize hby hzs hsz v n xs ho ad m c news hr.1 (hr.2.2 ad rfl) h1 h63 hbytes H.size
    obtain ⟨h', r1, r2⟩ := R.laid H ho' hg hw
    exact ⟨v', h', w', hrun, r1, r2⟩
theorem RowB.lit (H : Holds w0 F w) (cs : Array Value) (n : Nat) (hm : n ≤ maxLen) (hs : cs.size = n * sz) : RowB e sz (.slice (some ⟨w.heap.size, 0, none⟩) n n) n cs.toList [(w.heap.size, .cells cs e)] :=
  ⟨by simpa using hs, .inr ⟨w.heap.size, n, cs, rfl, rfl, Nat.le_refl _, hm, hs, List.take_of_length_le (by rw [Array.length_toList, hs]; exact Nat.le_refl _)⟩⟩
/-- The row read. -/
theorem RowB.reads (R : RowB e sz v n xs h) (H : Holds w0 (h ++ F) w) : ∃ A c, v = .slice A n c ∧ n ≤ c ∧ (A = none → c = 0) ∧ Reads w A n sz xs := by
  have ho := R.owns H
  obtain ⟨h1, ⟨rfl, rfl, rfl⟩ | ⟨g, cap, cur, rfl, rfl, h2, h3, h4, h5⟩⟩ := R
  · exact ⟨none, 0, rfl, Nat.le_refl _, fun _ => rfl, h1, fun _ => rfl, fun ad h => by cases h⟩
  · refine ⟨_, _, rfl, h2, (fun h => by cases h), h1, (fun h => by cases h), fun ad had j u hj => ?_⟩
    injection had with had
    subst had
    have hlt : j < n * sz := by rw [← h1]; exact (List.getElem?_eq_some_iff.mp hj).1
    have := ho.cellAt j hlt
    have e2 : (⟨g, 0, none⟩ : Addr).add j = ⟨g, j, none⟩ := by simp [Addr.add]; omega
    rw [e2, this, hj]
theorem Reads.take {A : Option Addr} {k : Nat} (R : Reads w A n sz xs) (hk : k ≤ n) : Reads w A k sz (xs.take (k * sz)) := by
  refine ⟨by rw [List.length_take, R.1, Nat.min_eq_left (Nat.mul_le_mul_right _ hk)], fun h => by have := R.2.1 h; omega, fun ad had j u hj => R.2.2 ad had j u ?_⟩
  rw [List.getElem?_take] at hj
  split at hj
  · exact hj
  · cases hj
theorem Reads.below {A : Option Addr} (R : Reads w A n sz xs) (hb : Below w.heap.size w w') : Reads w' A n sz xs :=
  ⟨R.1, R.2.1, fun ad had j u hj => (hb.cell (World.block_lt_of_cell? w _ (R.2.2 ad had j u hj))).trans (R.2.2 ad had j u hj)⟩
/-- append, at the operation, where its run is told. -/
theorem apL {ops : Array Oper} {rest : List Oper} {dst : Option Tmp} {ty : TypeId} {pos : String} {af : Array Edge} {a : Act} {w w' : World} {Q : Exit → Act → World → Prop} (s x : Operand) {t u : TypeId} {v v1 v' : Value}
    (hs : a.eval s = v) (hx : a.eval x = v1) (hrun : (Builtin.append_ #[t, u] ty #[v, v1]).run P w = .ok v' w')
    (hh : wpList P ops Q rest (a.put dst v') w') : wpList P ops Q ({ dst := dst, op := .call { callee := .builtin .append, args := #[s, x], argTypes := #[t, u] }, type := ty, pos := pos, after := af, guard := none } :: rest) a w := by
  refine wpList_plain rfl fun K' hK' => ?_
  unfold Oper.wp execOp
  simp only [resolve, invoke, builtin, Sem.run_bind, Sem.run_pure, Result.andThen_ok, List.map_toArray, List.map_cons, List.map_nil, hs, hx, hrun]
  exact hK' _ _ hh
end Go.Proofs.Ytocpelkgiebkjaa.Sp
