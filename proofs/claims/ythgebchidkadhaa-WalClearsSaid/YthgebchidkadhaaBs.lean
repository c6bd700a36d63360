/- The rows that frame.Scan makes, told by blocks. Conditions: each theorem's own. -/
import Derived.Test.YthgebchidkadhaaBr
import Derived.Test.YthgebchidkadhaaQWalx5
namespace Go.Proofs.Ythgebchidkadhaa
open Go.RowKit Go.Proofs.Ythgebchidkadhaa.Sp Go.Proofs.Ythgebchidkadhaa.QWal Go.Proofs.YthgebchidkadhaaW.PrintWords
set_option linter.unusedVariables false
set_option linter.unusedSimpArgs false
theorem bi_bv (r : List UInt8) : (bi r).map (Value.int .u8) = bv r := by simp [bi, bv, Function.comp_def]
/-- Many new blocks at once. -/
theorem Sp.Holds.adds {w0 w w' : World} {F l : Hp} (H : Holds w0 F w) (hb : Below w.heap.size w w') (hx : ∀ x ∈ l, w'.heap[x.1]? = some x.2 ∧ w.heap.size ≤ x.1) (nd : (l.map Prod.fst).Nodup) : Holds w0 (l ++ F) w' := by
  have HG := H.grow hb
  refine ⟨HG.below, fun x h => ?_, ?_⟩
  · rcases List.mem_append.mp h with h | h
    · exact ⟨(hx x h).1, Nat.le_trans H.size (hx x h).2⟩
    · exact HG.at_ x h
  · rw [List.map_append, List.nodup_append]
    refine ⟨nd, H.nodup, fun a ha b hbb e => ?_⟩
    obtain ⟨x, hx1, rfl⟩ := List.mem_map.mp ha
    obtain ⟨y, hy1, rfl⟩ := List.mem_map.mp hbb
    have h1 := lt_of_block (H.mem hy1)
    have h2 := (hx x hx1).2
    omega
theorem rows_of {w' : World} {base : Nat} {f : Nat → Nat} {ob : Option Nat} : ∀ (rs : List (List UInt8)) (inner : List Value) (off : Nat), inner.length = rs.length →
    (∀ j r, rs[j]? = some r → ∃ v, inner[j]? = some v ∧ w'.ownsRow base 5 1 v r.length (bv r) ∧ ∀ k, v.ownBlock = some k → f k = off + j ∧ some k ≠ ob) →
    ∃ hs, RowsB rs inner hs ∧ (∀ x ∈ hs, w'.heap[x.1]? = some x.2 ∧ base ≤ x.1 ∧ off ≤ f x.1 ∧ some x.1 ≠ ob) ∧ (hs.map Prod.fst).Nodup
  | [], inner, off, hl, h => by
    obtain rfl := List.length_eq_zero_iff.mp hl
    exact ⟨[], ⟨rfl, rfl⟩, by simp, List.nodup_nil⟩
  | r :: rs, inner, off, hl, h => by
    cases inner with
    | nil => simp at hl
    | cons v inner =>
      obtain ⟨v', e1, hO, hk⟩ := h 0 r rfl
      obtain rfl : v = v' := by simpa using e1
      obtain ⟨h1, R1, hx1⟩ := RowB.of_owns hO
      obtain ⟨hs, RS, hx2, nd2⟩ := rows_of rs inner (off + 1) (by simpa using hl) (fun j r2 hj => by
        obtain ⟨v2, q1, q2, q3⟩ := h (j + 1) r2 (by simpa using hj)
        exact ⟨v2, by simpa using q1, q2, fun k hk => ⟨(q3 k hk).1.trans (by omega), (q3 k hk).2⟩⟩)
      refine ⟨h1 ++ hs, ⟨v, inner, h1, hs, R1, RS, rfl, rfl⟩, fun x hx => ?_, ?_⟩
      · rcases List.mem_append.mp hx with hx | hx
        · obtain ⟨a1, a2, a3, _⟩ := hx1 x hx
          have := hk _ a3
          exact ⟨a1, a2, by omega, this.2⟩
        · obtain ⟨a1, a2, a3, a4⟩ := hx2 x hx
          exact ⟨a1, a2, by omega, a4⟩
      · rw [List.map_append, List.nodup_append]
        refine ⟨?_, nd2, fun a ha b hb e => ?_⟩
        · cases h1 with
          | nil => exact List.nodup_nil
          | cons x t =>
            obtain ⟨_, _, _, a4⟩ := hx1 x List.mem_cons_self
            rw [a4]
            simp
        · obtain ⟨x, hx, rfl⟩ := List.mem_map.mp ha
          obtain ⟨y, hy, rfl⟩ := List.mem_map.mp hb
          obtain ⟨_, _, a3, _⟩ := hx1 x hx
          have b1 := hk _ a3
          have b2 := (hx2 y hy).2.2.1
          rw [← e] at b2
          omega
theorem S_rows {w0 w w' : World} {F : Hp} {ok : Nat → Prop} {v : Value} {rs : List (List UInt8)} (h : Kd.S (Kd.slice 5 (Kd.int .u8)) 31 w' w.heap.size ok v (rs.map bi)) (H : Holds w0 F w) (hb : Below w.heap.size w w') :
    ∃ vs hr hs, RowB 31 1 v rs.length vs hr ∧ RowsB rs vs hs ∧ Holds w0 (hr ++ (hs ++ F)) w' := by
  obtain ⟨f, h0, inner, ho, hrep⟩ := h
  rw [List.length_zipIdx, List.length_map] at ho
  have hin : inner.length = rs.length := by
    have := hrep.1
    rw [List.length_zipIdx, List.length_map] at this
    exact this.trans (Nat.mul_one _)
  obtain ⟨hr, R, hx⟩ := RowB.of_owns ho
  obtain ⟨hs, RS, hx2, nd2⟩ := rows_of (w' := w') (base := w.heap.size) (f := f) (ob := v.ownBlock) rs inner 0 hin (fun j r hj => by
    have hz : ((rs.map bi).zipIdx)[j]? = some (bi r, j) := Kd.zip_at (by rw [List.getElem?_map, hj]; rfl)
    obtain ⟨u, hu, hR⟩ := hrep.2 j _ hz
    have hjl : j < inner.length := by rw [hin]; exact (List.getElem?_eq_some_iff.mp hj).1
    have hiu : inner[j]? = some u := by
      have e : (inner.drop (j * 1)).take 1 = [u] := hu
      rw [Nat.mul_one, List.drop_eq_getElem_cons hjl, List.take_succ_cons, List.take_zero] at e
      rw [List.getElem?_eq_getElem hjl]
      injection e with e
      rw [e]
    have hR' : (Kd.int .u8).R 5 w' w.heap.size (fun k => (ok k ∧ some k ≠ v.ownBlock) ∧ f k = j) u (bi r) := hR
    have hO := Kd.own_of_R hR'
    rw [bi_len] at hO
    refine ⟨u, hiu, ?_, fun k hk => ?_⟩
    · rw [← bi_bv]; exact hO
    · have := hR'.1 k hk
      exact ⟨by omega, this.1.2⟩)
  refine ⟨inner, hr, hs, R, RS, ?_⟩
  have H2 : Holds w0 (hs ++ F) w' := H.adds hb (fun x hx => ⟨(hx2 x hx).1, (hx2 x hx).2.1⟩) nd2
  cases hr with
  | nil => exact H2
  | cons x t =>
    obtain ⟨a1, a2, a3, a4⟩ := hx x List.mem_cons_self
    obtain rfl : t = [] := by simpa using a4
    refine Holds.cons H2 (Nat.le_trans H.size a2) a1 (fun y hy e => ?_)
    have hy : y ∈ hs ++ F := hy
    rcases List.mem_append.mp hy with hy | hy
    · have := (hx2 y hy).2.2.2
      rw [a3, e] at this
      exact this rfl
    · have := lt_of_block (H.mem hy)
      omega
end Go.Proofs.Ythgebchidkadhaa
