/- Between the print's words for rows of bytes and blocks: frame.Put for every world. Conditions: each theorem's own. -/
import Derived.Test.YthgebchidkadhaaLg
import Derived.Test.YthgebchidkadhaaQWalx6
import Derived.Test.YthgebchidkadhaaQWalx5
namespace Go.Proofs.Ythgebchidkadhaa
open Go.RowKit Go.Proofs.Ythgebchidkadhaa.Sp Go.Proofs.Ythgebchidkadhaa.QWal Go.Proofs.YthgebchidkadhaaW.PrintWords
set_option linter.unusedVariables false
set_option linter.unusedSimpArgs false
def bi (bs : List UInt8) : List Int := bs.map fun x => (x.toNat : Int)
theorem bi_len (bs : List UInt8) : (bi bs).length = bs.length := by simp [bi]
theorem reads_C {w : World} {A : Option Addr} {bs : List UInt8} (hr : Reads w A bs.length 1 (bv bs)) (hb : bs.length ≤ 9223372036854775807) : Kd.C (Kd.int .u8) w A (bi bs).length (bi bs) := by
  refine ⟨rfl, by rw [bi_len]; exact hb, fun h0 => ?_⟩
  rw [bi_len] at h0
  cases A with
  | none => have := hr.2.1 rfl; omega
  | some ad =>
    refine ⟨ad, rfl, fun j p hp => ⟨[.int .u8 p], rfl, rfl, fun i u hu => ?_⟩⟩
    have hi : i = 0 := by
      rcases i with _ | i
      · rfl
      · simp at hu
    subst hi
    obtain rfl := Option.some.inj hu
    have hj : (bv bs)[j]? = some (.int .u8 p) := by
      unfold bi at hp
      unfold bv
      rw [List.getElem?_map] at hp ⊢
      cases hx : bs[j]? with
      | none => rw [hx] at hp; simp at hp
      | some x =>
        rw [hx] at hp
        have : ((x.toNat : Nat) : Int) = p := by simpa using hp
        subst this
        rfl
    have := hr.2.2 ad rfl j _ hj
    show w.cell? (ad.add (j * 1 + 0)) = _
    rw [Nat.mul_one, Nat.add_zero]
    exact this
/-- What the print says is the call's own is a row in blocks. -/
theorem R_row {w0 w w' : World} {F : Hp} {ok : Nat → Prop} {v : Value} {r : List Int} (h : Kd.R (Kd.int .u8) 5 w' w.heap.size ok v r) (H : Holds w0 F w) (hb : Below w.heap.size w w') :
    ∃ hv, RowB 5 1 v r.length (r.map (Value.int .u8)) hv ∧ Holds w0 (hv ++ F) w' := by
  obtain ⟨hv, R, hx⟩ := RowB.of_owns (Kd.own_of_R h)
  refine ⟨hv, R, ?_⟩
  cases hv with
  | nil => exact H.grow hb
  | cons x t =>
    obtain ⟨x1, x2, _, x4⟩ := hx x List.mem_cons_self
    rw [x4]
    exact H.add hb x2 x1
/-- frame.Put, for bytes that are read. -/
theorem put_calls (k : Nat) (A0 A1 : Option Addr) (c0 c1 : Nat) (b r : List UInt8) (out : List Int) (e0 : Int) (w0 w : World) (F : Hp) (h0 : Reads w A0 b.length 1 (bv b)) (h1 : Reads w A1 r.length 1 (bv r)) (hc0 : b.length ≤ c0) (hc1 : r.length ≤ c1) (hm0 : b.length ≤ 9223372036854775807) (hm1 : r.length ≤ 9223372036854775807)
    (h : frame_Put.f k (bi b) (bi r) = some (out, e0)) (H : Holds w0 F w) :
    Calls Try.prog 38 #[.slice A0 b.length c0, .slice A1 r.length c1] w fun e w' => ∃ v, e = .returned (.tuple #[v, .int .i64 e0]) ∧ ∃ hv, RowB 5 1 v out.length (out.map (Value.int .u8)) hv ∧ Holds w0 (hv ++ F) w' := by
  have := frame_Put.calls k A0 c0 (bi b) A1 c1 (bi r) out e0 w (reads_C h0 hm0) (by rw [bi_len]; exact hc0) (reads_C h1 hm1) (by rw [bi_len]; exact hc1) h
  rw [bi_len, bi_len] at this
  refine this.mono ?_
  rintro e w' ⟨v, rfl, hR, hb⟩
  obtain ⟨hv, R, HH⟩ := R_row hR H hb
  exact ⟨v, rfl, hv, R, HH⟩
end Go.Proofs.Ythgebchidkadhaa

/- The rows that frame.Scan makes, told by blocks. Conditions: each theorem's own. -/
namespace Go.Proofs.Ythgebchidkadhaa
open Go.RowKit Go.Proofs.Ythgebchidkadhaa.Sp Go.Proofs.Ythgebchidkadhaa.QWal Go.Proofs.YthgebchidkadhaaW.PrintWords
set_option linter.unusedVariables false
set_option linter.unusedSimpArgs false
theorem bi_bv (r : List UInt8) : (bi r).map (Value.int .u8) = bv r := by simp [bi, bv, Function.comp_def]
/-- Many new blocks at once. -/
theorem Sp.Holds.adds {w0 w w' : World} {F l : Hp} (H : Holds w0 F w) (hb : Below w.heap.size w w') (hx : ∀ x ∈ l, w'.heap[x.1]? = some x.2 ∧ w.heap.size ≤ x.1) (nd : (l.map Prod.fst).Nodup) : Holds w0 (l ++ F) w' := by
  have HG := H.grow hb
  refine ⟨HG.below, fun x h => ?_, ?_⟩
  · rcases List.mem_append.mp h with h | h
    · exact ⟨(hx x h).1, Nat.le_trans H.size (hx x h).2⟩
    · exact HG.at_ x h
  · rw [List.map_append, List.nodup_append]
    refine ⟨nd, H.nodup, fun a ha b hbb e => ?_⟩
    obtain ⟨x, hx1, rfl⟩ := List.mem_map.mp ha
    obtain ⟨y, hy1, rfl⟩ := List.mem_map.mp hbb
    have h1 := lt_of_block (H.mem hy1)
    have h2 := (hx x hx1).2
    omega
theorem rows_of {w' : World} {base : Nat} {f : Nat → Nat} {ob : Option Nat} : ∀ (rs : List (List UInt8)) (inner : List Value) (off : Nat), inner.length = rs.length →
    (∀ j r, rs[j]? = some r → ∃ v, inner[j]? = some v ∧ w'.ownsRow base 5 1 v r.length (bv r) ∧ ∀ k, v.ownBlock = some k → f k = off + j ∧ some k ≠ ob) →
    ∃ hs, RowsB rs inner hs ∧ (∀ x ∈ hs, w'.heap[x.1]? = some x.2 ∧ base ≤ x.1 ∧ off ≤ f x.1 ∧ some x.1 ≠ ob) ∧ (hs.map Prod.fst).Nodup
  | [], inner, off, hl, h => by
    obtain rfl := List.length_eq_zero_iff.mp hl
    exact ⟨[], ⟨rfl, rfl⟩, by simp, List.nodup_nil⟩
  | r :: rs, inner, off, hl, h => by
    cases inner with
    | nil => simp at hl
    | cons v inner =>
      obtain ⟨v', e1, hO, hk⟩ := h 0 r rfl
      obtain rfl : v = v' := by simpa using e1
      obtain ⟨h1, R1, hx1⟩ := RowB.of_owns hO
      obtain ⟨hs, RS, hx2, nd2⟩ := rows_of rs inner (off + 1) (by simpa using hl) (fun j r2 hj => by
        obtain ⟨v2, q1, q2, q3⟩ := h (j + 1) r2 (by simpa using hj)
        exact ⟨v2, by simpa using q1, q2, fun k hk => ⟨(q3 k hk).1.trans (by omega), (q3 k hk).2⟩⟩)
      refine ⟨h1 ++ hs, ⟨v, inner, h1, hs, R1, RS, rfl, rfl⟩, fun x hx => ?_, ?_⟩
      · rcases List.mem_append.mp hx with hx | hx
        · obtain ⟨a1, a2, a3, _⟩ := hx1 x hx
          have := hk _ a3
          exact ⟨a1, a2, by omega, this.2⟩
        · obtain ⟨a1, a2, a3, a4⟩ := hx2 x hx
          exact ⟨a1, a2, by omega, a4⟩
      · rw [List.map_append, List.nodup_append]
        refine ⟨?_, nd2, fun a ha b hb e => ?_⟩
        · cases h1 with
          | nil => exact List.nodup_nil
          | cons x t =>
            obtain ⟨_, _, _, a4⟩ := hx1 x List.mem_cons_self
            rw [a4]
            simp
        · obtain ⟨x, hx, rfl⟩ := List.mem_map.mp ha
          obtain ⟨y, hy, rfl⟩ := List.mem_map.mp hb
          obtain ⟨_, _, a3, _⟩ := hx1 x hx
          have b1 := hk _ a3
          have b2 := (hx2 y hy).2.2.1
          rw [← e] at b2
          omega
theorem S_rows {w0 w w' : World} {F : Hp} {ok : Nat → Prop} {v : Value} {rs : List (List UInt8)} (h : Kd.S (Kd.slice 5 (Kd.int .u8)) 31 w' w.heap.size ok v (rs.map bi)) (H : Holds w0 F w) (hb : Below w.heap.size w w') :
    ∃ vs hr hs, RowB 31 1 v rs.length vs hr ∧ RowsB rs vs hs ∧ Holds w0 (hr ++ (hs ++ F)) w' := by
  obtain ⟨f, h0, inner, ho, hrep⟩ := h
  rw [List.length_zipIdx, List.length_map] at ho
  have hin : inner.length = rs.length := by
    have := hrep.1
    rw [List.length_zipIdx, List.length_map] at this
    exact this.trans (Nat.mul_one _)
  obtain ⟨hr, R, hx⟩ := RowB.of_owns ho
  obtain ⟨hs, RS, hx2, nd2⟩ := rows_of (w' := w') (base := w.heap.size) (f := f) (ob := v.ownBlock) rs inner 0 hin (fun j r hj => by
    have hz : ((rs.map bi).zipIdx)[j]? = some (bi r, j) := Kd.zip_at (by rw [List.getElem?_map, hj]; rfl)
    obtain ⟨u, hu, hR⟩ := hrep.2 j _ hz
    have hjl : j < inner.length := by rw [hin]; exact (List.getElem?_eq_some_iff.mp hj).1
    have hiu : inner[j]? = some u := by
      have e : (inner.drop (j * 1)).take 1 = [u] := hu
      rw [Nat.mul_one, List.drop_eq_getElem_cons hjl, List.take_succ_cons, List.take_zero] at e
      rw [List.getElem?_eq_getElem hjl]
      injection e with e
      rw [e]
    have hR' : (Kd.int .u8).R 5 w' w.heap.size (fun k => (ok k ∧ some k ≠ v.ownBlock) ∧ f k = j) u (bi r) := hR
    have hO := Kd.own_of_R hR'
    rw [bi_len] at hO
    refine ⟨u, hiu, ?_, fun k hk => ?_⟩
    · rw [← bi_bv]; exact hO
    · have := hR'.1 k hk
      exact ⟨by omega, this.1.2⟩)
  refine ⟨inner, hr, hs, R, RS, ?_⟩
  have H2 : Holds w0 (hs ++ F) w' := H.adds hb (fun x hx => ⟨(hx2 x hx).1, (hx2 x hx).2.1⟩) nd2
  cases hr with
  | nil => exact H2
  | cons x t =>
    obtain ⟨a1, a2, a3, a4⟩ := hx x List.mem_cons_self
    obtain rfl : t = [] := by simpa using a4
    refine Holds.cons H2 (Nat.le_trans H.size a2) a1 (fun y hy e => ?_)
    have hy : y ∈ hs ++ F := hy
    rcases List.mem_append.mp hy with hy | hy
    · have := (hx2 y hy).2.2.2
      rw [a3, e] at this
      exact this rfl
    · have := lt_of_block (H.mem hy)
      omega
end Go.Proofs.Ythgebchidkadhaa
