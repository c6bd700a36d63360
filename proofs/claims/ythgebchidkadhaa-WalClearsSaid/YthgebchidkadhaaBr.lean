/- Between the print's words for rows of bytes and blocks: frame.Put for every world. Conditions: each theorem's own. -/
import Derived.Test.YthgebchidkadhaaLg
import Derived.Test.YthgebchidkadhaaQWalx6
namespace Go.Proofs.Ythgebchidkadhaa
open Go.RowKit Go.Proofs.Ythgebchidkadhaa.Sp Go.Proofs.Ythgebchidkadhaa.QWal Go.Proofs.YthgebchidkadhaaW.PrintWords
set_option linter.unusedVariables false
set_option linter.unusedSimpArgs false
def bi (bs : List UInt8) : List Int := bs.map fun x => (x.toNat : Int)
theorem bi_len (bs : List UInt8) : (bi bs).length = bs.length := by simp [bi]
theorem reads_C {w : World} {A : Option Addr} {bs : List UInt8} (hr : Reads w A bs.length 1 (bv bs)) (hb : bs.length ≤ 9223372036854775807) : Kd.C (Kd.int .u8) w A (bi bs).length (bi bs) := by
  refine ⟨rfl, by rw [bi_len]; exact hb, fun h0 => ?_⟩
  rw [bi_len] at h0
  cases A with
  | none => have := hr.2.1 rfl; omega
  | some ad =>
    refine ⟨ad, rfl, fun j p hp => ⟨[.int .u8 p], rfl, rfl, fun i u hu => ?_⟩⟩
    have hi : i = 0 := by
      rcases i with _ | i
      · rfl
      · simp at hu
    subst hi
    obtain rfl := Option.some.inj hu
    have hj : (bv bs)[j]? = some (.int .u8 p) := by
      unfold bi at hp
      unfold bv
      rw [List.getElem?_map] at hp ⊢
      cases hx : bs[j]? with
      | none => rw [hx] at hp; simp at hp
      | some x =>
        rw [hx] at hp
        have : ((x.toNat : Nat) : Int) = p := by simpa using hp
        subst this
        rfl
    have := hr.2.2 ad rfl j _ hj
    show w.cell? (ad.add (j * 1 + 0)) = _
    rw [Nat.mul_one, Nat.add_zero]
    exact this
/-- What the print says is the call's own is a row in blocks. -/
theorem R_row {w0 w w' : World} {F : Hp} {ok : Nat → Prop} {v : Value} {r : List Int} (h : Kd.R (Kd.int .u8) 5 w' w.heap.size ok v r) (H : Holds w0 F w) (hb : Below w.heap.size w w') :
    ∃ hv, RowB 5 1 v r.length (r.map (Value.int .u8)) hv ∧ Holds w0 (hv ++ F) w' := by
  obtain ⟨hv, R, hx⟩ := RowB.of_owns (Kd.own_of_R h)
  refine ⟨hv, R, ?_⟩
  cases hv with
  | nil => exact H.grow hb
  | cons x t =>
    obtain ⟨x1, x2, _, x4⟩ := hx x List.mem_cons_self
    rw [x4]
    exact H.add hb x2 x1
/-- frame.Put, for bytes that are read. -/
theorem put_calls (k : Nat) (A0 A1 : Option Addr) (c0 c1 : Nat) (b r : List UInt8) (out : List Int) (e0 : Int) (w0 w : World) (F : Hp) (h0 : Reads w A0 b.length 1 (bv b)) (h1 : Reads w A1 r.length 1 (bv r)) (hc0 : b.length ≤ c0) (hc1 : r.length ≤ c1) (hm0 : b.length ≤ 9223372036854775807) (hm1 : r.length ≤ 9223372036854775807)
    (h : frame_Put.f k (bi b) (bi r) = some (out, e0)) (H : Holds w0 F w) :
    Calls Try.prog 38 #[.slice A0 b.length c0, .slice A1 r.length c1] w fun e w' => ∃ v, e = .returned (.tuple #[v, .int .i64 e0]) ∧ ∃ hv, RowB 5 1 v out.length (out.map (Value.int .u8)) hv ∧ Holds w0 (hv ++ F) w' := by
  have := frame_Put.calls k A0 c0 (bi b) A1 c1 (bi r) out e0 w (reads_C h0 hm0) (by rw [bi_len]; exact hc0) (reads_C h1 hm1) (by rw [bi_len]; exact hc1) h
  rw [bi_len, bi_len] at this
  refine this.mono ?_
  rintro e w' ⟨v, rfl, hR, hb⟩
  obtain ⟨hv, R, HH⟩ := R_row hR H hb
  exact ⟨v, rfl, hv, R, HH⟩
end Go.Proofs.Ythgebchidkadhaa
