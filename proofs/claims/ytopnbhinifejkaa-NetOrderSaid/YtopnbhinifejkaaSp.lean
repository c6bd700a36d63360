/- A net's Spoil: a contract for every world. Conditions: each theorem's own. -/
import Derived.Test.YtopnbhinifejkaaCp
namespace Go.Proofs.Ytopnbhinifejkaa
open Go.RowKit Go.Proofs.Ytopnbhinifejkaa.Sp
set_option linter.unusedVariables false
set_option linter.unusedSimpArgs false
theorem RowB.putn {e : TypeId} {sz n : Nat} {xs : List Value} {gr cap : Nat} {h : Hp} (R : RowB e sz (.slice (some ⟨gr, 0, none⟩) n cap) n xs h) : ∃ cur, h = [(gr, .cells cur e (0, 0))] ∧ n * sz ≤ cur.size ∧ ∀ j u, j < n * sz → RowB e sz (.slice (some ⟨gr, 0, none⟩) n cap) n (xs.set j u) [(gr, .cells (cur.setIfInBounds j u) e (0, 0))] := by
  obtain ⟨h1, ⟨hv, _, _⟩ | ⟨g, cap', cur, hv, rfl, h2, h3, h4, h5⟩⟩ := R
  · injection hv with e1; cases e1
  · injection hv with e1 _ e3
    injection e1 with e1
    injection e1 with e1 _ _
    subst e1
    subst e3
    have hle : n * sz ≤ cap * sz := Nat.mul_le_mul_right _ h2
    refine ⟨cur, rfl, by omega, fun j u hj => ⟨by simpa using h1, .inr ⟨gr, cap, _, rfl, rfl, h2, h3, by simpa using h4, ?_⟩⟩⟩
    rw [Array.toList_setIfInBounds, List.take_set, h5]
theorem xorB (a b : UInt8) : Go.bits .xor .u8 (a.toNat : Int) (b.toNat : Int) = ((a ^^^ b).toNat : Nat) := by
  have h1 : (BitVec.ofInt IntKind.u8.bits (a.toNat : Int)) = a.toBitVec := by
    apply BitVec.eq_of_toNat_eq
    rw [BitVec.toNat_ofInt]
    have := a.toNat_lt
    show ((a.toNat : Int) % ((2 ^ 8 : Nat) : Int)).toNat = a.toNat
    omega
  have h2 : (BitVec.ofInt IntKind.u8.bits (b.toNat : Int)) = b.toBitVec := by
    apply BitVec.eq_of_toNat_eq
    rw [BitVec.toNat_ofInt]
    have := b.toNat_lt
    show ((b.toNat : Int) % ((2 ^ 8 : Nat) : Int)).toNat = b.toNat
    omega
  have h3 : IntKind.u8.wrap ((a ^^^ b).toNat : Int) = ((a ^^^ b).toNat : Int) := by
    have := (a ^^^ b).toNat_lt
    rw [IntKind.wrap_u8]
    omega
  unfold Go.bits
  simp only [h1, h2]
  exact h3
def spoilB (b : List UInt8) (at_ : Nat) (by_ : UInt8) : List UInt8 := b.set at_ (b.getD at_ 0 ^^^ by_)
def spoilM (m : NM) (k at_ : Int) (by_ : UInt8) : Bool × NM := match atM m k with
  | some p => if 0 ≤ at_ ∧ at_ < (p.b.length : Int) ∧ by_ ≠ 0 then (true, { m with l := m.l.set k.toNat { p with b := spoilB p.b at_.toNat by_ } }) else (false, m)
  | none => (false, m)
theorem pks_set {L : List PE} {k : Nat} {x : PE} (h : L[k]? = some x) (b : List UInt8) : L.set k (x.1, { x.2 with b := b }) = L.take k ++ (x.1, { x.2 with b := b }) :: L.drop (k + 1) ∧ pksV (L.set k (x.1, { x.2 with b := b })) = pksV L := by
  have h1 : L.set k (x.1, { x.2 with b := b }) = L.take k ++ (x.1, { x.2 with b := b }) :: L.drop (k + 1) := by
    rw [List.set_eq_take_append_cons_drop, if_pos (List.getElem?_eq_some_iff.mp h).1]
  refine ⟨h1, ?_⟩
  have h2 := split_at h
  rw [h1]
  conv => rhs; rw [h2]
  rw [pksV_app, pksV_app]
  rfl
theorem ok_set {m : NM} {k : Nat} {p : Pk} {b : List UInt8} (hok : m.ok) (h : m.l[k]? = some p) (hb : b.length = p.b.length) : NM.ok { m with l := m.l.set k { p with b := b } } := by
  obtain ⟨h1, h2, h3, h4, h5⟩ := hok
  refine ⟨h1, h2, by simpa using h3, ?_, ?_⟩
  · intro q hq
    rcases List.mem_or_eq_of_mem_set hq with h' | rfl
    · exact h4 q h'
    · show b.length ≤ 1000
      rw [hb]; exact h4 p (List.mem_of_getElem? h)
  · intro q hq
    rcases List.mem_or_eq_of_mem_set hq with h' | rfl
    · exact h5 q h'
    · exact h5 p (List.mem_of_getElem? h)
set_option maxRecDepth 100000 in
set_option maxHeartbeats 4000000 in
theorem spoil_A (g : Nat) (m : NM) (h F : Hp) (k at_ : Int) (by_ : UInt8) (w0 w : World) (hI : IsN g m h) (H : Holds w0 (h ++ F) w) (hat : atM m k = none) :
    Calls Try.prog 10 #[.pointer (some ⟨g, 0, none⟩), .int .i64 k, .int .i64 at_, .int .u8 by_.toNat] w fun e w' => e = .returned (.bool (spoilM m k at_ by_).1) ∧ ∃ h', IsN g (spoilM m k at_ by_).2 h' ∧ Holds w0 (h' ++ F) w' := by
  have hI0 := hI
  obtain ⟨mb, o, v2, L, hr, hp, hM, hR, hP, hml, rfl, hok⟩ := hI
  obtain ⟨AL, cL, rfl, _, _⟩ := RowB.form hR
  have HI := Lib.hid hI0
  have hlen : m.l.length = L.length := by rw [hml]; simp
  have c2 : w.cell? ⟨g, 2, none⟩ = some (.slice AL L.length cL) := H.cell 2
  have hhas := has_calls g m.nodes m.room k AL L.length cL mb w H.get
  have q : spoilM m k at_ by_ = (false, m) := by unfold spoilM; rw [hat]
  rw [q]
  rw [← hlen, at_has hat] at hhas
  have HHAS := Lib.hid hhas
  have HH := Lib.hid H
  clear hI0 hM hR hP hml hok H hhas hat q
  go_enter Try.func10, Try.ntmps10
  go_wp2_with fail
  refine HHAS.out.mono ?_
  rintro e w1 ⟨rfl, rfl⟩
  simp only [Option.isSome_none]
  go_wp2_with fail
  go_ret
  exact ⟨rfl, _, HI.out, HH.out⟩
set_option maxRecDepth 100000 in
set_option maxHeartbeats 4000000 in
theorem spoil_B (g : Nat) (m : NM) (h F : Hp) (k at_ : Int) (by_ : UInt8) (w0 w : World) (hI : IsN g m h) (H : Holds w0 (h ++ F) w) (p : Pk) (hat : atM m k = some p) (h1 : ¬ 0 ≤ at_) :
    Calls Try.prog 10 #[.pointer (some ⟨g, 0, none⟩), .int .i64 k, .int .i64 at_, .int .u8 by_.toNat] w fun e w' => e = .returned (.bool (spoilM m k at_ by_).1) ∧ ∃ h', IsN g (spoilM m k at_ by_).2 h' ∧ Holds w0 (h' ++ F) w' := by
  have hI0 := hI
  obtain ⟨mb, o, v2, L, hr, hp, hM, hR, hP, hml, rfl, hok⟩ := hI
  obtain ⟨AL, cL, rfl, _, _⟩ := RowB.form hR
  have HI := Lib.hid hI0
  have hlen : m.l.length = L.length := by rw [hml]; simp
  have c2 : w.cell? ⟨g, 2, none⟩ = some (.slice AL L.length cL) := H.cell 2
  have hhas := has_calls g m.nodes m.room k AL L.length cL mb w H.get
  have hhas2 := at_has hat
  rw [hlen] at hhas2
  rw [hhas2] at hhas
  have hk2 := of_decide_eq_true (show decide (0 ≤ k ∧ k < (L.length : Int)) = true from hhas2)
  have HHAS := Lib.hid hhas
  obtain ⟨k, rfl⟩ : ∃ k' : Nat, k = k' := ⟨k.toNat, by omega⟩
  have hkL : k < L.length := by omega
  have hk0 : (0 : Int) ≤ k := hk2.1
  have hkI : (k : Int) < (L.length : Int) := hk2.2
  obtain ⟨gL, c', x, AX, cX, hx, hp', hv2, hlc, hxk, hA, hcX, RX, hpp, hcs⟩ := pk_at (w0 := w0) (w := w) (F := F) hR hP k hkL
  obtain ⟨rfl, _, rfl⟩ := Value.slice.inj hv2
  have hpx : x.2 = p := by
    unfold atM at hat
    rw [if_pos hk0, hml, Int.toNat_natCast, List.getElem?_map, hxk] at hat
    exact Option.some.inj hat
  have HAT := Lib.hid hat
  have q2 : w.cell? ⟨gL, k * 3 + 2, none⟩ = some (.slice AX p.b.length cX) := by
    have := (hcs w0 ((g, netO m.nodes m.room (.slice (some ⟨gL, 0, none⟩) L.length cL) mb) :: (mb, o) :: (hp ++ F)) w (H.perm (by classical rw [List.perm_iff_count]; intro a; simp only [List.count_append, List.count_cons, List.count_nil]; omega))).2.2
    rw [hA, hpx] at this
    exact this
  have q : spoilM m k at_ by_ = (false, m) := by unfold spoilM; rw [hat]; exact if_neg (by rintro ⟨h, _⟩; exact h1 h)
  rw [q]
  have HH := Lib.hid H
  clear hI0 hM hR hP hml hok H hhas hhas2 hk2 hat q hv2 hxk hA RX hpp hcs hpx
  go_enter Try.func10, Try.ntmps10
  go_wp2_with fail
  refine HHAS.out.mono ?_
  rintro e w1 ⟨rfl, rfl⟩
  simp only [Option.isSome_some]
  go_wp2_with fail
  go_ret
  exact ⟨rfl, _, HI.out, HH.out⟩
set_option maxRecDepth 100000 in
set_option maxHeartbeats 4000000 in
theorem spoil_C (g : Nat) (m : NM) (h F : Hp) (k at_ : Int) (by_ : UInt8) (w0 w : World) (hI : IsN g m h) (H : Holds w0 (h ++ F) w) (p : Pk) (hat : atM m k = some p) (h1 : 0 ≤ at_) (h2 : ¬ at_ < (p.b.length : Int)) :
    Calls Try.prog 10 #[.pointer (some ⟨g, 0, none⟩), .int .i64 k, .int .i64 at_, .int .u8 by_.toNat] w fun e w' => e = .returned (.bool (spoilM m k at_ by_).1) ∧ ∃ h', IsN g (spoilM m k at_ by_).2 h' ∧ Holds w0 (h' ++ F) w' := by
  have hI0 := hI
  obtain ⟨mb, o, v2, L, hr, hp, hM, hR, hP, hml, rfl, hok⟩ := hI
  obtain ⟨AL, cL, rfl, _, _⟩ := RowB.form hR
  have HI := Lib.hid hI0
  have hlen : m.l.length = L.length := by rw [hml]; simp
  have c2 : w.cell? ⟨g, 2, none⟩ = some (.slice AL L.length cL) := H.cell 2
  have hhas := has_calls g m.nodes m.room k AL L.length cL mb w H.get
  have hhas2 := at_has hat
  rw [hlen] at hhas2
  rw [hhas2] at hhas
  have hk2 := of_decide_eq_true (show decide (0 ≤ k ∧ k < (L.length : Int)) = true from hhas2)
  have HHAS := Lib.hid hhas
  obtain ⟨k, rfl⟩ : ∃ k' : Nat, k = k' := ⟨k.toNat, by omega⟩
  have hkL : k < L.length := by omega
  have hk0 : (0 : Int) ≤ k := hk2.1
  have hkI : (k : Int) < (L.length : Int) := hk2.2
  obtain ⟨gL, c', x, AX, cX, hx, hp', hv2, hlc, hxk, hA, hcX, RX, hpp, hcs⟩ := pk_at (w0 := w0) (w := w) (F := F) hR hP k hkL
  obtain ⟨rfl, _, rfl⟩ := Value.slice.inj hv2
  have hpx : x.2 = p := by
    unfold atM at hat
    rw [if_pos hk0, hml, Int.toNat_natCast, List.getElem?_map, hxk] at hat
    exact Option.some.inj hat
  have HAT := Lib.hid hat
  have q2 : w.cell? ⟨gL, k * 3 + 2, none⟩ = some (.slice AX p.b.length cX) := by
    have := (hcs w0 ((g, netO m.nodes m.room (.slice (some ⟨gL, 0, none⟩) L.length cL) mb) :: (mb, o) :: (hp ++ F)) w (H.perm (by classical rw [List.perm_iff_count]; intro a; simp only [List.count_append, List.count_cons, List.count_nil]; omega))).2.2
    rw [hA, hpx] at this
    exact this
  have q : spoilM m k at_ by_ = (false, m) := by unfold spoilM; rw [hat]; exact if_neg (by rintro ⟨_, h, _⟩; exact h2 h)
  rw [q]
  have HH := Lib.hid H
  clear hI0 hM hR hP hml hok H hhas hhas2 hk2 hat q hv2 hxk hA RX hpp hcs hpx
  go_enter Try.func10, Try.ntmps10
  go_wp2_with fail
  refine HHAS.out.mono ?_
  rintro e w1 ⟨rfl, rfl⟩
  simp only [Option.isSome_some]
  go_wp2_with fail
  go_ret
  exact ⟨rfl, _, HI.out, HH.out⟩
set_option maxRecDepth 100000 in
set_option maxHeartbeats 4000000 in
theorem spoil_D (g : Nat) (m : NM) (h F : Hp) (k at_ : Int) (by_ : UInt8) (w0 w : World) (hI : IsN g m h) (H : Holds w0 (h ++ F) w) (p : Pk) (hat : atM m k = some p) (h1 : 0 ≤ at_) (h2 : at_ < (p.b.length : Int)) (h3 : by_ = 0) :
    Calls Try.prog 10 #[.pointer (some ⟨g, 0, none⟩), .int .i64 k, .int .i64 at_, .int .u8 by_.toNat] w fun e w' => e = .returned (.bool (spoilM m k at_ by_).1) ∧ ∃ h', IsN g (spoilM m k at_ by_).2 h' ∧ Holds w0 (h' ++ F) w' := by
  have hI0 := hI
  obtain ⟨mb, o, v2, L, hr, hp, hM, hR, hP, hml, rfl, hok⟩ := hI
  obtain ⟨AL, cL, rfl, _, _⟩ := RowB.form hR
  have HI := Lib.hid hI0
  have hlen : m.l.length = L.length := by rw [hml]; simp
  have c2 : w.cell? ⟨g, 2, none⟩ = some (.slice AL L.length cL) := H.cell 2
  have hhas := has_calls g m.nodes m.room k AL L.length cL mb w H.get
  have hhas2 := at_has hat
  rw [hlen] at hhas2
  rw [hhas2] at hhas
  have hk2 := of_decide_eq_true (show decide (0 ≤ k ∧ k < (L.length : Int)) = true from hhas2)
  have HHAS := Lib.hid hhas
  obtain ⟨k, rfl⟩ : ∃ k' : Nat, k = k' := ⟨k.toNat, by omega⟩
  have hkL : k < L.length := by omega
  have hk0 : (0 : Int) ≤ k := hk2.1
  have hkI : (k : Int) < (L.length : Int) := hk2.2
  obtain ⟨gL, c', x, AX, cX, hx, hp', hv2, hlc, hxk, hA, hcX, RX, hpp, hcs⟩ := pk_at (w0 := w0) (w := w) (F := F) hR hP k hkL
  obtain ⟨rfl, _, rfl⟩ := Value.slice.inj hv2
  have hpx : x.2 = p := by
    unfold atM at hat
    rw [if_pos hk0, hml, Int.toNat_natCast, List.getElem?_map, hxk] at hat
    exact Option.some.inj hat
  have HAT := Lib.hid hat
  have q2 : w.cell? ⟨gL, k * 3 + 2, none⟩ = some (.slice AX p.b.length cX) := by
    have := (hcs w0 ((g, netO m.nodes m.room (.slice (some ⟨gL, 0, none⟩) L.length cL) mb) :: (mb, o) :: (hp ++ F)) w (H.perm (by classical rw [List.perm_iff_count]; intro a; simp only [List.count_append, List.count_cons, List.count_nil]; omega))).2.2
    rw [hA, hpx] at this
    exact this
  have q : spoilM m k at_ by_ = (false, m) := by unfold spoilM; rw [hat]; exact if_neg (by rintro ⟨_, _, h⟩; exact h h3)
  rw [q]
  have HH := Lib.hid H
  subst h3
  clear hI0 hM hR hP hml hok H hhas hhas2 hk2 hat q hv2 hxk hA RX hpp hcs hpx
  go_enter Try.func10, Try.ntmps10
  go_wp2_with fail
  refine HHAS.out.mono ?_
  rintro e w1 ⟨rfl, rfl⟩
  simp only [Option.isSome_some]
  go_wp2_with fail
  go_ret
  exact ⟨rfl, _, HI.out, HH.out⟩
set_option maxRecDepth 100000 in
set_option maxHeartbeats 4000000 in
theorem spoil_Y (g : Nat) (m : NM) (h F : Hp) (k at_ : Int) (by_ : UInt8) (w0 w : World) (hI : IsN g m h) (H : Holds w0 (h ++ F) w) (p : Pk) (hat : atM m k = some p) (h1 : 0 ≤ at_) (h2 : at_ < (p.b.length : Int)) (h3 : by_ ≠ 0) :
    Calls Try.prog 10 #[.pointer (some ⟨g, 0, none⟩), .int .i64 k, .int .i64 at_, .int .u8 by_.toNat] w fun e w' => e = .returned (.bool (spoilM m k at_ by_).1) ∧ ∃ h', IsN g (spoilM m k at_ by_).2 h' ∧ Holds w0 (h' ++ F) w' := by
  have hI0 := hI
  obtain ⟨mb, o, v2, L, hr, hp, hM, hR, hP, hml, rfl, hok⟩ := hI
  obtain ⟨AL, cL, rfl, _, _⟩ := RowB.form hR
  have HI := Lib.hid hI0
  have hlen : m.l.length = L.length := by rw [hml]; simp
  have c2 : w.cell? ⟨g, 2, none⟩ = some (.slice AL L.length cL) := H.cell 2
  have hhas := has_calls g m.nodes m.room k AL L.length cL mb w H.get
  have hhas2 := at_has hat
  rw [hlen] at hhas2
  rw [hhas2] at hhas
  have hk2 := of_decide_eq_true (show decide (0 ≤ k ∧ k < (L.length : Int)) = true from hhas2)
  have HHAS := Lib.hid hhas
  obtain ⟨k, rfl⟩ : ∃ k' : Nat, k = k' := ⟨k.toNat, by omega⟩
  have hkL : k < L.length := by omega
  have hk0 : (0 : Int) ≤ k := hk2.1
  have hkI : (k : Int) < (L.length : Int) := hk2.2
  obtain ⟨gL, c', x, AX, cX, hx, hp', hv2, hlc, hxk, hA, hcX, RX, hpp, hcs⟩ := pk_at (w0 := w0) (w := w) (F := F) hR hP k hkL
  obtain ⟨rfl, _, rfl⟩ := Value.slice.inj hv2
  have hpx : x.2 = p := by
    unfold atM at hat
    rw [if_pos hk0, hml, Int.toNat_natCast, List.getElem?_map, hxk] at hat
    exact Option.some.inj hat
  have HAT := Lib.hid hat
  have q2 : w.cell? ⟨gL, k * 3 + 2, none⟩ = some (.slice AX p.b.length cX) := by
    have := (hcs w0 ((g, netO m.nodes m.room (.slice (some ⟨gL, 0, none⟩) L.length cL) mb) :: (mb, o) :: (hp ++ F)) w (H.perm (by classical rw [List.perm_iff_count]; intro a; simp only [List.count_append, List.count_cons, List.count_nil]; omega))).2.2
    rw [hA, hpx] at this
    exact this
  have q : spoilM m k at_ by_ = (true, { m with l := m.l.set (k : Int).toNat { p with b := spoilB p.b at_.toNat by_ } }) := by unfold spoilM; rw [hat]; exact if_pos ⟨h1, h2, h3⟩
  rw [q]
  rw [Int.toNat_natCast]
  have hby : ((by_.toNat : Int) = 0) = False := by
    refine eq_false (fun h => h3 ?_)
    exact UInt8.toNat_inj.mp (by simpa using h)
  have hby2 : ((by_.toNat : Int) == 0) = false := by rw [beq_eq_false_iff_ne]; exact fun h => by rw [hby] at h; exact h
  obtain ⟨at_, rfl⟩ : ∃ a' : Nat, at_ = a' := ⟨at_.toNat, by omega⟩
  rw [Int.toNat_natCast]
  have hatl : at_ < p.b.length := by omega
  have hsp := split_at hxk
  have hml2 : m.l[k]? = some p := by rw [hml, List.getElem?_map, hxk, ← hpx]; rfl
  obtain ⟨xv, xp⟩ := x
  simp only at hA hpx hcs RX
  subst hA
  subst hpx
  rename Pk => p
  rw [hsp] at hP
  obtain ⟨p1, px, p2, hP1, hPx, hP2, rfl⟩ := PksR.mid.mp hP
  simp only at hPx
  cases AX with
  | none =>
    have : p.b.length = 0 := by
      obtain ⟨_, ⟨_, h0, _⟩ | ⟨g', cap', cur', hv', _⟩⟩ := hPx
      · exact h0
      · injection hv' with e1; cases e1
    omega
  | some ad =>
    obtain ⟨gb, rfl⟩ : ∃ gb, ad = ⟨gb, 0, none⟩ := by
      obtain ⟨_, ⟨hv', h0, _⟩ | ⟨g', cap', cur', hv', _⟩⟩ := hPx
      · injection hv' with e1; cases e1
      · injection hv' with e1
        exact ⟨g', Option.some.inj e1⟩
    obtain ⟨cur, rfl, hcz, hput⟩ := RowB.putn hPx
    have hPx' := hPx
    obtain ⟨bb, hbb⟩ : ∃ bb, bb = p.b.getD at_ 0 := ⟨_, rfl⟩
    have hbv : (bv p.b)[at_]? = some (.int .u8 bb.toNat) := by
      unfold bv
      rw [List.getElem?_map, List.getElem?_eq_getElem hatl, hbb, List.getD_eq_getElem?_getD, List.getElem?_eq_getElem hatl]
      rfl
    have H1 : Holds w0 ((gb, .cells cur 5 (0, 0)) :: ((g, netO m.nodes m.room (.slice (some ⟨gL, 0, none⟩) L.length cL) mb) :: (mb, o) :: (hr ++ (p1 ++ (p2 ++ F))))) w := H.perm (by classical rw [List.perm_iff_count]; intro a; simp only [List.count_append, List.count_cons, List.count_nil]; omega)
    have q5 : w.cell? ⟨gb, at_, none⟩ = some (.int .u8 bb.toNat) := by
      obtain ⟨A', c'', hv', _, _, hrd⟩ := hPx.reads (w0 := w0) (w := w) (F := _) H1
      injection hv' with e1
      subst e1
      have := hrd.2.2 _ rfl at_ _ hbv
      have e : (⟨gb, 0, none⟩ : Addr).add at_ = ⟨gb, at_, none⟩ := by simp [Addr.add]; omega
      rwa [e] at this
    have q6 : w.frozen? ⟨gb, at_, none⟩ = false := H1.froz at_
    have hx8 : Go.bits .xor .u8 (bb.toNat : Int) (by_.toNat : Int) = ((bb ^^^ by_).toNat : Nat) := xorB bb by_
    have HN := Lib.hid (H1.set at_ (.int .u8 (bb ^^^ by_).toNat))
    have HPUT := Lib.hid (hput at_ (.int .u8 (bb ^^^ by_).toNat) (by omega))
    have HB := Lib.hid hbb
    have HS := Lib.hid (pks_set hxk (spoilB p.b at_ by_))
    have HM := Lib.hid hM; have HR := Lib.hid hR; have HML := Lib.hid hml; have HP1 := Lib.hid hP1; have HP2 := Lib.hid hP2
    have HOK2 := Lib.hid (ok_set (b := spoilB p.b at_ by_) hok hml2 (by simp [spoilB]))
    clear hI0 hM hR hP hml hok H H1 hhas hhas2 hk2 hat q hv2 hxk RX hpp hcs hPx hPx' hput hbb hbv hml2 hP1 hP2 hsp HAT h3
    go_enter Try.func10, Try.ntmps10
    go_wp2_with fail
    refine HHAS.out.mono ?_
    rintro e w1 ⟨rfl, rfl⟩
    simp only [Option.isSome_some]
    go_wp2_with fail
    go_ret
    refine ⟨rfl, (g, netO m.nodes m.room (.slice (some ⟨gL, 0, none⟩) L.length cL) mb) :: (mb, o) :: (hr ++ (p1 ++ ([(gb, .cells (cur.setIfInBounds at_ (.int .u8 (bb ^^^ by_).toNat)) 5 (0, 0))] ++ p2))), ⟨mb, o, .slice (some ⟨gL, 0, none⟩) L.length cL, L.set k (.slice (some ⟨gb, 0, none⟩) p.b.length cX, { p with b := spoilB p.b at_ by_ }), hr, p1 ++ ([(gb, .cells (cur.setIfInBounds at_ (.int .u8 (bb ^^^ by_).toNat)) 5 (0, 0))] ++ p2), HM.out, ?_, ?_, ?_, rfl, HOK2.out⟩, HN.out.perm (by classical rw [List.perm_iff_count]; intro a; simp only [List.count_append, List.count_cons, List.count_nil]; omega)⟩
    · rw [List.length_set, HS.out.2]; exact HR.out
    · rw [HS.out.1]
      refine PksR.mid.mpr ⟨p1, _, p2, HP1.out, ?_, HP2.out, rfl⟩
      have h := HPUT.out
      show RowB 5 1 _ (spoilB p.b at_ by_).length (bv (spoilB p.b at_ by_)) _
      have e1 : (spoilB p.b at_ by_).length = p.b.length := by simp [spoilB]
      have e2 : bv (spoilB p.b at_ by_) = (bv p.b).set at_ (.int .u8 (bb ^^^ by_).toNat) := by
        unfold bv spoilB
        rw [List.map_set, HB.out]
      rw [e1, e2]
      exact h
    · show m.l.set k _ = _
      rw [HML.out, List.map_set]
theorem spoil_calls (g : Nat) (m : NM) (h F : Hp) (k at_ : Int) (by_ : UInt8) (w0 w : World) (hI : IsN g m h) (H : Holds w0 (h ++ F) w) :
    Calls Try.prog 10 #[.pointer (some ⟨g, 0, none⟩), .int .i64 k, .int .i64 at_, .int .u8 by_.toNat] w fun e w' => e = .returned (.bool (spoilM m k at_ by_).1) ∧ ∃ h', IsN g (spoilM m k at_ by_).2 h' ∧ Holds w0 (h' ++ F) w' := by
  cases hat : atM m k with
  | none => exact spoil_A g m h F k at_ by_ w0 w hI H hat
  | some p =>
    by_cases h1 : 0 ≤ at_
    · by_cases h2 : at_ < (p.b.length : Int)
      · by_cases h3 : by_ = 0
        · exact spoil_D g m h F k at_ by_ w0 w hI H p hat h1 h2 h3
        · exact spoil_Y g m h F k at_ by_ w0 w hI H p hat h1 h2 h3
      · exact spoil_C g m h F k at_ by_ w0 w hI H p hat h1 h2
    · exact spoil_B g m h F k at_ by_ w0 w hI H p hat h1
end Go.Proofs.Ytopnbhinifejkaa
