/- The document's scan: a contract for every world. Conditions: each theorem's own. -/
import Derived.Test.YtacbaiflblngfaaSn
import Derived.Test.YtacbaiflblngfaaRg
import Derived.Test.YtacbaiflblngfaaRw
namespace Go.Proofs.Ytacbaiflblngfaa
open Go.RowKit Go.Proofs.Ytacbaiflblngfaa.Sp Go.Proofs.Ytacbaiflblngfaa.QFrame Go.Proofs.YtacbaiflblngfaaW.PrintWords
set_option linter.unusedVariables false
set_option linter.unusedSimpArgs false
attribute [local go_sem] u32_signed u32_max
def iv (r : List Int) : List Value := r.map (Value.int .u8)
theorem RowB.form {e : TypeId} {sz n : Nat} {v : Value} {xs : List Value} {h : Hp} (R : RowB e sz v n xs h) : ∃ A c, v = .slice A n c ∧ n ≤ c ∧ (A = none → c = 0) := by
  obtain ⟨_, ⟨rfl, rfl, _⟩ | ⟨g, cap, cur, rfl, _, h1, h2, _⟩⟩ := R
  · exact ⟨none, 0, rfl, Nat.le_refl _, fun _ => rfl⟩
  · exact ⟨_, _, rfl, by omega, fun h => by cases h⟩
theorem info5i : ∃ i z, Try.prog.info? 5 = some i ∧ i.zero = some z ∧ i.size = 1 ∧ i.bytes = 1 ∧ z.cells.size = 1 := by
  have h : (Try.prog.info? 5).any (fun i => (match i.zero with | some z => z.cells.size == 1 | _ => false) && i.size == 1 && i.bytes == 1) = true := by kernel_rfl
  cases hu : Try.prog.info? 5 with
  | none => rw [hu] at h; cases h
  | some i =>
    rw [hu] at h
    simp only [Option.any_some, Bool.and_eq_true, beq_iff_eq] at h
    obtain ⟨⟨h1, h2⟩, h3⟩ := h
    cases hz : i.zero with
    | none => rw [hz] at h1; cases h1
    | some z =>
      rw [hz] at h1
      exact ⟨i, z, rfl, hz, h2, h3, by simpa using h1⟩
theorem info23i : ∃ i z, Try.prog.info? 23 = some i ∧ i.zero = some z ∧ i.size = 1 ∧ i.bytes = 24 ∧ z.cells.size = 1 := by
  have h : (Try.prog.info? 23).any (fun i => (match i.zero with | some z => z.cells.size == 1 | _ => false) && i.size == 1 && i.bytes == 24) = true := by kernel_rfl
  cases hu : Try.prog.info? 23 with
  | none => rw [hu] at h; cases h
  | some i =>
    rw [hu] at h
    simp only [Option.any_some, Bool.and_eq_true, beq_iff_eq] at h
    obtain ⟨⟨h1, h2⟩, h3⟩ := h
    cases hz : i.zero with
    | none => rw [hz] at h1; cases h1
    | some z =>
      rw [hz] at h1
      exact ⟨i, z, rfl, hz, h2, h3, by simpa using h1⟩
/-- A row of the call's own, as it is read. -/
theorem row_C {w0 w : World} {F h : Hp} {A : Option Addr} {n c : Nat} {r : List Int} (R : RowB 5 1 (.slice A n c) r.length (iv r) h) (H : Holds w0 (h ++ F) w) (hb : r.length ≤ 9223372036854775807) : n = r.length ∧ r.length ≤ c ∧ Kd.C (Kd.int .u8) w A r.length r := by
  obtain ⟨A', c', e, h1, h2, h3⟩ := R.reads H
  injection e with e1 e2 e3
  subst e1; subst e3
  refine ⟨e2, h1, rfl, hb, fun h0 => ?_⟩
  cases A with
  | none => have := h3.2.1 rfl; omega
  | some ad =>
    refine ⟨ad, rfl, fun j p hp => ⟨[.int .u8 p], rfl, rfl, fun i u hu => ?_⟩⟩
    have hi : i = 0 := by
      rcases i with _ | i
      · rfl
      · simp at hu
    subst hi
    obtain rfl := Option.some.inj hu
    have := h3.2.2 ad rfl j (.int .u8 p) (by unfold iv; rw [List.getElem?_map, hp]; rfl)
    show w.cell? (ad.add (j * 1 + 0)) = _
    rw [Nat.mul_one, Nat.add_zero]
    exact this
theorem C_reads {w : World} {A : Option Addr} {n : Nat} {r : List Int} (h : Kd.C (Kd.int .u8) w A n r) : Reads w A n 1 (iv r) := by
  obtain ⟨h1, h2, h3⟩ := h
  refine ⟨by simp [iv, h1], fun e => ?_, fun ad had j u hj => ?_⟩
  · rcases Nat.eq_zero_or_pos n with q | q
    · exact q
    · obtain ⟨ad, e2, _⟩ := h3 q
      rw [e] at e2
      cases e2
  · unfold iv at hj
    rw [List.getElem?_map] at hj
    cases hp : r[j]? with
    | none => rw [hp] at hj; cases hj
    | some p =>
      rw [hp] at hj
      obtain rfl : Value.int .u8 p = u := by simpa using hj
      have hl := (List.getElem?_eq_some_iff.mp hp).1
      obtain ⟨ad2, e2, hc⟩ := h3 (by omega)
      obtain rfl : ad = ad2 := by rw [had] at e2; exact Option.some.inj e2
      obtain ⟨c, hl2, hR, hcell⟩ := hc j p hp
      have hR : c = [.int .u8 p] := hR
      have := hcell 0 (.int .u8 p) (by rw [hR]; rfl)
      have e3 : ad.add (j * 1 + 0) = ad.add j := by rw [Nat.mul_one, Nat.add_zero]
      have this : w.cell? (ad.add (j * 1 + 0)) = some (.int .u8 p) := this
      rwa [e3] at this
theorem R_row {w0 w w' : World} {F : Hp} {ok : Nat → Prop} {v : Value} {r : List Int} (h : Kd.R (Kd.int .u8) 5 w' w.heap.size ok v r) (H : Holds w0 F w) (hb : Below w.heap.size w w') :
    ∃ hv, RowB 5 1 v r.length (iv r) hv ∧ Holds w0 (hv ++ F) w' := by
  obtain ⟨hv, R, hx⟩ := RowB.of_owns (Kd.own_of_R h)
  refine ⟨hv, R, ?_⟩
  cases hv with
  | nil => exact H.grow hb
  | cons x t =>
    obtain ⟨x1, x2, _, x4⟩ := hx x List.mem_cons_self
    rw [x4]
    exact H.add hb x2 x1
theorem bytes_append {w0 w : World} {h F : Hp} {v : Value} {n : Nat} {xs : List Value} (R : RowB 5 1 v n xs h) (H : Holds w0 (h ++ F) w) (ty : TypeId) (A : Option Addr) (m c : Nat) (ds : List Value) (h1 : ∀ u ∈ ds, u.oneCell' = true) (hc : A = none → c = 0) (hr : Reads w A m 1 ds) (hl : n + m ≤ 140737488355328) :
    ∃ v' h' w', (Builtin.append_ #[23, 23] ty #[v, .slice A m c]).run Try.prog w = .ok v' w' ∧ RowB 5 1 v' (n + m) (xs ++ ds) h' ∧ Holds w0 (h' ++ F) w' := by
  obtain ⟨i, z, hi, hz, q1, q2, q3⟩ := info5i
  have hmx : maxLen = 9223372036854775807 := rfl
  exact row_append (t := 23) R H ty i z 1 Try.underlying23 hi hz q1 q2 q3 (by decide) A m c hc ds hr h1 (by omega) (by omega)
theorem rec_append {w0 w : World} {h F : Hp} {v : Value} {n : Nat} {xs : List Value} (R : RowB 23 1 v n xs h) (H : Holds w0 (h ++ F) w) (ty : TypeId) (b : Nat) (u : Value) (hu : u.oneCell' = true) (hb : w.heap[b]? = some (.cells #[u] 23 (0, 0))) (hn : n ≤ 1000000) :
    ∃ v' h' w', (Builtin.append_ #[27, 27] ty #[v, .slice (some ⟨b, 0, none⟩) 1 1]).run Try.prog w = .ok v' w' ∧ RowB 23 1 v' (n + 1) (xs ++ [u]) h' ∧ Holds w0 (h' ++ F) w' := by
  obtain ⟨i, z, hi, hz, h1, h2, h3⟩ := info23i
  have hmx : maxLen = 9223372036854775807 := rfl
  refine row_append (t := 27) R H ty i z 24 Try.underlying27 hi hz h1 h2 h3 (by decide) (some ⟨b, 0, none⟩) 1 1 (fun h => by cases h) [u] ⟨rfl, (fun h => by cases h), ?_⟩ ?_ (by omega) (by omega)
  · intro ad had j x hj
    injection had with had
    subst had
    have e : (⟨b, 0, none⟩ : Addr).add j = ⟨b, j, none⟩ := by simp [Addr.add]; omega
    rw [e]
    simp only [World.cell?, hb]
    rw [← Array.getElem?_toList]
    exact hj
  · intro x hx
    obtain rfl := List.mem_singleton.mp hx
    exact hu
def RowsI : List (List Int) → List Value → Hp → Prop
  | [], vs, h => vs = [] ∧ h = []
  | r :: rs, vs, h => ∃ v vs' h1 h2, RowB 5 1 v r.length (iv r) h1 ∧ RowsI rs vs' h2 ∧ vs = v :: vs' ∧ h = h1 ++ h2
theorem RowsI.snoc : ∀ {recs : List (List Int)} {vs : List Value} {hz : Hp} {r : List Int} {v : Value} {hv : Hp}, RowsI recs vs hz → RowB 5 1 v r.length (iv r) hv → RowsI (recs ++ [r]) (vs ++ [v]) (hz ++ hv)
  | [], vs, hz, r, v, hv, h, R => by
    obtain ⟨rfl, rfl⟩ := h
    exact ⟨v, [], hv, [], R, ⟨rfl, rfl⟩, rfl, by simp⟩
  | x :: recs, vs, hz, r, v, hv, h, R => by
    obtain ⟨u, vs', h1, h2, R1, RS, rfl, rfl⟩ := h
    exact ⟨u, vs' ++ [v], h1, h2 ++ hv, R1, RowsI.snoc RS R, rfl, by simp⟩
/-- A cut out of the middle of what lies somewhere. -/
theorem mid_some (ad : Addr) (c : Nat) (xs : List Int) (a b : Int) (h0 : 0 ≤ a) (h1 : a ≤ b) (hm : b ≤ xs.length) (hc : xs.length ≤ c) :
    ∃ ad' : Addr, (∀ W : World, (Instr.slice 23 (.slice (some ad) xs.length c) (some (.int .i64 a)) (some (.int .i64 b)) none).run Try.prog W = .ok (.slice (some ad') ((xs.take b.toNat).drop a.toNat).length (c - a.toNat)) W) ∧
      (∀ w : World, Kd.C (Kd.int .u8) w (some ad) xs.length xs → Kd.C (Kd.int .u8) w (some ad') ((xs.take b.toNat).drop a.toNat).length ((xs.take b.toNat).drop a.toNat)) := by
  obtain ⟨i, z, hi, hz, q1, q2, q3⟩ := info5i
  have hlt : (xs.take b.toNat).length = b.toNat := by rw [List.length_take]; omega
  have hl : ((xs.take b.toNat).drop a.toNat).length = b.toNat - a.toNat := by rw [List.length_drop, hlt]
  have e : (if c = a.toNat then (some ad : Option Addr) else (some ad).map (·.add a.toNat)) = some (if c = a.toNat then ad else ad.add a.toNat) := by split <;> rfl
  refine ⟨if c = a.toNat then ad else ad.add a.toNat, fun W => ?_, fun w h => ?_⟩
  · have hel : Try.prog.elem 23 = 5 := by simp [Program.elem, Try.underlying23]
    have hu : Try.prog.underlying 23 = some (.slice (Try.prog.elem 23)) := by rw [hel]; exact Try.underlying23
    rw [run_slice_lh W 23 (some ad) xs.length c hu .i64 .i64 a b h0 h1 (by omega), hel, hl, ← e]
    simp [sizeOf, typeInfo, hi, q1, sliced, Result.andThen]
  · have hr : ReadsOf (Value.int .u8) (0 : Int) w (some ad) xs.length xs := Kd.reads_of_C (h1 := fun _ => rfl) h
    have h2 := (hr.take_ b.toNat (by omega)).drop_ (c := c) a.toNat (by omega) (by omega)
    rw [e] at h2
    rw [hl]
    exact Kd.C_of_reads (h1 := fun _ => rfl) h2
/-- The rounds of the scan. -/
def RsR (w0 : World) (F : Hp) (b : List Int) (res : List (List Int) × Int × Bool) (v i : Value) (wr : World) : Prop := ∃ (k at_ : Nat) (acc : List (List Int)) (vs : List Value) (hg hz : Hp), at_ ≤ b.length ∧ i = .int .i64 at_ ∧ 90002 + 2 * (b.length - at_) ≤ k ∧ hourglassref1_Scan.l0 k b acc (at_ : Int) = some res ∧ acc.length ≤ at_ ∧ RowB 23 1 v acc.length vs hg ∧ RowsI acc vs hz ∧ Holds w0 (hg ++ (hz ++ F)) wr
def RsP (w0 : World) (F : Hp) (r1 : List (List Int)) (u : Int) (wh : Bool) (e : Ending) (w' : World) : Prop := ∃ v vs hg hz, e = .returned (.tuple #[v, .int .i64 u, .bool wh]) ∧ RowB 23 1 v r1.length vs hg ∧ RowsI r1 vs hz ∧ Holds w0 (hg ++ (hz ++ F)) w'
theorem wpA {P : Program} {o : Oper} {a : Act} {w w' : World} {K : Act → World → Prop} {Q : Exit → Act → World → Prop} (s x : Operand) {t u : TypeId} {v v1 v' : Value}
    (ho : o.op = .call { callee := .builtin .append, args := #[s, x], argTypes := #[t, u] }) (hz : a.eval s = v) (hx : a.eval x = v1) (hrun : (Builtin.append_ #[t, u] o.type #[v, v1]).run P w = .ok v' w') (hK : K (a.put o.dst v') w') : o.wp P a w K Q := by
  unfold Oper.wp execOp
  simp only [ho, resolve, invoke, builtin, Sem.run_bind, Sem.run_pure, Result.andThen_ok, List.map_toArray, List.map_cons, List.map_nil, hz, hx, hrun]
  exact hK
set_option maxRecDepth 100000 in
set_option maxHeartbeats 1000000 in
theorem rscan_calls (k : Nat) (A0 : Option Addr) (c0 : Nat) (b : List Int) (r1 : List (List Int)) (u : Int) (wh : Bool) (w0 w : World) (F : Hp) (hb : ∀ x ∈ b, 0 ≤ x ∧ x < 256) (hl : b.length ≤ 100000) (hc0 : b.length ≤ c0) (hrd : ∀ w', Holds w0 F w' → Kd.C (Kd.int .u8) w' A0 b.length b)
    (hk : 300000 ≤ k) (h : hourglassref1_Scan.f k b = some (r1, u, wh)) (H : Holds w0 F w) : Calls Try.prog 11 #[.slice A0 b.length c0] w fun e w' => RsP w0 F r1 u wh e w' := by
  have HB := Lib.hid hb; have HRD := Lib.hid hrd; have HF := Lib.hid h; have HH0 := Lib.hid H
  clear hb hrd h H
  go_enter Try.func11, Try.ntmps11
  go_wp2_with fail
  go_loopw [5, 6] (fun v i wr => RsR w0 F b (r1, u, wh) v i wr) (fun _ i _ => b.length - (intOf i).toNat)
  case atStart => exact ⟨k, 0, [], [], [], [], Nat.zero_le _, rfl, by omega, HF.out, Nat.le_refl _, RowB.nil _ _, ⟨rfl, rfl⟩, HH0.out⟩
  case round =>
    clear HF HH0 hk
    obtain ⟨kk, at_, acc, vs, hg, hz, hat, rfl, hkk, hl0, hacc, hRg, hRs, hH⟩ := hrel
    obtain ⟨Ag, cg, rfl, _, _⟩ := RowB.form hRg
    have HRG := Lib.hid hRg; have HRS := Lib.hid hRs; have HH := Lib.hid hH; have HL := Lib.hid hl0
    clear hRg hRs hH hl0
    by_cases hlt : at_ < b.length
    · obtain ⟨k3, rfl⟩ : ∃ n, kk = n + 2 := ⟨kk - 2, by omega⟩
      obtain ⟨i5, z5, hi5, hz5, hs5, _, _⟩ := info5i
      have hC0 := HRD.out _ HH.out.right.right
      obtain ⟨A1, hcut1, hA1, hC1⟩ := print_drop_of (P := Try.prog) (Value.int .u8) (0 : Int) 23 5 .i64 Try.underlying23 hi5 hs5 A0 c0 b (at_ : Int) (by omega) (by omega) hc0
      rw [Int.toNat_natCast] at hcut1 hA1 hC1
      obtain ⟨r, hr⟩ : ∃ r, r = b.drop at_ := ⟨_, rfl⟩
      rw [← hr] at hcut1 hA1 hC1
      obtain ⟨c1, hc1e⟩ : ∃ c1, c1 = c0 - at_ := ⟨_, rfl⟩
      rw [← hc1e] at hcut1 hC1
      have hrl : r.length = b.length - at_ := by rw [hr, List.length_drop]
      have HA1 := Lib.hid (fun w' (H' : Holds w0 F w') => show Kd.C (Kd.int .u8) w' A1 r.length r from Kd.C_of_reads (h1 := fun _ => rfl) (hA1 w' (Kd.reads_of_C (h1 := fun _ => rfl) (HRD.out w' H'))))
      have hcs := Pl.ref_cases b hl HB.out acc (by omega) at_ hlt k3 (by omega) r hr
      obtain ⟨L, hL⟩ : ∃ L, L = r.length := ⟨_, rfl⟩
      rw [← hL] at hcut1
      have HLL := Lib.hid hL; have HR := Lib.hid hr; have HC1 := Lib.hid hC1
      have hLb : 1 ≤ L ∧ L ≤ 100000 := by omega
      have HLAT := Lib.hid (show L = b.length - at_ by omega)
      clear hA1 hC1 hr hc1e hi5 hz5 hs5 hC0 hL
      have hrL : r.length = L := HLL.out.symm
      rcases hcs with ⟨h12, ho⟩ | ⟨h12, n, m, n0, n1, q0, q4, hcs⟩
      · rw [hrL] at h12
        clear hrL hrl
        rw [ho] at HL
        obtain ⟨rfl, rfl, rfl⟩ : acc = r1 ∧ (at_ : Int) = u ∧ false = wh := by have := HL.out; simpa using this
        clear ho HL
        have h12i : (L : Int) < 12 := by omega
        go_wp2_with fail
        exact bodyPost_ret (v := .tuple #[.slice Ag acc.length cg, .int .i64 at_, .bool false]) (by simp [results, Try.results11, go_sem]) rfl ⟨_, vs, hg, hz, rfl, HRG.out, HRS.out, HH.out⟩
      rw [hrL] at h12
      have h12i : ¬ (L : Int) < 12 := by omega
      have HCS := Lib.hid hcs
      clear hcs
      obtain ⟨i5, z5, hi5, hz5, hs5, _, _⟩ := info5i
      obtain ⟨A2, hcut2, hA2, hC2⟩ := print_drop_of (P := Try.prog) (Value.int .u8) (0 : Int) 23 5 .i64 Try.underlying23 hi5 hs5 A1 c1 r 4 (by omega) (by omega) HC1.out
      rw [show (4 : Int).toNat = 4 from rfl] at hcut2 hA2 hC2
      rw [hrL] at hcut2
      obtain ⟨L2, hL2⟩ : ∃ L2, L2 = (r.drop 4).length := ⟨_, rfl⟩
      rw [← hL2] at hcut2
      obtain ⟨c2, hc2e⟩ : ∃ c2, c2 = c1 - 4 := ⟨_, rfl⟩
      rw [← hc2e] at hcut2 hC2
      have HAT := Lib.hid (fun w' (H' : Holds w0 F w') => show Calls Try.prog 19 #[.slice A1 L c1] w' fun e w2 => e = .returned (.int .u32 n) ∧ Drawn0 w' w2 from by
        have := hourglassref1_at32.calls A1 c1 r n w' (HA1.out w' H') HC1.out q0
        rwa [hrL] at this)
      have HAT4 := Lib.hid (fun w' (H' : Holds w0 F w') => show Calls Try.prog 19 #[.slice A2 L2 c2] w' fun e w2 => e = .returned (.int .u32 m) ∧ Drawn0 w' w2 from by
        have := hourglassref1_at32.calls A2 c2 (r.drop 4) m w' (Kd.C_of_reads (h1 := fun _ => rfl) (hA2 w' (Kd.reads_of_C (h1 := fun _ => rfl) (HA1.out w' H')))) hC2 q4
        rwa [← hL2] at this)
      have HRLE := Lib.hid hrL
      clear hA2 hC2 hc2e hL2 hi5 hz5 hs5 q0 q4 hrL hrl
      go_wp2_with fail
      refine (HAT.out _ HH.out.right.right).mono ?_
      rintro e w2 ⟨rfl, hd2⟩
      have HH2 := Lib.hid (HH.out.grow hd2.below)
      clear hd2 HH
      go_wp2_with fail
      refine (HAT4.out _ HH2.out.right.right).mono ?_
      rintro e w3 ⟨rfl, hd3⟩
      have HH := Lib.hid (HH2.out.grow hd3.below)
      clear hd3 HH2 HAT HAT4
      obtain ⟨q, hq⟩ : ∃ q, Go.bits .xor .u32 4294967295 n = q := ⟨_, rfl⟩
      have HCS2 := Lib.hid HCS.out
      clear HCS
      rcases HCS2.out with ⟨hmn, ho⟩ | ⟨hmn, h8, ho⟩ | ⟨hmn, h8, hL12, ho⟩ | ⟨N, hN, hmn, hN8, hNL, hff, hcs2⟩
      · have hmq : m ≠ q := by rw [← hq]; exact hmn
        have hmq1 : (m != q) = true := by rw [bne_iff_ne]; exact hmq
        have hmq2 : (m == q) = false := by rw [beq_eq_false_iff_ne]; exact hmq
        rw [ho] at HL
        obtain ⟨rfl, rfl, rfl⟩ : acc = r1 ∧ (at_ : Int) = u ∧ false = wh := by have := HL.out; simpa using this
        clear ho HL HCS2 hmn hmq
        go_wp2_with fail
        exact bodyPost_ret (v := .tuple #[.slice Ag acc.length cg, .int .i64 at_, .bool false]) (by simp [results, Try.results11, go_sem]) rfl ⟨_, vs, hg, hz, rfl, HRG.out, HRS.out, HH.out⟩
      · have hmq : m = q := by rw [← hq]; exact hmn
        subst hmq
        rw [ho] at HL
        obtain ⟨rfl, rfl, rfl⟩ : acc = r1 ∧ (at_ : Int) = u ∧ false = wh := by have := HL.out; simpa using this
        have hd1 : decide ((8000 : Int) < n) = true := decide_eq_true h8
        clear ho HL HCS2 hmn h8
        go_wp2_with fail
        exact bodyPost_ret (v := .tuple #[.slice Ag acc.length cg, .int .i64 at_, .bool false]) (by simp [results, Try.results11, go_sem]) rfl ⟨_, vs, hg, hz, rfl, HRG.out, HRS.out, HH.out⟩
      · have hmq : m = q := by rw [← hq]; exact hmn
        subst hmq
        rw [ho] at HL
        obtain ⟨rfl, rfl, rfl⟩ : acc = r1 ∧ (at_ : Int) = u ∧ false = wh := by have := HL.out; simpa using this
        rw [HRLE.out] at hL12
        have hd1 : decide ((8000 : Int) < n) = false := decide_eq_false (by omega)
        have hd2 : decide ((L : Int) - 12 < n) = true := decide_eq_true hL12
        clear hL12
        clear ho HL HCS2 hmn
        go_wp2_with fail
        exact bodyPost_ret (v := .tuple #[.slice Ag acc.length cg, .int .i64 at_, .bool false]) (by simp [results, Try.results11, go_sem]) rfl ⟨_, vs, hg, hz, rfl, HRG.out, HRS.out, HH.out⟩
      · have hmq : m = q := by rw [← hq]; exact hmn
        subst hmq
        subst hN
        have hNL2 : N + 12 ≤ L := by rw [← HRLE.out]; exact hNL
        have HFF := Lib.hid hff; have HCS3 := Lib.hid hcs2
        have hd1 : decide ((8000 : Int) < (N : Int)) = false := decide_eq_false (by omega)
        have hd2 : decide ((L : Int) - 12 < (N : Int)) = false := decide_eq_false (by omega)
        obtain ⟨ad1, hA1s, _⟩ := (HA1.out _ HH.out.right.right).2.2 (by rw [HRLE.out]; omega)
        subst hA1s
        obtain ⟨ad3, hcut3, hC3⟩ := mid_some ad1 c1 r 12 (12 + (N : Int)) (by omega) (by omega) (by rw [HRLE.out]; omega) HC1.out
        rw [HRLE.out, show (12 + (N : Int)).toNat = 12 + N by omega, show (12 : Int).toNat = 12 from rfl] at hcut3
        rw [show (12 + (N : Int)).toNat = 12 + N by omega, show (12 : Int).toNat = 12 from rfl] at hC3
        obtain ⟨i5, z5, hi5, hz5, hs5, _, _⟩ := info5i
        obtain ⟨hcut4, hC4, hle4⟩ := print_take_of (P := Try.prog) (Value.int .u8) (0 : Int) 23 5 .i64 Try.underlying23 hi5 hs5 (some ad1) c1 r (12 + (N : Int)) (by omega) (by rw [HRLE.out]; omega) HC1.out
        rw [HRLE.out, show (12 + (N : Int)).toNat = 12 + N by omega] at hcut4
        rw [show (12 + (N : Int)).toNat = 12 + N by omega] at hC4 hle4
        have hrecl : ((r.take (12 + N)).drop 12).length = N := by rw [List.length_drop, List.length_take, HRLE.out]; omega
        obtain ⟨rt, hrt⟩ : ∃ rt, rt = r.take (12 + N) := ⟨_, rfl⟩
        rw [← hrt] at hcut3 hC3 hcut4 hC4 hle4 hrecl HFF HCS3
        obtain ⟨rec, hrec⟩ : ∃ rec, rec = rt.drop 12 := ⟨_, rfl⟩
        rw [← hrec] at hcut3 hC3 hrecl HFF HCS3
        obtain ⟨fq, hfq⟩ : ∃ fq, fq = Pl.fr rec := ⟨_, rfl⟩
        have hfl : fq.length = 12 + N := by rw [hfq, Pl.fr_len, hrecl]
        rw [← hfq] at HFF HCS3
        obtain ⟨nr, hnr⟩ : ∃ nr, nr = rec.length := ⟨_, rfl⟩
        rw [← hnr] at hcut3
        obtain ⟨LT, hLT⟩ : ∃ LT, LT = rt.length := ⟨_, rfl⟩
        rw [← hLT] at hcut4
        obtain ⟨c3, hc3⟩ : ∃ c3, c3 = c1 - 12 := ⟨_, rfl⟩
        rw [← hc3] at hcut3
        have HC3 := Lib.hid (fun w' (H' : Holds w0 F w') => hC3 w' (HA1.out w' H'))
        have HC4 := Lib.hid (fun w' (H' : Holds w0 F w') => show Kd.C (Kd.int .u8) w' (some ad1) rt.length rt from Kd.C_of_reads (h1 := fun _ => rfl) (hC4 w' (Kd.reads_of_C (h1 := fun _ => rfl) (HA1.out w' H'))))
        have Ha := HH.out.alloc (.cells #[] 5)
        obtain ⟨v4, h4, w4, r4, R4, H4⟩ := bytes_append (RowB.lit (e := 5) (sz := 1) HH.out #[] 0 (Nat.zero_le _) rfl) Ha 23 (some ad3) nr c3 (iv rec) (by intro x hx; obtain ⟨y, _, rfl⟩ := List.mem_map.mp hx; rfl) (fun h => by cases h) (by rw [hnr]; exact C_reads (HC3.out _ Ha.tail.right.right)) (by omega)
        have R4' : RowB 5 1 v4 rec.length (iv rec) h4 := by rw [← hnr]; simpa using R4
        obtain ⟨A4, c4, rfl, _, _⟩ := RowB.form R4'
        rw [← hnr] at r4
        obtain ⟨s1, hs1⟩ : ∃ s1, s1 = strOfNums fq := ⟨_, rfl⟩
        obtain ⟨s2, hs2⟩ : ∃ s2, s2 = strOfNums rt := ⟨_, rfl⟩
        rw [← hs1, ← hs2] at HCS3
        have HS1 := Lib.hid hs1; have HS2 := Lib.hid hs2; have HR4 := Lib.hid R4'; have HH4 := Lib.hid H4; have Hr4 := Lib.hid r4; have HRECL := Lib.hid hrecl; have HNR := Lib.hid hnr; have HLT := Lib.hid hLT; have HFL := Lib.hid hfl
        clear hcs2 HCS2 hff hmn hNL hs1 hs2 R4 R4' H4 r4 hrecl hnr hLT hfl hfq hrec hrt hi5 hz5 hs5 hC3 hC4 hle4 hc3 Ha HH
        go_wp2_with ((with_reducible refine apL (.tmp 44) (.tmp 49) ?_ ?_ Hr4.out ?_); rfl; rfl)
        have hwN : IntKind.i64.wrap (N : Int) = N := by rw [IntKind.wrap_i64]; omega
        have hwN2 : IntKind.i64.wrap (12 + (N : Int)) = 12 + N := by rw [IntKind.wrap_i64]; omega
        rcases HCS3.out with ⟨hne, ho⟩ | ⟨heq, ho⟩
        · rw [ho] at HL
          obtain ⟨rfl, rfl, rfl⟩ : acc = r1 ∧ (at_ : Int) = u ∧ false = wh := by have := HL.out; simpa using this
          have hne1 : (s1.toList == s2.toList) = false := by rw [beq_eq_false_iff_ne]; exact fun e => hne (Pl.ba_inj e)
          clear ho HL HCS3
          refine wp_region_own 10 (fun k => match k with | 2 => [1] | _ => []) (by kernel_rfl) (by kernel_rfl) (by kernel_rfl) (by kernel_rfl) (Nat.le_of_ble_eq_true (by kernel_rfl)) w0 (fun Ls hs => hs = (h4 ++ (hg ++ (hz ++ F)))) (fun i v h => match i with | 0 => v = .slice A4 nr c4 ∧ h = [] | 1 => RowB 5 1 v fq.length (iv fq) h | 2 => v = .string s1 ∧ h = [] | 3 => v = .slice (some ad1) L c1 ∧ h = [] | 4 => v = .int .u32 (N : Nat) ∧ h = [] | 5 => v = .int .i64 (N : Nat) ∧ h = [] | 6 => v = .int .i64 (12 + (N : Nat)) ∧ h = [] | 7 => v = .slice (some ad1) LT c1 ∧ h = [] | 8 => v = .string s2 ∧ h = [] | 9 => v = .bool true ∧ h = [] | _ => True) ((h4 ++ (hg ++ (hz ++ F)))) (rfl) (HH4.out.drew) ?_ ?_
          · intro i o hi ho Ls f Hf hs R w1 hI hL hd hH
            simp only [fill, List.take_succ_cons, List.take_zero, Act.put, List.setIfInBounds_toArray, List.set_cons_zero, List.set_cons_succ]
            match i, hi with
            | 0, _ =>
              obtain rfl := Option.some.inj ho
              clear hd ho
              have hH : Holds w0 (hs ++ ([] ++ R)) w1 := hH
              subst hI
              unfold wpOp
              refine Or.inl ?_
              unfold Oper.wp
              go_simp
              exact OwnBy.mk _ _ _ rfl (rfl) (⟨rfl, rfl⟩) (hH)
            | 1, _ =>
              obtain rfl := Option.some.inj ho
              have e0 : f 0 = .slice A4 nr c4 := (hd ⟨0, .data⟩ (by simp) rfl).2.1
              clear hd ho
              have hH : Holds w0 (hs ++ ([] ++ R)) w1 := hH
              subst hI
              unfold wpOp
              refine Or.inl ?_
              simp only [e0]
              unfold Oper.wp
              go_simp
              have hrc := row_C (A := A4) (n := rec.length) (c := c4) HR4.out (hH.perm (k := h4 ++ ((hg ++ (hz ++ F)) ++ R)) (by classical rw [List.perm_iff_count]; intro a; simp only [List.count_append, List.count_cons, List.count_nil]; omega)) (by rw [HRECL.out]; omega)
              rw [HNR.out]
              refine (hourglassref1_Frame.calls k3 A4 c4 rec fq w1 hrc.2.2 hrc.2.1 HFF.out).mono ?_
              rintro e w3 ⟨v5, rfl, hR5, hb5⟩
              obtain ⟨hv5, R5, H5⟩ := R_row hR5 hH hb5
              exact OwnBy.mk _ hv5 _ rfl rfl R5 (H5.perm (by classical rw [List.perm_iff_count]; intro a; simp only [List.count_append, List.count_cons, List.count_nil]; omega))
            | 2, _ =>
              obtain rfl := Option.some.inj ho
              have e1 := (hd ⟨1, .data⟩ (by simp) rfl).2
              clear hd ho
              have hH : Holds w0 (hs ++ ((Hf 1 ++ ([])) ++ R)) w1 := hH
              simp only [List.append_nil, List.append_assoc] at hH
              subst hI
              unfold wpOp
              refine Or.inl ?_
              unfold Oper.wp
              obtain ⟨A5, c5, hf5, _, _⟩ := RowB.form e1
              rw [hf5] at e1
              rw [hf5]
              have hrc := row_C (A := A5) (n := fq.length) (c := c5) e1 (hH.perm (k := Hf 1 ++ ((h4 ++ (hg ++ (hz ++ F))) ++ R)) (by classical rw [List.perm_iff_count]; intro a; simp only [List.count_append, List.count_cons, List.count_nil]; omega)) (by rw [HFL.out]; omega)
              have q := Kd.C_string (P := Try.prog) (n := fq.length) (c := c5) Try.underlying23 Try.underlying5 Try.underlying9 hrc.2.2
              rw [← HS1.out] at q
              go_simp
              exact OwnBy.mk _ [] _ rfl rfl ⟨rfl, rfl⟩ ((hH.perm (k := Hf 1 ++ ((h4 ++ (hg ++ (hz ++ F))) ++ ([] ++ R))) (by classical rw [List.perm_iff_count]; intro a; simp only [List.count_append, List.count_cons, List.count_nil]; omega)).right)
            | 3, _ =>
              obtain rfl := Option.some.inj ho
              clear hd ho
              have hH : Holds w0 (hs ++ ([] ++ R)) w1 := hH
              subst hI
              unfold wpOp
              refine Or.inl ?_
              unfold Oper.wp
              go_simp
              exact OwnBy.mk _ _ _ rfl (rfl) (⟨rfl, rfl⟩) (hH)
            | 4, _ =>
              obtain rfl := Option.some.inj ho
              clear hd ho
              have hH : Holds w0 (hs ++ ([] ++ R)) w1 := hH
              subst hI
              unfold wpOp
              refine Or.inl ?_
              unfold Oper.wp
              go_simp
              exact OwnBy.mk _ _ _ rfl (rfl) (⟨rfl, rfl⟩) (hH)
            | 5, _ =>
              obtain rfl := Option.some.inj ho
              have e4 : f 4 = .int .u32 (N : Nat) := (hd ⟨4, .data⟩ (by simp) rfl).2.1
              clear hd ho
              have hH : Holds w0 (hs ++ ([] ++ R)) w1 := hH
              subst hI
              unfold wpOp
              refine Or.inl ?_
              simp only [e4]
              unfold Oper.wp
              go_simp
              exact OwnBy.mk _ _ _ rfl (rfl) (⟨rfl, rfl⟩) (hH)
            | 6, _ =>
              obtain rfl := Option.some.inj ho
              have e5 : f 5 = .int .i64 (N : Nat) := (hd ⟨5, .data⟩ (by simp) rfl).2.1
              clear hd ho
              have hH : Holds w0 (hs ++ ([] ++ R)) w1 := hH
              subst hI
              unfold wpOp
              refine Or.inl ?_
              simp only [e5]
              unfold Oper.wp
              go_simp
              exact OwnBy.mk _ _ _ rfl (rfl) (⟨rfl, rfl⟩) (hH)
            | 7, _ =>
              obtain rfl := Option.some.inj ho
              have e3 : f 3 = .slice (some ad1) L c1 := (hd ⟨3, .data⟩ (by simp) rfl).2.1
              have e6 : f 6 = .int .i64 (12 + (N : Nat)) := (hd ⟨6, .data⟩ (by simp) rfl).2.1
              clear hd ho
              have hH : Holds w0 (hs ++ ([] ++ R)) w1 := hH
              subst hI
              unfold wpOp
              refine Or.inl ?_
              simp only [e3, e6]
              unfold Oper.wp
              go_simp
              exact OwnBy.mk _ _ _ rfl (rfl) (⟨rfl, rfl⟩) (hH)
            | 8, _ =>
              obtain rfl := Option.some.inj ho
              have e7 : f 7 = .slice (some ad1) LT c1 := (hd ⟨7, .data⟩ (by simp) rfl).2.1
              clear hd ho
              have hH : Holds w0 (hs ++ ([] ++ R)) w1 := hH
              subst hI
              unfold wpOp
              refine Or.inl ?_
              simp only [e7]
              unfold Oper.wp
              have hF := (hH.perm (k := F ++ ((h4 ++ (hg ++ hz)) ++ R)) (by classical rw [List.perm_iff_count]; intro a; simp only [List.count_append, List.count_cons, List.count_nil]; omega)).left
              have q := Kd.C_string (P := Try.prog) (n := rt.length) (c := c1) Try.underlying23 Try.underlying5 Try.underlying9 (HC4.out w1 hF)
              rw [← HS2.out, ← HLT.out] at q
              go_simp
              exact OwnBy.mk _ _ _ rfl (rfl) (⟨rfl, rfl⟩) (hH)
            | 9, _ =>
              obtain rfl := Option.some.inj ho
              have e2 : f 2 = .string s1 := (hd ⟨2, .data⟩ (by simp) rfl).2.1
              have e8 : f 8 = .string s2 := (hd ⟨8, .data⟩ (by simp) rfl).2.1
              clear hd ho
              have hH : Holds w0 (hs ++ ([] ++ R)) w1 := hH
              subst hI
              unfold wpOp
              refine Or.inl ?_
              simp only [e2, e8]
              unfold Oper.wp
              go_simp
              exact OwnBy.mk _ _ _ rfl (rfl) (⟨rfl, rfl⟩) (hH)
          · intro Ls f Hf hs w1 hI hL hV hH
            have e0 : f 0 = .slice A4 nr c4 := (hV 0 (by decide)).1
            have e1 := hV 1 (by decide)
            have e2 : f 2 = .string s1 := (hV 2 (by decide)).1
            have e3 : f 3 = .slice (some ad1) L c1 := (hV 3 (by decide)).1
            have e4 : f 4 = .int .u32 (N : Nat) := (hV 4 (by decide)).1
            have e5 : f 5 = .int .i64 (N : Nat) := (hV 5 (by decide)).1
            have e6 : f 6 = .int .i64 (12 + (N : Nat)) := (hV 6 (by decide)).1
            have e7 : f 7 = .slice (some ad1) LT c1 := (hV 7 (by decide)).1
            have e8 : f 8 = .string s2 := (hV 8 (by decide)).1
            have e9 : f 9 = .bool true := (hV 9 (by decide)).1
            clear hV
            have hH : Holds w0 (hs ++ []) w1 := hH
            simp only [fill, List.take_succ_cons, List.take_zero, List.drop_succ_cons, List.drop_zero, Act.put, List.setIfInBounds_toArray, List.set_cons_zero, List.set_cons_succ, e0, e2, e3, e4, e5, e6, e7, e8, e9]
            subst hI
            have HHX := Lib.hid (show Holds w0 (h4 ++ (hg ++ (hz ++ F))) w1 from by simpa using hH)
            clear hH hL
            go_wp2_with fail
            exact bodyPost_ret (v := .tuple #[.slice Ag acc.length cg, .int .i64 at_, .bool false]) (by simp [results, Try.results11, go_sem]) rfl ⟨_, vs, hg, hz, rfl, HRG.out, HRS.out, HHX.out.right⟩
        · subst heq
          have HO := Lib.hid ho
          clear ho HCS3
          refine wp_region_own 10 (fun k => match k with | 2 => [1] | _ => []) (by kernel_rfl) (by kernel_rfl) (by kernel_rfl) (by kernel_rfl) (Nat.le_of_ble_eq_true (by kernel_rfl)) w0 (fun Ls hs => hs = (h4 ++ (hg ++ (hz ++ F)))) (fun i v h => match i with | 0 => v = .slice A4 nr c4 ∧ h = [] | 1 => RowB 5 1 v fq.length (iv fq) h | 2 => v = .string s1 ∧ h = [] | 3 => v = .slice (some ad1) L c1 ∧ h = [] | 4 => v = .int .u32 (N : Nat) ∧ h = [] | 5 => v = .int .i64 (N : Nat) ∧ h = [] | 6 => v = .int .i64 (12 + (N : Nat)) ∧ h = [] | 7 => v = .slice (some ad1) LT c1 ∧ h = [] | 8 => v = .string s1 ∧ h = [] | 9 => v = .bool false ∧ h = [] | _ => True) ((h4 ++ (hg ++ (hz ++ F)))) (rfl) (HH4.out.drew) ?_ ?_
          · intro i o hi ho Ls f Hf hs R w1 hI hL hd hH
            simp only [fill, List.take_succ_cons, List.take_zero, Act.put, List.setIfInBounds_toArray, List.set_cons_zero, List.set_cons_succ]
            match i, hi with
            | 0, _ =>
              obtain rfl := Option.some.inj ho
              clear hd ho
              have hH : Holds w0 (hs ++ ([] ++ R)) w1 := hH
              subst hI
              unfold wpOp
              refine Or.inl ?_
              unfold Oper.wp
              go_simp
              exact OwnBy.mk _ _ _ rfl (rfl) (⟨rfl, rfl⟩) (hH)
            | 1, _ =>
              obtain rfl := Option.some.inj ho
              have e0 : f 0 = .slice A4 nr c4 := (hd ⟨0, .data⟩ (by simp) rfl).2.1
              clear hd ho
              have hH : Holds w0 (hs ++ ([] ++ R)) w1 := hH
              subst hI
              unfold wpOp
              refine Or.inl ?_
              simp only [e0]
              unfold Oper.wp
              go_simp
              have hrc := row_C (A := A4) (n := rec.length) (c := c4) HR4.out (hH.perm (k := h4 ++ ((hg ++ (hz ++ F)) ++ R)) (by classical rw [List.perm_iff_count]; intro a; simp only [List.count_append, List.count_cons, List.count_nil]; omega)) (by rw [HRECL.out]; omega)
              rw [HNR.out]
              refine (hourglassref1_Frame.calls k3 A4 c4 rec fq w1 hrc.2.2 hrc.2.1 HFF.out).mono ?_
              rintro e w3 ⟨v5, rfl, hR5, hb5⟩
              obtain ⟨hv5, R5, H5⟩ := R_row hR5 hH hb5
              exact OwnBy.mk _ hv5 _ rfl rfl R5 (H5.perm (by classical rw [List.perm_iff_count]; intro a; simp only [List.count_append, List.count_cons, List.count_nil]; omega))
            | 2, _ =>
              obtain rfl := Option.some.inj ho
              have e1 := (hd ⟨1, .data⟩ (by simp) rfl).2
              clear hd ho
              have hH : Holds w0 (hs ++ ((Hf 1 ++ ([])) ++ R)) w1 := hH
              simp only [List.append_nil, List.append_assoc] at hH
              subst hI
              unfold wpOp
              refine Or.inl ?_
              unfold Oper.wp
              obtain ⟨A5, c5, hf5, _, _⟩ := RowB.form e1
              rw [hf5] at e1
              rw [hf5]
              have hrc := row_C (A := A5) (n := fq.length) (c := c5) e1 (hH.perm (k := Hf 1 ++ ((h4 ++ (hg ++ (hz ++ F))) ++ R)) (by classical rw [List.perm_iff_count]; intro a; simp only [List.count_append, List.count_cons, List.count_nil]; omega)) (by rw [HFL.out]; omega)
              have q := Kd.C_string (P := Try.prog) (n := fq.length) (c := c5) Try.underlying23 Try.underlying5 Try.underlying9 hrc.2.2
              rw [← HS1.out] at q
              go_simp
              exact OwnBy.mk _ [] _ rfl rfl ⟨rfl, rfl⟩ ((hH.perm (k := Hf 1 ++ ((h4 ++ (hg ++ (hz ++ F))) ++ ([] ++ R))) (by classical rw [List.perm_iff_count]; intro a; simp only [List.count_append, List.count_cons, List.count_nil]; omega)).right)
            | 3, _ =>
              obtain rfl := Option.some.inj ho
              clear hd ho
              have hH : Holds w0 (hs ++ ([] ++ R)) w1 := hH
              subst hI
              unfold wpOp
              refine Or.inl ?_
              unfold Oper.wp
              go_simp
              exact OwnBy.mk _ _ _ rfl (rfl) (⟨rfl, rfl⟩) (hH)
            | 4, _ =>
              obtain rfl := Option.some.inj ho
              clear hd ho
              have hH : Holds w0 (hs ++ ([] ++ R)) w1 := hH
              subst hI
              unfold wpOp
              refine Or.inl ?_
              unfold Oper.wp
              go_simp
              exact OwnBy.mk _ _ _ rfl (rfl) (⟨rfl, rfl⟩) (hH)
            | 5, _ =>
              obtain rfl := Option.some.inj ho
              have e4 : f 4 = .int .u32 (N : Nat) := (hd ⟨4, .data⟩ (by simp) rfl).2.1
              clear hd ho
              have hH : Holds w0 (hs ++ ([] ++ R)) w1 := hH
              subst hI
              unfold wpOp
              refine Or.inl ?_
              simp only [e4]
              unfold Oper.wp
              go_simp
              exact OwnBy.mk _ _ _ rfl (rfl) (⟨rfl, rfl⟩) (hH)
            | 6, _ =>
              obtain rfl := Option.some.inj ho
              have e5 : f 5 = .int .i64 (N : Nat) := (hd ⟨5, .data⟩ (by simp) rfl).2.1
              clear hd ho
              have hH : Holds w0 (hs ++ ([] ++ R)) w1 := hH
              subst hI
              unfold wpOp
              refine Or.inl ?_
              simp only [e5]
              unfold Oper.wp
              go_simp
              exact OwnBy.mk _ _ _ rfl (rfl) (⟨rfl, rfl⟩) (hH)
            | 7, _ =>
              obtain rfl := Option.some.inj ho
              have e3 : f 3 = .slice (some ad1) L c1 := (hd ⟨3, .data⟩ (by simp) rfl).2.1
              have e6 : f 6 = .int .i64 (12 + (N : Nat)) := (hd ⟨6, .data⟩ (by simp) rfl).2.1
              clear hd ho
              have hH : Holds w0 (hs ++ ([] ++ R)) w1 := hH
              subst hI
              unfold wpOp
              refine Or.inl ?_
              simp only [e3, e6]
              unfold Oper.wp
              go_simp
              exact OwnBy.mk _ _ _ rfl (rfl) (⟨rfl, rfl⟩) (hH)
            | 8, _ =>
              obtain rfl := Option.some.inj ho
              have e7 : f 7 = .slice (some ad1) LT c1 := (hd ⟨7, .data⟩ (by simp) rfl).2.1
              clear hd ho
              have hH : Holds w0 (hs ++ ([] ++ R)) w1 := hH
              subst hI
              unfold wpOp
              refine Or.inl ?_
              simp only [e7]
              unfold Oper.wp
              have hF := (hH.perm (k := F ++ ((h4 ++ (hg ++ hz)) ++ R)) (by classical rw [List.perm_iff_count]; intro a; simp only [List.count_append, List.count_cons, List.count_nil]; omega)).left
              have q := Kd.C_string (P := Try.prog) (n := rt.length) (c := c1) Try.underlying23 Try.underlying5 Try.underlying9 (HC4.out w1 hF)
              rw [← HS2.out, ← HLT.out] at q
              go_simp
              exact OwnBy.mk _ _ _ rfl (rfl) (⟨rfl, rfl⟩) (hH)
            | 9, _ =>
              obtain rfl := Option.some.inj ho
              have e2 : f 2 = .string s1 := (hd ⟨2, .data⟩ (by simp) rfl).2.1
              have e8 : f 8 = .string s1 := (hd ⟨8, .data⟩ (by simp) rfl).2.1
              clear hd ho
              have hH : Holds w0 (hs ++ ([] ++ R)) w1 := hH
              subst hI
              unfold wpOp
              refine Or.inl ?_
              simp only [e2, e8]
              unfold Oper.wp
              go_simp
              exact OwnBy.mk _ _ _ rfl (rfl) (⟨rfl, rfl⟩) (hH)
          · intro Ls f Hf hs w1 hI hL hV hH
            have e0 : f 0 = .slice A4 nr c4 := (hV 0 (by decide)).1
            have e1 := hV 1 (by decide)
            have e2 : f 2 = .string s1 := (hV 2 (by decide)).1
            have e3 : f 3 = .slice (some ad1) L c1 := (hV 3 (by decide)).1
            have e4 : f 4 = .int .u32 (N : Nat) := (hV 4 (by decide)).1
            have e5 : f 5 = .int .i64 (N : Nat) := (hV 5 (by decide)).1
            have e6 : f 6 = .int .i64 (12 + (N : Nat)) := (hV 6 (by decide)).1
            have e7 : f 7 = .slice (some ad1) LT c1 := (hV 7 (by decide)).1
            have e8 : f 8 = .string s1 := (hV 8 (by decide)).1
            have e9 : f 9 = .bool false := (hV 9 (by decide)).1
            clear hV
            have hH : Holds w0 (hs ++ []) w1 := hH
            simp only [fill, List.take_succ_cons, List.take_zero, List.drop_succ_cons, List.drop_zero, Act.put, List.setIfInBounds_toArray, List.set_cons_zero, List.set_cons_succ, e0, e2, e3, e4, e5, e6, e7, e8, e9]
            subst hI
            have HHX := Lib.hid (show Holds w0 (h4 ++ (hg ++ (hz ++ F))) w1 from by simpa using hH)
            clear hH hL
            have Hb := HHX.out.alloc (.cells #[.slice A4 nr c4] 23)
            obtain ⟨v6, h6, w6, r6, R6, H6⟩ := rec_append HRG.out (Hb.perm (k := hg ++ ((w1.heap.size, .cells #[.slice A4 nr c4] 23 (0, 0)) :: (h4 ++ (hz ++ F)))) (by classical rw [List.perm_iff_count]; intro a; simp only [List.count_append, List.count_cons, List.count_nil]; omega)) 27 w1.heap.size (.slice A4 nr c4) rfl Hb.get (by omega)
            have HR6 := Lib.hid R6; have Hr6 := Lib.hid r6
            have HH6 := Lib.hid (show Holds w0 (h6 ++ ((hz ++ h4) ++ F)) w6 from (H6.perm (k := (w1.heap.size, .cells #[.slice A4 nr c4] 23 (0, 0)) :: (h6 ++ ((hz ++ h4) ++ F))) (by classical rw [List.perm_iff_count]; intro a; simp only [List.count_append, List.count_cons, List.count_nil]; omega)).tail)
            clear Hb R6 r6 H6
            go_wp2_with ((with_reducible refine apL (.tmp 63) (.tmp 65) ?_ ?_ Hr6.out ?_); rfl; rfl)
            refine ⟨⟨k3, at_ + 12 + N, acc ++ [rec], vs ++ [.slice A4 nr c4], h6, hz ++ h4, by have := HLAT.out; omega, by simp [Int.natCast_add], by have := HLAT.out; omega, by rw [← HO.out]; exact HL.out, by rw [List.length_append]; simp; omega, by rw [List.length_append]; exact HR6.out, HRS.out.snoc (by have := HR4.out; rw [← HNR.out] at this ⊢; exact this), HH6.out⟩, by simp [intOf]; have := HLAT.out; omega⟩
    · rw [show at_ = b.length by omega] at HL
      obtain ⟨k3, rfl⟩ : ∃ n, kk = n + 1 := ⟨kk - 1, by omega⟩
      have hfin := HL.out
      simp only [hourglassref1_Scan.l0] at hfin
      rw [if_neg (by omega)] at hfin
      obtain ⟨rfl, rfl, rfl⟩ : acc = r1 ∧ (b.length : Int) = u ∧ true = wh := by simpa using hfin
      have hatb : at_ = b.length := by omega
      subst hatb
      clear hfin HL
      go_wp2_with fail
      exact bodyPost_ret (v := .tuple #[.slice Ag acc.length cg, .int .i64 b.length, .bool true]) (by simp [results, Try.results11, go_sem]) rfl ⟨_, vs, hg, hz, rfl, HRG.out, HRS.out, HH.out⟩
end Go.Proofs.Ytacbaiflblngfaa
