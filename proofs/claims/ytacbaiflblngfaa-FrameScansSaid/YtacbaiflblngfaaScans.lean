/- FrameScans' walk. No condition. -/
import Derived.Test.YtacbaiflblngfaaSr
import Derived.Test.YtacbaiflblngfaaOpenB
import Derived.Test.YtacbaiflblngfaaQFramex5
namespace Go.Proofs.Ytacbaiflblngfaa
open Go.ChangeShapes Go.WideShapes Go.ChangeAt Go.RowKit Go.Proofs.Ytacbaiflblngfaa.Sp Go.Proofs.Ytacbaiflblngfaa.QFrame Go.Proofs.YtacbaiflblngfaaW.PrintWords
set_option linter.unusedVariables false
set_option linter.unusedSimpArgs false
def IsByt (W : World) (A : Option Addr) (c : Nat) (l : List Int) : Prop := Kd.C (Kd.int .u8) W A l.length l ∧ l.length ≤ c ∧ ∀ n ∈ l, 0 ≤ n ∧ n < 256
theorem open_byt {H : Type} {enc : TypeId × Value → H} {W : World} {r : Reach} {b0 base : Nat} {held : Bool} {v : Value} {d : DataW H} {p : List MemPlace}
    (hv : Value.okWide Try.prog W r b0 23 v) (h : DataW.Trod enc Try.prog W base (fun _ => true) held 23 v d p) :
    ∃ x : Option Addr × Nat × List Int, v = .slice x.1 x.2.2.length x.2.1 ∧ IsByt W x.1 x.2.1 x.2.2 := by
  obtain ⟨a, len, cap, rfl⟩ := okWide_slice Try.underlying23 hv
  obtain ⟨fuel, hf⟩ := h
  rcases open_ints Try.underlying23 Try.underlying5 cells5 hf with ⟨hcs, _⟩ | ⟨ad, n, c, zs, hcs, _, hl, hm, hz, _, hc, hw⟩
  · simp [Value.cells] at hcs
    obtain ⟨rfl, rfl, rfl⟩ := hcs
    exact ⟨(none, 0, []), rfl, ⟨rfl, by decide, fun h => absurd h (by decide)⟩, Nat.le_refl _, by simp⟩
  · simp [Value.cells] at hcs
    obtain ⟨rfl, rfl, rfl⟩ := hcs
    unfold maxLen at hm
    have hz2 : zs.length = cap := hz
    have e : (zs.take len).length = len := by rw [List.length_take]; omega
    refine ⟨(some ad, cap, zs.take len), by simp [e], ⟨rfl, (show (zs.take len).length ≤ _ by omega), fun _ => ⟨ad, rfl, fun j q hj => ⟨[.int .u8 q], rfl, rfl, fun i u hu => ?_⟩⟩⟩, (show (zs.take len).length ≤ cap by omega), fun n hn => ?_⟩
    · have hi : i = 0 := by
        rcases i with _ | i
        · rfl
        · simp at hu
      subst hi
      obtain rfl := Option.some.inj hu
      rw [List.getElem?_take] at hj
      split at hj
      · rename_i hjl
        have := hc j (by omega)
        rw [List.getD_eq_getElem?_getD, hj] at this
        show W.cell? (ad.add (j * 1 + 0)) = _
        rw [Nat.mul_one, Nat.add_zero]
        exact this
      · cases hj
    · have := bounds_u8 (hw n (List.mem_of_mem_take hn))
      omega
theorem awake_all (w : World) : Calls Try.prog 7 #[] w fun e w' => e = .returned (.bool true) ∧ Below w.heap.size w w' := hourglasslaw3_awake.calls 200 true w Pl.awake_200
/-- Rows of one's own, as they are read. -/
theorem rowsI_C {w0 w : World} {F hg hz : Hp} {A : Option Addr} {n c : Nat} {rs : List (List Int)} {vs : List Value} (R : RowB 23 1 (.slice A n c) rs.length vs hg) (RS : RowsI rs vs hz) (H : Holds w0 (hg ++ (hz ++ F)) w) (hl : rs.length ≤ 1000000) : n = rs.length ∧ rs.length ≤ c ∧ Kd.C (Kd.slice 5 (Kd.int .u8)) w A rs.length rs := by
  obtain ⟨A', c', e, h1, h2, h3⟩ := R.reads H
  injection e with e1 e2 e3
  subst e1; subst e3
  have key : ∀ (rs : List (List Int)) (vs : List Value) (hz F : Hp), RowsI rs vs hz → Holds w0 (hz ++ F) w → ∀ (j : Nat) (p : List Int), rs[j]? = some p → ∃ Aj cj, vs[j]? = some (Value.slice Aj p.length cj) ∧ p.length ≤ cj ∧ Kd.C (Kd.int .u8) w Aj p.length p := by
    intro rs
    induction rs with
    | nil => intro vs hz F _ _ j p hj; simp at hj
    | cons r rs ih =>
      intro vs hz F h H j p hj
      obtain ⟨v, vs', q1, q2, R1, RS1, rfl, rfl⟩ := h
      have H2 : Holds w0 (q1 ++ (q2 ++ F)) w := by rw [← List.append_assoc]; exact H
      cases j with
      | zero =>
        obtain rfl : r = p := by simpa using hj
        have hcm : ∃ Av cv, v = .slice Av r.length cv ∧ r.length ≤ maxLen := by
          rcases R1.2 with ⟨q, z, _⟩ | ⟨g, cap, cur, q, _, a1, a2, _⟩
          · exact ⟨none, 0, by rw [q, z], by rw [z]; decide⟩
          · exact ⟨_, cap, q, by omega⟩
        obtain ⟨Av, cv, rfl, hm⟩ := hcm
        obtain ⟨_, g2, g3⟩ := row_C R1 H2 (by unfold maxLen at hm; exact hm)
        exact ⟨Av, cv, rfl, g2, g3⟩
      | succ j => exact ih vs' q2 F RS1 H2.right j p (by simpa using hj)
  refine ⟨e2, h1, rfl, by omega, fun h0 => ?_⟩
  cases A with
  | none => have := h3.2.1 rfl; omega
  | some ad =>
    refine ⟨ad, rfl, fun j p hp => ?_⟩
    obtain ⟨Aj, cj, f1, f2, f3⟩ := key rs vs hz F RS H.right j p hp
    refine ⟨[.slice Aj p.length cj], rfl, ⟨Aj, cj, rfl, f2, f3⟩, fun i u hu => ?_⟩
    have hi : i = 0 := by
      rcases i with _ | i
      · rfl
      · simp at hu
    subst hi
    obtain rfl := Option.some.inj hu
    show w.cell? (ad.add (j * 1 + 0)) = _
    rw [Nat.mul_one, Nat.add_zero]
    exact h3.2.2 ad rfl j _ f1
theorem fr_range (r : List Int) (hr : ∀ x ∈ r, 0 ≤ x ∧ x < 256) : ∀ x ∈ Pl.fr r, 0 ≤ x ∧ x < 256 := by
  have hw : ∀ v : Int, ∀ x ∈ Pl.W4 v, 0 ≤ x ∧ x < 256 := by
    intro v x hx
    simp only [Pl.W4, List.mem_cons, List.not_mem_nil, or_false] at hx
    omega
  intro x hx
  simp only [Pl.fr, Pl.hd, List.mem_append] at hx
  rcases hx with ((hx | hx) | hx) | hx
  · exact hw _ x hx
  · exact hw _ x hx
  · exact hw _ x hx
  · exact hr x hx
theorem frs_range (l : List (List Int)) (h : ∀ r ∈ l, ∀ x ∈ r, 0 ≤ x ∧ x < 256) : ∀ x ∈ Pl.frs l, 0 ≤ x ∧ x < 256 := by
  intro x hx
  unfold Pl.frs at hx
  obtain ⟨q, hq, hxq⟩ := List.mem_flatten.mp hx
  obtain ⟨r, hr, rfl⟩ := List.mem_map.mp hq
  exact fr_range r (h r hr) x hxq
theorem frs_le (l : List (List Int)) (h : ∀ r ∈ l, r.length ≤ 200) : (Pl.frs l).length ≤ 212 * l.length := by
  induction l with
  | nil => simp [Pl.frs]
  | cons r l ih =>
    have h1 := ih (fun x hx => h x (by simp [hx]))
    have h2 := h r (by simp)
    rw [Pl.frs_cons, List.length_append, Pl.fr_len, List.length_cons]
    omega
theorem take_snoc {α : Type} (l : List α) (k : Nat) (r : α) (h : l[k]? = some r) : l.take (k + 1) = l.take k ++ [r] := by rw [List.take_add_one, h]; rfl
theorem frs_snoc (l : List (List Int)) (r : List Int) : Pl.frs (l ++ [r]) = Pl.frs l ++ Pl.fr r := by simp [Pl.frs]
theorem add_nums (a b : List Int) (ha : a.length ≤ 100000) (hb : b.length ≤ 100000) {sA sB sC : ByteArray} (hA : strOfNums a = sA) (hB : strOfNums b = sB) (hC : strOfNums (a ++ b) = sC) (w : World) : (Op.stringOp .add sA sB).run Try.prog w = .ok (.string sC) w := by
  subst hA hB hC
  have := run_string_add_lists (P := Try.prog) w (a.map fun n => UInt8.ofNat n.toNat) (b.map fun n => UInt8.ofNat n.toNat) (by rw [List.length_map]; omega) (by rw [List.length_map]; omega)
  unfold strOfNums
  rw [List.map_append]
  exact this
theorem info23s : (Try.prog.info? 23).map (·.size) = some 1 := by kernel_rfl
theorem ix0 (u v : Value) (w : World) : (Instr.index 31 (.agg #[u, v]) (.int .i64 0)).run Try.prog w = .ok u w := by
  have h := Try.underlying31
  obtain ⟨i, hi, hs⟩ := Option.map_eq_some_iff.mp info23s
  simp [Instr.index, run_underlying h, asIntOf, go_sem, sizeOf, typeInfo, hi, hs]
theorem ix1 (u v : Value) (w : World) : (Instr.index 31 (.agg #[u, v]) (.int .i64 1)).run Try.prog w = .ok v w := by
  have h := Try.underlying31
  obtain ⟨i, hi, hs⟩ := Option.map_eq_some_iff.mp info23s
  simp [Instr.index, run_underlying h, asIntOf, go_sem, sizeOf, typeInfo, hi, hs]
/-- A row that is written into. -/
theorem row_put {A : Option Addr} {n c : Nat} {r : List Int} {h : Hp} (R : RowB 5 1 (.slice A n c) n (iv r) h) (hn : 0 < n) : ∃ g cur, A = some ⟨g, 0, none⟩ ∧ h = [(g, .cells cur 5 (0, 0))] ∧ n ≤ cur.size ∧
    (∀ a x, r[a]? = some x → ∀ w' {w0 : World} {F : Hp}, Holds w0 ([(g, .cells cur 5 (0, 0))] ++ F) w' → w'.cell? ⟨g, a, none⟩ = some (.int .u8 x)) ∧
    (∀ a z, a < n → RowB 5 1 (.slice (some ⟨g, 0, none⟩) n c) n (iv (r.set a z)) [(g, .cells (cur.setIfInBounds a (.int .u8 z)) 5 (0, 0))]) := by
  obtain ⟨h0, ⟨e, z, _⟩ | ⟨g, cap, cur, e, rfl, h1, h2, h3, h4⟩⟩ := R
  · omega
  · injection e with e1 e2 e3
    subst e1; subst e3
    refine ⟨g, cur, rfl, rfl, by omega, fun a x hx w' w0 F H => ?_, fun a z ha => ⟨?_, .inr ⟨g, c, _, rfl, rfl, h1, h2, by simpa using h3, ?_⟩⟩⟩
    · have hc := H.cell a
      rw [hc, ← Array.getElem?_toList]
      have hxi : (iv r)[a]? = some (.int .u8 x) := by unfold iv; rw [List.getElem?_map, hx]; rfl
      rw [← h4, List.getElem?_take] at hxi
      split at hxi
      · exact hxi
      · cases hxi
    · unfold iv at h0 ⊢
      rw [List.length_map] at h0 ⊢
      rw [List.length_set]
      exact h0
    · rw [Array.toList_setIfInBounds, List.take_set, h4]
      unfold iv
      rw [List.map_set]
theorem xor8_range (x y : Int) : 0 ≤ Go.bits .xor .u8 x y ∧ Go.bits .xor .u8 x y < 256 := by
  unfold Go.bits
  have : ∀ z : Int, 0 ≤ IntKind.u8.wrap z ∧ IntKind.u8.wrap z < 256 := by
    intro z
    rw [IntKind.wrap_u8]
    omega
  exact this _
def FsR (w : World) (l : List (List Int)) (f i : Value) (wr : World) : Prop := ∃ (k : Nat) (hf : Hp), k ≤ l.length ∧ i = .int .i64 k ∧ RowB 5 1 f (Pl.frs (l.take k)).length (iv (Pl.frs (l.take k))) hf ∧ (∀ r ∈ l.take k, r.length ≤ 200) ∧ Holds w (hf ++ []) wr
def FsS (w : World) (HM : Hp) (i : Value) (wr : World) : Prop := ∃ k : Nat, k ≤ 2 ∧ i = .int .i64 k ∧ Holds w HM wr
set_option maxRecDepth 100000 in
set_option maxHeartbeats 4000000 in
theorem scans_walk (A0 A1 : Option Addr) (c0 c1 : Nat) (b : List Int) (l : List (List Int)) (at_ by_ cut : Int) (w : World) (hb : IsByt w A0 c0 b) (hl : Kd.C (Kd.slice 5 (Kd.int .u8)) w A1 l.length l) (hlr : ∀ q ∈ l, ∀ n ∈ q, 0 ≤ n ∧ n < 256) (hby : 0 ≤ by_ ∧ by_ < 256) :
    Calls Try.prog 4 #[.slice A0 b.length c0, .slice A1 l.length c1, .int .i64 at_, .int .u8 by_, .int .i64 cut] w fun e w' => e = .returned (.bool true) ∧ Below w.heap.size w w' := by
  by_cases e1 : (400 : Int) < (b.length : Int)
  · go_enter Try.func4, Try.ntmps4
    go_wp2_with fail
    refine (awake_all w).mono ?_
    rintro e w1 ⟨rfl, hb⟩
    go_wp2_with fail
    go_ret
    exact ⟨rfl, hb⟩
  by_cases e2 : (12 : Int) < (l.length : Int)
  · go_enter Try.func4, Try.ntmps4
    go_wp2_with fail
    refine (awake_all w).mono ?_
    rintro e w1 ⟨rfl, hb⟩
    go_wp2_with fail
    go_ret
    exact ⟨rfl, hb⟩
  have HB := Lib.hid hb; have HL := Lib.hid hl; have HLR := Lib.hid hlr; have HBY := Lib.hid hby
  clear hb hl hlr hby
  go_enter Try.func4, Try.ntmps4
  go_wp2_with fail
  refine (awake_all w).mono ?_
  rintro e w1 ⟨rfl, hbl⟩
  have HH0 := Lib.hid (Holds.of_below hbl)
  clear hbl
  go_wp2_with fail
  go_loopw [11, 12] (fun f i wr => FsR w l f i wr) (fun _ i _ => l.length - (intOf i).toNat)
  case atStart => exact ⟨0, [], by omega, rfl, RowB.nil _ _, by simp, HH0.out⟩
  case round =>
    clear HH0
    obtain ⟨k, hf, hk, rfl, hRf, h8, hH⟩ := hrel
    obtain ⟨fb, hfe⟩ : ∃ fb, fb = Pl.frs (l.take k) := ⟨_, rfl⟩
    rw [← hfe] at hRf
    have hfl : fb.length ≤ 2600 := by
      have := frs_le (l.take k) h8
      rw [← hfe, List.length_take] at this
      omega
    obtain ⟨Af, cf, rfl, hfc, _⟩ := RowB.form hRf
    have HFE := Lib.hid hfe; have H8 := Lib.hid h8; have HRF := Lib.hid hRf; have HH := Lib.hid hH
    clear hfe h8 hRf hH
    by_cases hlt : k < l.length
    · obtain ⟨r, hr⟩ : ∃ r, l[k]? = some r := ⟨_, List.getElem?_eq_getElem hlt⟩
      obtain ⟨ad, hA1, hcells⟩ := HL.out.2.2 (by omega)
      subst hA1
      obtain ⟨cs, hcl, hK, hcell⟩ := hcells k r hr
      obtain ⟨Ar, cr, hcs, hrc, hCr⟩ := hK
      have hcs : cs = [.slice Ar r.length cr] := hcs
      have hc00 : w.cell? (ad.add k) = some (.slice Ar r.length cr) := by
        have := hcell 0 (.slice Ar r.length cr) (by rw [hcs]; rfl)
        have e : ad.add (k * 1 + 0) = ad.add k := by rw [Nat.mul_one, Nat.add_zero]
        have this : w.cell? (ad.add (k * 1 + 0)) = some (.slice Ar r.length cr) := this
        rwa [e] at this
      have hCr : Kd.C (Kd.int .u8) w Ar r.length r := hCr
      have hc0 := (HH.out.below.cell (World.block_lt_of_cell? w _ hc00)).trans hc00
      have HCX := Lib.hid (fun w' (hb : Below w.heap.size w w') => show w'.cell? (ad.add k) = some (.slice Ar r.length cr) from (hb.cell (World.block_lt_of_cell? w _ hc00)).trans hc00)
      have HR := Lib.hid hr; have HRC := Lib.hid hrc; have HCR := Lib.hid hCr
      clear hcells hcl hcell hcs hr hrc hCr hc00
      by_cases h2 : (200 : Int) < (r.length : Int)
      · go_wp2_with fail
        go_ret
        exact ⟨rfl, HH.out.below⟩
      · have hr2 : r.length ≤ 200 := by omega
        obtain ⟨hnf, hcf, hCf⟩ := row_C HRF.out HH.out (by omega)
        have HP := Lib.hid (frame_Put.calls 200000 Af cf fb Ar cr r (fb ++ Pl.fr r) 0 _ hCf hcf (Kd.C_below HCR.out HH.out.below) HRC.out (Pl.put_f 200000 fb r (by omega) (by omega) (by decide)))
        clear hCf hcf hnf
        go_wp2_with fail
        refine HP.out.mono ?_
        rintro e w2 ⟨vx, rfl, hRx, hbx⟩
        obtain ⟨hx, RX, HX⟩ := R_row hRx HH.out hbx
        obtain ⟨nx, hnx⟩ : ∃ nx, nx = (fb ++ Pl.fr r).length := ⟨_, rfl⟩
        rw [← hnx] at RX
        obtain ⟨Ax, cx, rfl, _, _⟩ := RowB.form RX
        have hnxl : nx = fb.length + (12 + r.length) := by rw [hnx, List.length_append, Pl.fr_len]
        have HNX := Lib.hid hnx; have HRX := Lib.hid RX; have HHX := Lib.hid HX; have HNXL := Lib.hid hnxl
        obtain ⟨sx, hsx⟩ : ∃ s, strOfNums (fb ++ Pl.fr r) = s := ⟨_, rfl⟩
        obtain ⟨sf, hsf⟩ : ∃ s, strOfNums fb = s := ⟨_, rfl⟩
        obtain ⟨sr, hsr⟩ : ∃ s, strOfNums (Pl.fr r) = s := ⟨_, rfl⟩
        have hsa : ∀ w : World, (Op.stringOp .add sf sr).run Try.prog w = .ok (.string sx) w := fun w => add_nums fb (Pl.fr r) (by omega) (by rw [Pl.fr_len]; omega) hsf hsr hsx w
        have HSX := Lib.hid hsx; have HSF := Lib.hid hsf; have HSR := Lib.hid hsr
        clear hRx hbx RX HX hnx hnxl hsx hsf hsr HP
        go_wp2_with fail
        refine wp_region_own 16 (fun k => match k with | 12 => [11] | _ => []) (by kernel_rfl) (by kernel_rfl) (by kernel_rfl) (by kernel_rfl) (Nat.le_of_ble_eq_true (by kernel_rfl)) w (fun Ls hs => hs = (hx ++ hf)) (fun i v h => match i with | 0 => v = .int .i64 0 ∧ h = [] | 1 => v = .bool false ∧ h = [] | 2 => v = .bool false ∧ h = [] | 3 => v = .slice Ax nx cx ∧ h = [] | 4 => v = .string sx ∧ h = [] | 5 => v = .slice Af fb.length cf ∧ h = [] | 6 => v = .string sf ∧ h = [] | 7 => v = .slice (some ad) l.length c1 ∧ h = [] | 8 => v = .int .i64 (k : Nat) ∧ h = [] | 9 => v = .pointer (some (ad.add k)) ∧ h = [] | 10 => v = .slice Ar r.length cr ∧ h = [] | 11 => RowB 5 1 v (Pl.fr r).length (iv (Pl.fr r)) h | 12 => v = .string sr ∧ h = [] | 13 => v = .string sx ∧ h = [] | 14 => v = .bool false ∧ h = [] | 15 => v = .bool false ∧ h = [] | _ => True) ((hx ++ hf)) (rfl) ((show Holds w (hx ++ hf) _ from by have := HHX.out; simpa using this).drew) ?_ ?_
        · intro i o hi ho Ls f Hf hs R w1 hI hL hd hH
          simp only [fill, List.take_succ_cons, List.take_zero, Act.put, List.setIfInBounds_toArray, List.set_cons_zero, List.set_cons_succ]
          match i, hi with
          | 0, _ =>
            obtain rfl := Option.some.inj ho
            clear hd ho
            have hH : Holds w (hs ++ ([] ++ R)) w1 := hH
            subst hI
            unfold wpOp
            refine Or.inl ?_
            unfold Oper.wp
            go_simp
            exact OwnBy.mk _ _ _ rfl (rfl) (⟨rfl, rfl⟩) (hH)
          | 1, _ =>
            obtain rfl := Option.some.inj ho
            have e0 : f 0 = .int .i64 0 := (hd ⟨0, .data⟩ (by simp) rfl).2.1
            clear hd ho
            have hH : Holds w (hs ++ ([] ++ R)) w1 := hH
            subst hI
            unfold wpOp
            refine Or.inl ?_
            simp only [e0]
            unfold Oper.wp
            go_simp
            exact OwnBy.mk _ _ _ rfl (rfl) (⟨rfl, rfl⟩) (hH)
          | 2, _ =>
            obtain rfl := Option.some.inj ho
            have e1 : f 1 = .bool false := (hd ⟨1, .data⟩ (by simp) rfl).2.1
            clear hd ho
            have hH : Holds w (hs ++ ([] ++ R)) w1 := hH
            subst hI
            unfold wpOp
            refine Or.inl ?_
            simp only [e1]
            unfold Oper.wp
            go_simp
            exact OwnBy.mk _ _ _ rfl (rfl) (⟨rfl, rfl⟩) (hH)
          | 3, _ =>
            obtain rfl := Option.some.inj ho
            have e2 : f 2 = .bool false := (hd ⟨2, .guard⟩ (by simp) rfl).2.1
            clear hd ho
            have hH : Holds w (hs ++ ([] ++ R)) w1 := hH
            subst hI
            unfold wpOp
            simp only [e2]
            refine Or.inl ?_
            unfold Oper.wp
            go_simp
            exact OwnBy.mk _ _ _ rfl (rfl) (⟨rfl, rfl⟩) (hH)
          | 4, _ =>
            obtain rfl := Option.some.inj ho
            have e3 : f 3 = .slice Ax nx cx := (hd ⟨3, .data⟩ (by simp) rfl).2.1
            have e2 : f 2 = .bool false := (hd ⟨2, .guard⟩ (by simp) rfl).2.1
            clear hd ho
            have hH : Holds w (hs ++ ([] ++ R)) w1 := hH
            subst hI
            unfold wpOp
            simp only [e3, e2]
            refine Or.inl ?_
            unfold Oper.wp
            have hrc := (row_C (A := Ax) (n := nx) (c := cx) (r := fb ++ Pl.fr r) (by have := HRX.out; rw [HNX.out] at this ⊢; exact this) (hH.perm (k := hx ++ (hf ++ R)) (by classical rw [List.perm_iff_count]; intro a; simp only [List.count_append, List.count_cons, List.count_nil]; omega)) (by rw [← HNX.out, HNXL.out]; omega)).2.2
            have q := Kd.C_string (P := Try.prog) (n := (fb ++ Pl.fr r).length) (c := cx) Try.underlying23 Try.underlying5 Try.underlying9 hrc
            rw [HSX.out, ← HNX.out] at q
            go_simp
            exact OwnBy.mk _ _ _ rfl (rfl) (⟨rfl, rfl⟩) (hH)
          | 5, _ =>
            obtain rfl := Option.some.inj ho
            have e2 : f 2 = .bool false := (hd ⟨2, .guard⟩ (by simp) rfl).2.1
            clear hd ho
            have hH : Holds w (hs ++ ([] ++ R)) w1 := hH
            subst hI
            unfold wpOp
            simp only [e2]
            refine Or.inl ?_
            unfold Oper.wp
            go_simp
            exact OwnBy.mk _ _ _ rfl (rfl) (⟨rfl, rfl⟩) (hH)
          | 6, _ =>
            obtain rfl := Option.some.inj ho
            have e5 : f 5 = .slice Af fb.length cf := (hd ⟨5, .data⟩ (by simp) rfl).2.1
            have e2 : f 2 = .bool false := (hd ⟨2, .guard⟩ (by simp) rfl).2.1
            clear hd ho
            have hH : Holds w (hs ++ ([] ++ R)) w1 := hH
            subst hI
            unfold wpOp
            simp only [e5, e2]
            refine Or.inl ?_
            unfold Oper.wp
            have hrc := row_C (A := Af) (n := fb.length) (c := cf) HRF.out (hH.perm (k := hf ++ (hx ++ R)) (by classical rw [List.perm_iff_count]; intro a; simp only [List.count_append, List.count_cons, List.count_nil]; omega)) (by omega)
            have q := Kd.C_string (P := Try.prog) (n := fb.length) (c := cf) Try.underlying23 Try.underlying5 Try.underlying9 hrc.2.2
            rw [HSF.out] at q
            go_simp
            exact OwnBy.mk _ _ _ rfl (rfl) (⟨rfl, rfl⟩) (hH)
          | 7, _ =>
            obtain rfl := Option.some.inj ho
            have e2 : f 2 = .bool false := (hd ⟨2, .guard⟩ (by simp) rfl).2.1
            clear hd ho
            have hH : Holds w (hs ++ ([] ++ R)) w1 := hH
            subst hI
            unfold wpOp
            simp only [e2]
            refine Or.inl ?_
            unfold Oper.wp
            go_simp
            exact OwnBy.mk _ _ _ rfl (rfl) (⟨rfl, rfl⟩) (hH)
          | 8, _ =>
            obtain rfl := Option.some.inj ho
            have e2 : f 2 = .bool false := (hd ⟨2, .guard⟩ (by simp) rfl).2.1
            clear hd ho
            have hH : Holds w (hs ++ ([] ++ R)) w1 := hH
            subst hI
            unfold wpOp
            simp only [e2]
            refine Or.inl ?_
            unfold Oper.wp
            go_simp
            exact OwnBy.mk _ _ _ rfl (rfl) (⟨rfl, rfl⟩) (hH)
          | 9, _ =>
            obtain rfl := Option.some.inj ho
            have e7 : f 7 = .slice (some ad) l.length c1 := (hd ⟨7, .data⟩ (by simp) rfl).2.1
            have e8 : f 8 = .int .i64 (k : Nat) := (hd ⟨8, .data⟩ (by simp) rfl).2.1
            have e2 : f 2 = .bool false := (hd ⟨2, .guard⟩ (by simp) rfl).2.1
            clear hd ho
            have hH : Holds w (hs ++ ([] ++ R)) w1 := hH
            subst hI
            unfold wpOp
            simp only [e7, e8, e2]
            refine Or.inl ?_
            unfold Oper.wp
            go_simp
            exact OwnBy.mk _ _ _ rfl (rfl) (⟨rfl, rfl⟩) (hH)
          | 10, _ =>
            obtain rfl := Option.some.inj ho
            have e9 : f 9 = .pointer (some (ad.add k)) := (hd ⟨9, .data⟩ (by simp) rfl).2.1
            have e2 : f 2 = .bool false := (hd ⟨2, .guard⟩ (by simp) rfl).2.1
            clear hd ho
            have hH : Holds w (hs ++ ([] ++ R)) w1 := hH
            subst hI
            unfold wpOp
            simp only [e9, e2]
            refine Or.inl ?_
            unfold Oper.wp
            have q := HCX.out w1 hH.below
            go_simp
            exact OwnBy.mk _ _ _ rfl (rfl) (⟨rfl, rfl⟩) (hH)
          | 11, _ =>
            obtain rfl := Option.some.inj ho
            have e10 : f 10 = .slice Ar r.length cr := (hd ⟨10, .data⟩ (by simp) rfl).2.1
            have e2 : f 2 = .bool false := (hd ⟨2, .guard⟩ (by simp) rfl).2.1
            clear hd ho
            have hH : Holds w (hs ++ ([] ++ R)) w1 := hH
            subst hI
            unfold wpOp
            simp only [e10, e2]
            refine Or.inl ?_
            unfold Oper.wp
            go_simp
            refine (hourglassref1_Frame.calls 200000 Ar cr r (Pl.fr r) w1 (Kd.C_below HCR.out hH.below) HRC.out (Pl.frame_f 200000 r (by omega) (by decide))).mono ?_
            rintro e w3 ⟨v5, rfl, hR5, hb5⟩
            obtain ⟨hv5, R5, H5⟩ := R_row hR5 hH hb5
            exact OwnBy.mk _ hv5 _ rfl rfl R5 (H5.perm (by classical rw [List.perm_iff_count]; intro a; simp only [List.count_append, List.count_cons, List.count_nil]; omega))
          | 12, _ =>
            obtain rfl := Option.some.inj ho
            have e11 := (hd ⟨11, .data⟩ (by simp) rfl).2
            have e2 : f 2 = .bool false := (hd ⟨2, .guard⟩ (by simp) rfl).2.1
            clear hd ho
            have hH : Holds w (hs ++ ((Hf 11 ++ ([])) ++ R)) w1 := hH
            simp only [List.append_nil, List.append_assoc] at hH
            subst hI
            unfold wpOp
            simp only [e2]
            refine Or.inl ?_
            unfold Oper.wp
            obtain ⟨A5, c5, hf5, _, _⟩ := RowB.form e11
            rw [hf5] at e11
            rw [hf5]
            have hrc := row_C (A := A5) (n := (Pl.fr r).length) (c := c5) e11 (hH.perm (k := Hf 11 ++ ((hx ++ hf) ++ R)) (by classical rw [List.perm_iff_count]; intro a; simp only [List.count_append, List.count_cons, List.count_nil]; omega)) (by rw [Pl.fr_len]; omega)
            have q := Kd.C_string (P := Try.prog) (n := (Pl.fr r).length) (c := c5) Try.underlying23 Try.underlying5 Try.underlying9 hrc.2.2
            rw [HSR.out] at q
            go_simp
            exact OwnBy.mk _ [] _ rfl rfl ⟨rfl, rfl⟩ ((hH.perm (k := Hf 11 ++ ((hx ++ hf) ++ ([] ++ R))) (by classical rw [List.perm_iff_count]; intro a; simp only [List.count_append, List.count_cons, List.count_nil]; omega)).right)
          | 13, _ =>
            obtain rfl := Option.some.inj ho
            have e6 : f 6 = .string sf := (hd ⟨6, .data⟩ (by simp) rfl).2.1
            have e12 : f 12 = .string sr := (hd ⟨12, .data⟩ (by simp) rfl).2.1
            have e2 : f 2 = .bool false := (hd ⟨2, .guard⟩ (by simp) rfl).2.1
            clear hd ho
            have hH : Holds w (hs ++ ([] ++ R)) w1 := hH
            subst hI
            unfold wpOp
            simp only [e6, e12, e2]
            refine Or.inl ?_
            unfold Oper.wp
            go_simp
            exact OwnBy.mk _ _ _ rfl (rfl) (⟨rfl, rfl⟩) (hH)
          | 14, _ =>
            obtain rfl := Option.some.inj ho
            have e4 : f 4 = .string sx := (hd ⟨4, .data⟩ (by simp) rfl).2.1
            have e13 : f 13 = .string sx := (hd ⟨13, .data⟩ (by simp) rfl).2.1
            have e2 : f 2 = .bool false := (hd ⟨2, .guard⟩ (by simp) rfl).2.1
            clear hd ho
            have hH : Holds w (hs ++ ([] ++ R)) w1 := hH
            subst hI
            unfold wpOp
            simp only [e4, e13, e2]
            refine Or.inl ?_
            unfold Oper.wp
            go_simp
            exact OwnBy.mk _ _ _ rfl (rfl) (⟨rfl, rfl⟩) (hH)
          | 15, _ =>
            obtain rfl := Option.some.inj ho
            have e2 : f 2 = .bool false := (hd ⟨2, .data⟩ (by simp) rfl).2.1
            have e14 : f 14 = .bool false := (hd ⟨14, .data⟩ (by simp) rfl).2.1
            clear hd ho
            have hH : Holds w (hs ++ ([] ++ R)) w1 := hH
            subst hI
            unfold wpOp
            refine Or.inl ?_
            simp only [e2, e14]
            unfold Oper.wp
            go_simp
            exact OwnBy.mk _ _ _ rfl (rfl) (⟨rfl, rfl⟩) (hH)
          | _ + 16, h16 => exact absurd h16 (by omega)
        · intro Ls f Hf hs w1 hI hL hV hH
          have e0 : f 0 = .int .i64 0 := (hV 0 (by decide)).1
          have e1 : f 1 = .bool false := (hV 1 (by decide)).1
          have e2 : f 2 = .bool false := (hV 2 (by decide)).1
          have e3 : f 3 = .slice Ax nx cx := (hV 3 (by decide)).1
          have e4 : f 4 = .string sx := (hV 4 (by decide)).1
          have e5 : f 5 = .slice Af fb.length cf := (hV 5 (by decide)).1
          have e6 : f 6 = .string sf := (hV 6 (by decide)).1
          have e7 : f 7 = .slice (some ad) l.length c1 := (hV 7 (by decide)).1
          have e8 : f 8 = .int .i64 (k : Nat) := (hV 8 (by decide)).1
          have e9 : f 9 = .pointer (some (ad.add k)) := (hV 9 (by decide)).1
          have e10 : f 10 = .slice Ar r.length cr := (hV 10 (by decide)).1
          have e11 := hV 11 (by decide)
          have e12 : f 12 = .string sr := (hV 12 (by decide)).1
          have e13 : f 13 = .string sx := (hV 13 (by decide)).1
          have e14 : f 14 = .bool false := (hV 14 (by decide)).1
          have e15 : f 15 = .bool false := (hV 15 (by decide)).1
          clear hV
          have hH : Holds w (hs ++ []) w1 := hH
          simp only [fill, List.take_succ_cons, List.take_zero, List.drop_succ_cons, List.drop_zero, Act.put, List.setIfInBounds_toArray, List.set_cons_zero, List.set_cons_succ, e0, e1, e2, e3, e4, e5, e6, e7, e8, e9, e10, e12, e13, e14, e15]
          subst hI
          have HXX := Lib.hid (show Holds w (hx ++ hf) w1 from by simpa using hH)
          clear hH hL
          go_wp2_with fail
          have e2 : Pl.frs (l.take (k + 1)) = fb ++ Pl.fr r := by rw [take_snoc l k r HR.out, frs_snoc, HFE.out]
          refine ⟨⟨k + 1, hx, by omega, by simp, by rw [e2, ← HNX.out]; exact HRX.out, ?_, by simpa using HXX.out.left⟩, by simp [intOf]; omega⟩
          intro y hy
          rw [take_snoc l k r HR.out] at hy
          rcases List.mem_append.mp hy with hy | hy
          · exact H8.out y hy
          · obtain rfl := List.mem_singleton.mp hy
            omega
    · have hkn : k = l.length := by omega
      subst hkn
      rw [List.take_length] at HFE H8
      have HFB := Lib.hid (show ∀ x ∈ fb, 0 ≤ x ∧ x < 256 by rw [HFE.out]; exact frs_range l HLR.out)
      obtain ⟨nf, hnf⟩ : ∃ nf, nf = fb.length := ⟨_, rfl⟩
      rw [← hnf] at HRF ⊢
      have hnfl : nf ≤ 2600 := by omega
      have hnc : nf ≤ cf := by omega
      have HNF := Lib.hid hnf
      clear hnf hk hfl hfc
      by_cases ha0 : at_ < 0
      · have hax : ¬ (0 ≤ at_ ∧ at_ < (nf : Int)) := by omega
        by_cases hc0 : cut < 0
        · obtain ⟨f1, hf1⟩ : ∃ f1, f1 = fb := ⟨_, rfl⟩
          have HRW := Lib.hid (show RowB 5 1 (.slice Af nf cf) nf (iv f1) hf by rw [hf1]; exact HRF.out)
          have HNF1 := Lib.hid (show nf = f1.length by rw [hf1]; exact HNF.out)
          have HFB1 := Lib.hid (show ∀ x ∈ f1, 0 ≤ x ∧ x < 256 by rw [hf1]; exact HFB.out)
          have HW := Lib.hid (show Holds w hf _ from by simpa using HH.out)
          clear hf1
          obtain ⟨f2, hf2⟩ : ∃ f2, f2 = f1 := ⟨_, rfl⟩
          have HF2L := Lib.hid (show nf = f2.length by rw [hf2]; exact HNF1.out)
          have HN2 := Lib.hid (fun w' (H' : Holds w hf w') => show f2.length ≤ cf ∧ Kd.C (Kd.int .u8) w' Af f2.length f2 from by
            obtain ⟨_, g2, g3⟩ := row_C (A := Af) (n := nf) (c := cf) (r := f1) (by have := HRW.out; rw [HNF1.out] at this ⊢; exact this) (F := []) (show Holds w (hf ++ []) w' by simpa using H') (by rw [← HNF1.out]; omega)
            rw [hf2]
            exact ⟨g2, g3⟩)
          have HFB2 := Lib.hid (show ∀ x ∈ f2, 0 ≤ x ∧ x < 256 by rw [hf2]; exact HFB1.out)
          have hf2b : f2.length ≤ 100000 := by rw [← HF2L.out]; omega
          clear hf2
          go_wp2_with fail
          have HS0 := Lib.hid (show Holds w hf _ from HW.out)
          go_loopw [102] (fun i wr => FsS w hf i wr) (fun i _ => 2 - (intOf i).toNat)
          case atStart => exact ⟨0, by omega, rfl, HS0.out⟩
          case round =>
            obtain ⟨k, hk, rfl, hS⟩ := hrel
            have HS := Lib.hid hS
            clear hS HS0
            match k, hk with
            | 0, _ =>
              obtain ⟨p, u, wb, e1, e2, hpl⟩ := Pl.scan_same b HB.out.2.2 (by omega)
              have HCx := Lib.hid (fun w' (H' : Holds w hf w') => show Kd.C (Kd.int .u8) w' A0 b.length b from Kd.C_below HB.out.1 H'.below)
              have HS1 := Lib.hid (frame_Scan.calls 200000 A0 c0 b p u wb _ (HCx.out _ HS.out) HB.out.2.1 e1)
              have HE2 := Lib.hid e2; have HPL := Lib.hid hpl
              clear e1 e2 hpl
              have hix0 := ix0
              have hix1 := ix1
              go_wp2_with fail
              clear hix0 hix1
              refine HS1.out.mono ?_
              rintro e w2 ⟨v1, rfl, hS1, hb1⟩
              obtain ⟨A5, c5, hv1, hc5, hC5⟩ := Kd.R_reads (Kd.S_R hS1)
              subst hv1
              obtain ⟨np, hnp⟩ : ∃ np, np = p.length := ⟨_, rfl⟩
              rw [← hnp]
              have HNP := Lib.hid hnp; have HC5 := Lib.hid hC5; have Hc5 := Lib.hid hc5
              have HH2 := Lib.hid (HS.out.grow hb1)
              clear hS1 hb1 hnp hC5 hc5 HS1
              have HS2 := Lib.hid (rscan_calls 300000 A0 c0 b p u wb w2 w2 [] HB.out.2.2 (by omega) HB.out.2.1 (fun w' H' => Kd.C_below (HCx.out _ HH2.out) H'.below) (Nat.le_refl _) HE2.out (Holds.nil w2))
              go_wp2_with fail
              refine HS2.out.mono ?_
              rintro e w3 ⟨v2, vs2, hg2, hz2, rfl, hR2, hRS2, hH3⟩
              obtain ⟨A6, c6, rfl, _, _⟩ := RowB.form hR2
              obtain ⟨_, hle6, hC6⟩ := rowsI_C hR2 hRS2 hH3 (by have := HPL.out; omega)
              have HSM := Lib.hid (hourglassref1_Same.calls (p.length + 1) A5 c5 p A6 c6 p true w3 (Kd.C_below HC5.out hH3.below) Hc5.out hC6 hle6 (Pl.same_f' p (by have := HPL.out; omega)))
              have HH3 := Lib.hid (HH2.out.grow hH3.below)
              rw [← HNP.out] at HSM
              rw [← HNP.out]
              clear hR2 hRS2 hH3 hle6 hC6 HS2 HH2 HC5
              go_wp2_with fail
              refine HSM.out.mono ?_
              rintro e w4 ⟨rfl, hd4⟩
              have HH4 := Lib.hid (HH3.out.grow hd4.below)
              clear hd4 HH3 HSM
              go_wp2_with fail
              exact ⟨⟨1, by omega, rfl, HH4.out⟩, by simp [intOf]⟩
            | 1, _ =>
              obtain ⟨p, u, wb, e1, e2, hpl⟩ := Pl.scan_same f2 HFB2.out hf2b
              have HCx := Lib.hid (fun w' (H' : Holds w hf w') => show Kd.C (Kd.int .u8) w' Af f2.length f2 from (HN2.out w' H').2)
              have HS1 := Lib.hid (frame_Scan.calls 200000 Af cf f2 p u wb _ (HCx.out _ HS.out) (HN2.out _ HS.out).1 e1)
              rw [← HF2L.out] at HS1
              have HE2 := Lib.hid e2; have HPL := Lib.hid hpl
              clear e1 e2 hpl
              have hix0 := ix0
              have hix1 := ix1
              go_wp2_with fail
              clear hix0 hix1
              refine HS1.out.mono ?_
              rintro e w2 ⟨v1, rfl, hS1, hb1⟩
              obtain ⟨A5, c5, hv1, hc5, hC5⟩ := Kd.R_reads (Kd.S_R hS1)
              subst hv1
              obtain ⟨np, hnp⟩ : ∃ np, np = p.length := ⟨_, rfl⟩
              rw [← hnp]
              have HNP := Lib.hid hnp; have HC5 := Lib.hid hC5; have Hc5 := Lib.hid hc5
              have HH2 := Lib.hid (HS.out.grow hb1)
              clear hS1 hb1 hnp hC5 hc5 HS1
              have HS2 := Lib.hid (rscan_calls 300000 Af cf f2 p u wb w2 w2 [] HFB2.out hf2b (HN2.out _ HS.out).1 (fun w' H' => Kd.C_below (HCx.out _ HH2.out) H'.below) (Nat.le_refl _) HE2.out (Holds.nil w2))
              rw [← HF2L.out] at HS2
              go_wp2_with fail
              refine HS2.out.mono ?_
              rintro e w3 ⟨v2, vs2, hg2, hz2, rfl, hR2, hRS2, hH3⟩
              obtain ⟨A6, c6, rfl, _, _⟩ := RowB.form hR2
              obtain ⟨_, hle6, hC6⟩ := rowsI_C hR2 hRS2 hH3 (by have := HPL.out; omega)
              have HSM := Lib.hid (hourglassref1_Same.calls (p.length + 1) A5 c5 p A6 c6 p true w3 (Kd.C_below HC5.out hH3.below) Hc5.out hC6 hle6 (Pl.same_f' p (by have := HPL.out; omega)))
              have HH3 := Lib.hid (HH2.out.grow hH3.below)
              rw [← HNP.out] at HSM
              rw [← HNP.out]
              clear hR2 hRS2 hH3 hle6 hC6 HS2 HH2 HC5
              go_wp2_with fail
              refine HSM.out.mono ?_
              rintro e w4 ⟨rfl, hd4⟩
              have HH4 := Lib.hid (HH3.out.grow hd4.below)
              clear hd4 HH3 HSM
              go_wp2_with fail
              exact ⟨⟨2, by omega, rfl, HH4.out⟩, by simp [intOf]⟩
            | 2, _ =>
              go_wp2_with fail
              go_ret
              exact ⟨rfl, HS.out.below⟩
        by_cases hc1 : (nf : Int) < cut
        · obtain ⟨f1, hf1⟩ : ∃ f1, f1 = fb := ⟨_, rfl⟩
          have HRW := Lib.hid (show RowB 5 1 (.slice Af nf cf) nf (iv f1) hf by rw [hf1]; exact HRF.out)
          have HNF1 := Lib.hid (show nf = f1.length by rw [hf1]; exact HNF.out)
          have HFB1 := Lib.hid (show ∀ x ∈ f1, 0 ≤ x ∧ x < 256 by rw [hf1]; exact HFB.out)
          have HW := Lib.hid (show Holds w hf _ from by simpa using HH.out)
          clear hf1
          obtain ⟨f2, hf2⟩ : ∃ f2, f2 = f1 := ⟨_, rfl⟩
          have HF2L := Lib.hid (show nf = f2.length by rw [hf2]; exact HNF1.out)
          have HN2 := Lib.hid (fun w' (H' : Holds w hf w') => show f2.length ≤ cf ∧ Kd.C (Kd.int .u8) w' Af f2.length f2 from by
            obtain ⟨_, g2, g3⟩ := row_C (A := Af) (n := nf) (c := cf) (r := f1) (by have := HRW.out; rw [HNF1.out] at this ⊢; exact this) (F := []) (show Holds w (hf ++ []) w' by simpa using H') (by rw [← HNF1.out]; omega)
            rw [hf2]
            exact ⟨g2, g3⟩)
          have HFB2 := Lib.hid (show ∀ x ∈ f2, 0 ≤ x ∧ x < 256 by rw [hf2]; exact HFB1.out)
          have hf2b : f2.length ≤ 100000 := by rw [← HF2L.out]; omega
          clear hf2
          go_wp2_with fail
          have HS0 := Lib.hid (show Holds w hf _ from HW.out)
          go_loopw [102] (fun i wr => FsS w hf i wr) (fun i _ => 2 - (intOf i).toNat)
          case atStart => exact ⟨0, by omega, rfl, HS0.out⟩
          case round =>
            obtain ⟨k, hk, rfl, hS⟩ := hrel
            have HS := Lib.hid hS
            clear hS HS0
            match k, hk with
            | 0, _ =>
              obtain ⟨p, u, wb, e1, e2, hpl⟩ := Pl.scan_same b HB.out.2.2 (by omega)
              have HCx := Lib.hid (fun w' (H' : Holds w hf w') => show Kd.C (Kd.int .u8) w' A0 b.length b from Kd.C_below HB.out.1 H'.below)
              have HS1 := Lib.hid (frame_Scan.calls 200000 A0 c0 b p u wb _ (HCx.out _ HS.out) HB.out.2.1 e1)
              have HE2 := Lib.hid e2; have HPL := Lib.hid hpl
              clear e1 e2 hpl
              have hix0 := ix0
              have hix1 := ix1
              go_wp2_with fail
              clear hix0 hix1
              refine HS1.out.mono ?_
              rintro e w2 ⟨v1, rfl, hS1, hb1⟩
              obtain ⟨A5, c5, hv1, hc5, hC5⟩ := Kd.R_reads (Kd.S_R hS1)
              subst hv1
              obtain ⟨np, hnp⟩ : ∃ np, np = p.length := ⟨_, rfl⟩
              rw [← hnp]
              have HNP := Lib.hid hnp; have HC5 := Lib.hid hC5; have Hc5 := Lib.hid hc5
              have HH2 := Lib.hid (HS.out.grow hb1)
              clear hS1 hb1 hnp hC5 hc5 HS1
              have HS2 := Lib.hid (rscan_calls 300000 A0 c0 b p u wb w2 w2 [] HB.out.2.2 (by omega) HB.out.2.1 (fun w' H' => Kd.C_below (HCx.out _ HH2.out) H'.below) (Nat.le_refl _) HE2.out (Holds.nil w2))
              go_wp2_with fail
              refine HS2.out.mono ?_
              rintro e w3 ⟨v2, vs2, hg2, hz2, rfl, hR2, hRS2, hH3⟩
              obtain ⟨A6, c6, rfl, _, _⟩ := RowB.form hR2
              obtain ⟨_, hle6, hC6⟩ := rowsI_C hR2 hRS2 hH3 (by have := HPL.out; omega)
              have HSM := Lib.hid (hourglassref1_Same.calls (p.length + 1) A5 c5 p A6 c6 p true w3 (Kd.C_below HC5.out hH3.below) Hc5.out hC6 hle6 (Pl.same_f' p (by have := HPL.out; omega)))
              have HH3 := Lib.hid (HH2.out.grow hH3.below)
              rw [← HNP.out] at HSM
              rw [← HNP.out]
              clear hR2 hRS2 hH3 hle6 hC6 HS2 HH2 HC5
              go_wp2_with fail
              refine HSM.out.mono ?_
              rintro e w4 ⟨rfl, hd4⟩
              have HH4 := Lib.hid (HH3.out.grow hd4.below)
              clear hd4 HH3 HSM
              go_wp2_with fail
              exact ⟨⟨1, by omega, rfl, HH4.out⟩, by simp [intOf]⟩
            | 1, _ =>
              obtain ⟨p, u, wb, e1, e2, hpl⟩ := Pl.scan_same f2 HFB2.out hf2b
              have HCx := Lib.hid (fun w' (H' : Holds w hf w') => show Kd.C (Kd.int .u8) w' Af f2.length f2 from (HN2.out w' H').2)
              have HS1 := Lib.hid (frame_Scan.calls 200000 Af cf f2 p u wb _ (HCx.out _ HS.out) (HN2.out _ HS.out).1 e1)
              rw [← HF2L.out] at HS1
              have HE2 := Lib.hid e2; have HPL := Lib.hid hpl
              clear e1 e2 hpl
              have hix0 := ix0
              have hix1 := ix1
              go_wp2_with fail
              clear hix0 hix1
              refine HS1.out.mono ?_
              rintro e w2 ⟨v1, rfl, hS1, hb1⟩
              obtain ⟨A5, c5, hv1, hc5, hC5⟩ := Kd.R_reads (Kd.S_R hS1)
              subst hv1
              obtain ⟨np, hnp⟩ : ∃ np, np = p.length := ⟨_, rfl⟩
              rw [← hnp]
              have HNP := Lib.hid hnp; have HC5 := Lib.hid hC5; have Hc5 := Lib.hid hc5
              have HH2 := Lib.hid (HS.out.grow hb1)
              clear hS1 hb1 hnp hC5 hc5 HS1
              have HS2 := Lib.hid (rscan_calls 300000 Af cf f2 p u wb w2 w2 [] HFB2.out hf2b (HN2.out _ HS.out).1 (fun w' H' => Kd.C_below (HCx.out _ HH2.out) H'.below) (Nat.le_refl _) HE2.out (Holds.nil w2))
              rw [← HF2L.out] at HS2
              go_wp2_with fail
              refine HS2.out.mono ?_
              rintro e w3 ⟨v2, vs2, hg2, hz2, rfl, hR2, hRS2, hH3⟩
              obtain ⟨A6, c6, rfl, _, _⟩ := RowB.form hR2
              obtain ⟨_, hle6, hC6⟩ := rowsI_C hR2 hRS2 hH3 (by have := HPL.out; omega)
              have HSM := Lib.hid (hourglassref1_Same.calls (p.length + 1) A5 c5 p A6 c6 p true w3 (Kd.C_below HC5.out hH3.below) Hc5.out hC6 hle6 (Pl.same_f' p (by have := HPL.out; omega)))
              have HH3 := Lib.hid (HH2.out.grow hH3.below)
              rw [← HNP.out] at HSM
              rw [← HNP.out]
              clear hR2 hRS2 hH3 hle6 hC6 HS2 HH2 HC5
              go_wp2_with fail
              refine HSM.out.mono ?_
              rintro e w4 ⟨rfl, hd4⟩
              have HH4 := Lib.hid (HH3.out.grow hd4.below)
              clear hd4 HH3 HSM
              go_wp2_with fail
              exact ⟨⟨2, by omega, rfl, HH4.out⟩, by simp [intOf]⟩
            | 2, _ =>
              go_wp2_with fail
              go_ret
              exact ⟨rfl, HS.out.below⟩
        obtain ⟨f1, hf1⟩ : ∃ f1, f1 = fb := ⟨_, rfl⟩
        have HRW := Lib.hid (show RowB 5 1 (.slice Af nf cf) nf (iv f1) hf by rw [hf1]; exact HRF.out)
        have HNF1 := Lib.hid (show nf = f1.length by rw [hf1]; exact HNF.out)
        have HFB1 := Lib.hid (show ∀ x ∈ f1, 0 ≤ x ∧ x < 256 by rw [hf1]; exact HFB.out)
        have HW := Lib.hid (show Holds w hf _ from by simpa using HH.out)
        clear hf1
        obtain ⟨n2, rfl⟩ : ∃ n2 : Nat, cut = n2 := ⟨cut.toNat, by omega⟩
        have hn2f : n2 ≤ nf := by omega
        obtain ⟨f2, hf2⟩ : ∃ f2, f2 = f1.take n2 := ⟨_, rfl⟩
        have HF2 := Lib.hid hf2
        have HF2L := Lib.hid (show n2 = f2.length by rw [hf2, List.length_take, ← HNF1.out]; omega)
        have HN2 := Lib.hid (fun w' (H' : Holds w hf w') => show f2.length ≤ cf ∧ Kd.C (Kd.int .u8) w' Af f2.length f2 from by
          obtain ⟨_, g2, g3⟩ := row_C (A := Af) (n := nf) (c := cf) (r := f1) (by have := HRW.out; rw [HNF1.out] at this ⊢; exact this) (F := []) (show Holds w (hf ++ []) w' by simpa using H') (by rw [← HNF1.out]; omega)
          obtain ⟨i5, z5, hi5, hz5, hs5, _, _⟩ := info5i
          obtain ⟨_, t2, t3⟩ := print_take_of (P := Try.prog) (Value.int .u8) (0 : Int) 23 5 .i64 Try.underlying23 hi5 hs5 Af cf f1 (n2 : Int) (by omega) (by rw [← HNF1.out]; omega) g2
          rw [Int.toNat_natCast, ← HF2.out] at t2 t3
          exact ⟨t3, Kd.C_of_reads (h1 := fun _ => rfl) (t2 w' (Kd.reads_of_C (h1 := fun _ => rfl) g3))⟩)
        have HFB2 := Lib.hid (show ∀ x ∈ f2, 0 ≤ x ∧ x < 256 from fun x hx => HFB1.out x (by rw [HF2.out] at hx; exact List.mem_of_mem_take hx))
        have hf2b : f2.length ≤ 100000 := by rw [← HF2L.out]; omega
        have hcut : ∀ W : World, (Instr.slice 23 (.slice Af nf cf) none (some (.int .i64 (n2 : Int))) none).run Try.prog W = .ok (.slice Af n2 cf) W := by
          obtain ⟨i5, z5, hi5, hz5, hs5, _, _⟩ := info5i
          have t1 := (print_take_of (P := Try.prog) (Value.int .u8) (0 : Int) 23 5 .i64 Try.underlying23 hi5 hs5 Af cf f1 (n2 : Int) (by omega) (by rw [← HNF1.out]; omega) (by rw [← HNF1.out]; exact hnc)).1
          rw [Int.toNat_natCast, ← HF2.out, ← HF2L.out, ← HNF1.out] at t1
          exact t1
        clear hf2
        go_wp2_with fail
        have HS0 := Lib.hid (show Holds w hf _ from HW.out)
        go_loopw [102] (fun i wr => FsS w hf i wr) (fun i _ => 2 - (intOf i).toNat)
        case atStart => exact ⟨0, by omega, rfl, HS0.out⟩
        case round =>
          obtain ⟨k, hk, rfl, hS⟩ := hrel
          have HS := Lib.hid hS
          clear hS HS0
          match k, hk with
          | 0, _ =>
            obtain ⟨p, u, wb, e1, e2, hpl⟩ := Pl.scan_same b HB.out.2.2 (by omega)
            have HCx := Lib.hid (fun w' (H' : Holds w hf w') => show Kd.C (Kd.int .u8) w' A0 b.length b from Kd.C_below HB.out.1 H'.below)
            have HS1 := Lib.hid (frame_Scan.calls 200000 A0 c0 b p u wb _ (HCx.out _ HS.out) HB.out.2.1 e1)
            have HE2 := Lib.hid e2; have HPL := Lib.hid hpl
            clear e1 e2 hpl
            have hix0 := ix0
            have hix1 := ix1
            go_wp2_with fail
            clear hix0 hix1
            refine HS1.out.mono ?_
            rintro e w2 ⟨v1, rfl, hS1, hb1⟩
            obtain ⟨A5, c5, hv1, hc5, hC5⟩ := Kd.R_reads (Kd.S_R hS1)
            subst hv1
            obtain ⟨np, hnp⟩ : ∃ np, np = p.length := ⟨_, rfl⟩
            rw [← hnp]
            have HNP := Lib.hid hnp; have HC5 := Lib.hid hC5; have Hc5 := Lib.hid hc5
            have HH2 := Lib.hid (HS.out.grow hb1)
            clear hS1 hb1 hnp hC5 hc5 HS1
            have HS2 := Lib.hid (rscan_calls 300000 A0 c0 b p u wb w2 w2 [] HB.out.2.2 (by omega) HB.out.2.1 (fun w' H' => Kd.C_below (HCx.out _ HH2.out) H'.below) (Nat.le_refl _) HE2.out (Holds.nil w2))
            go_wp2_with fail
            refine HS2.out.mono ?_
            rintro e w3 ⟨v2, vs2, hg2, hz2, rfl, hR2, hRS2, hH3⟩
            obtain ⟨A6, c6, rfl, _, _⟩ := RowB.form hR2
            obtain ⟨_, hle6, hC6⟩ := rowsI_C hR2 hRS2 hH3 (by have := HPL.out; omega)
            have HSM := Lib.hid (hourglassref1_Same.calls (p.length + 1) A5 c5 p A6 c6 p true w3 (Kd.C_below HC5.out hH3.below) Hc5.out hC6 hle6 (Pl.same_f' p (by have := HPL.out; omega)))
            have HH3 := Lib.hid (HH2.out.grow hH3.below)
            rw [← HNP.out] at HSM
            rw [← HNP.out]
            clear hR2 hRS2 hH3 hle6 hC6 HS2 HH2 HC5
            go_wp2_with fail
            refine HSM.out.mono ?_
            rintro e w4 ⟨rfl, hd4⟩
            have HH4 := Lib.hid (HH3.out.grow hd4.below)
            clear hd4 HH3 HSM
            go_wp2_with fail
            exact ⟨⟨1, by omega, rfl, HH4.out⟩, by simp [intOf]⟩
          | 1, _ =>
            obtain ⟨p, u, wb, e1, e2, hpl⟩ := Pl.scan_same f2 HFB2.out hf2b
            have HCx := Lib.hid (fun w' (H' : Holds w hf w') => show Kd.C (Kd.int .u8) w' Af f2.length f2 from (HN2.out w' H').2)
            have HS1 := Lib.hid (frame_Scan.calls 200000 Af cf f2 p u wb _ (HCx.out _ HS.out) (HN2.out _ HS.out).1 e1)
            rw [← HF2L.out] at HS1
            have HE2 := Lib.hid e2; have HPL := Lib.hid hpl
            clear e1 e2 hpl
            have hix0 := ix0
            have hix1 := ix1
            go_wp2_with fail
            clear hix0 hix1
            refine HS1.out.mono ?_
            rintro e w2 ⟨v1, rfl, hS1, hb1⟩
            obtain ⟨A5, c5, hv1, hc5, hC5⟩ := Kd.R_reads (Kd.S_R hS1)
            subst hv1
            obtain ⟨np, hnp⟩ : ∃ np, np = p.length := ⟨_, rfl⟩
            rw [← hnp]
            have HNP := Lib.hid hnp; have HC5 := Lib.hid hC5; have Hc5 := Lib.hid hc5
            have HH2 := Lib.hid (HS.out.grow hb1)
            clear hS1 hb1 hnp hC5 hc5 HS1
            have HS2 := Lib.hid (rscan_calls 300000 Af cf f2 p u wb w2 w2 [] HFB2.out hf2b (HN2.out _ HS.out).1 (fun w' H' => Kd.C_below (HCx.out _ HH2.out) H'.below) (Nat.le_refl _) HE2.out (Holds.nil w2))
            rw [← HF2L.out] at HS2
            go_wp2_with fail
            refine HS2.out.mono ?_
            rintro e w3 ⟨v2, vs2, hg2, hz2, rfl, hR2, hRS2, hH3⟩
            obtain ⟨A6, c6, rfl, _, _⟩ := RowB.form hR2
            obtain ⟨_, hle6, hC6⟩ := rowsI_C hR2 hRS2 hH3 (by have := HPL.out; omega)
            have HSM := Lib.hid (hourglassref1_Same.calls (p.length + 1) A5 c5 p A6 c6 p true w3 (Kd.C_below HC5.out hH3.below) Hc5.out hC6 hle6 (Pl.same_f' p (by have := HPL.out; omega)))
            have HH3 := Lib.hid (HH2.out.grow hH3.below)
            rw [← HNP.out] at HSM
            rw [← HNP.out]
            clear hR2 hRS2 hH3 hle6 hC6 HS2 HH2 HC5
            go_wp2_with fail
            refine HSM.out.mono ?_
            rintro e w4 ⟨rfl, hd4⟩
            have HH4 := Lib.hid (HH3.out.grow hd4.below)
            clear hd4 HH3 HSM
            go_wp2_with fail
            exact ⟨⟨2, by omega, rfl, HH4.out⟩, by simp [intOf]⟩
          | 2, _ =>
            go_wp2_with fail
            go_ret
            exact ⟨rfl, HS.out.below⟩
      by_cases ha1 : (nf : Int) ≤ at_
      · by_cases hc0 : cut < 0
        · obtain ⟨f1, hf1⟩ : ∃ f1, f1 = fb := ⟨_, rfl⟩
          have HRW := Lib.hid (show RowB 5 1 (.slice Af nf cf) nf (iv f1) hf by rw [hf1]; exact HRF.out)
          have HNF1 := Lib.hid (show nf = f1.length by rw [hf1]; exact HNF.out)
          have HFB1 := Lib.hid (show ∀ x ∈ f1, 0 ≤ x ∧ x < 256 by rw [hf1]; exact HFB.out)
          have HW := Lib.hid (show Holds w hf _ from by simpa using HH.out)
          clear hf1
          obtain ⟨f2, hf2⟩ : ∃ f2, f2 = f1 := ⟨_, rfl⟩
          have HF2L := Lib.hid (show nf = f2.length by rw [hf2]; exact HNF1.out)
          have HN2 := Lib.hid (fun w' (H' : Holds w hf w') => show f2.length ≤ cf ∧ Kd.C (Kd.int .u8) w' Af f2.length f2 from by
            obtain ⟨_, g2, g3⟩ := row_C (A := Af) (n := nf) (c := cf) (r := f1) (by have := HRW.out; rw [HNF1.out] at this ⊢; exact this) (F := []) (show Holds w (hf ++ []) w' by simpa using H') (by rw [← HNF1.out]; omega)
            rw [hf2]
            exact ⟨g2, g3⟩)
          have HFB2 := Lib.hid (show ∀ x ∈ f2, 0 ≤ x ∧ x < 256 by rw [hf2]; exact HFB1.out)
          have hf2b : f2.length ≤ 100000 := by rw [← HF2L.out]; omega
          clear hf2
          go_wp2_with fail
          have HS0 := Lib.hid (show Holds w hf _ from HW.out)
          go_loopw [102] (fun i wr => FsS w hf i wr) (fun i _ => 2 - (intOf i).toNat)
          case atStart => exact ⟨0, by omega, rfl, HS0.out⟩
          case round =>
            obtain ⟨k, hk, rfl, hS⟩ := hrel
            have HS := Lib.hid hS
            clear hS HS0
            match k, hk with
            | 0, _ =>
              obtain ⟨p, u, wb, e1, e2, hpl⟩ := Pl.scan_same b HB.out.2.2 (by omega)
              have HCx := Lib.hid (fun w' (H' : Holds w hf w') => show Kd.C (Kd.int .u8) w' A0 b.length b from Kd.C_below HB.out.1 H'.below)
              have HS1 := Lib.hid (frame_Scan.calls 200000 A0 c0 b p u wb _ (HCx.out _ HS.out) HB.out.2.1 e1)
              have HE2 := Lib.hid e2; have HPL := Lib.hid hpl
              clear e1 e2 hpl
              have hix0 := ix0
              have hix1 := ix1
              go_wp2_with fail
              clear hix0 hix1
              refine HS1.out.mono ?_
              rintro e w2 ⟨v1, rfl, hS1, hb1⟩
              obtain ⟨A5, c5, hv1, hc5, hC5⟩ := Kd.R_reads (Kd.S_R hS1)
              subst hv1
              obtain ⟨np, hnp⟩ : ∃ np, np = p.length := ⟨_, rfl⟩
              rw [← hnp]
              have HNP := Lib.hid hnp; have HC5 := Lib.hid hC5; have Hc5 := Lib.hid hc5
              have HH2 := Lib.hid (HS.out.grow hb1)
              clear hS1 hb1 hnp hC5 hc5 HS1
              have HS2 := Lib.hid (rscan_calls 300000 A0 c0 b p u wb w2 w2 [] HB.out.2.2 (by omega) HB.out.2.1 (fun w' H' => Kd.C_below (HCx.out _ HH2.out) H'.below) (Nat.le_refl _) HE2.out (Holds.nil w2))
              go_wp2_with fail
              refine HS2.out.mono ?_
              rintro e w3 ⟨v2, vs2, hg2, hz2, rfl, hR2, hRS2, hH3⟩
              obtain ⟨A6, c6, rfl, _, _⟩ := RowB.form hR2
              obtain ⟨_, hle6, hC6⟩ := rowsI_C hR2 hRS2 hH3 (by have := HPL.out; omega)
              have HSM := Lib.hid (hourglassref1_Same.calls (p.length + 1) A5 c5 p A6 c6 p true w3 (Kd.C_below HC5.out hH3.below) Hc5.out hC6 hle6 (Pl.same_f' p (by have := HPL.out; omega)))
              have HH3 := Lib.hid (HH2.out.grow hH3.below)
              rw [← HNP.out] at HSM
              rw [← HNP.out]
              clear hR2 hRS2 hH3 hle6 hC6 HS2 HH2 HC5
              go_wp2_with fail
              refine HSM.out.mono ?_
              rintro e w4 ⟨rfl, hd4⟩
              have HH4 := Lib.hid (HH3.out.grow hd4.below)
              clear hd4 HH3 HSM
              go_wp2_with fail
              exact ⟨⟨1, by omega, rfl, HH4.out⟩, by simp [intOf]⟩
            | 1, _ =>
              obtain ⟨p, u, wb, e1, e2, hpl⟩ := Pl.scan_same f2 HFB2.out hf2b
              have HCx := Lib.hid (fun w' (H' : Holds w hf w') => show Kd.C (Kd.int .u8) w' Af f2.length f2 from (HN2.out w' H').2)
              have HS1 := Lib.hid (frame_Scan.calls 200000 Af cf f2 p u wb _ (HCx.out _ HS.out) (HN2.out _ HS.out).1 e1)
              rw [← HF2L.out] at HS1
              have HE2 := Lib.hid e2; have HPL := Lib.hid hpl
              clear e1 e2 hpl
              have hix0 := ix0
              have hix1 := ix1
              go_wp2_with fail
              clear hix0 hix1
              refine HS1.out.mono ?_
              rintro e w2 ⟨v1, rfl, hS1, hb1⟩
              obtain ⟨A5, c5, hv1, hc5, hC5⟩ := Kd.R_reads (Kd.S_R hS1)
              subst hv1
              obtain ⟨np, hnp⟩ : ∃ np, np = p.length := ⟨_, rfl⟩
              rw [← hnp]
              have HNP := Lib.hid hnp; have HC5 := Lib.hid hC5; have Hc5 := Lib.hid hc5
              have HH2 := Lib.hid (HS.out.grow hb1)
              clear hS1 hb1 hnp hC5 hc5 HS1
              have HS2 := Lib.hid (rscan_calls 300000 Af cf f2 p u wb w2 w2 [] HFB2.out hf2b (HN2.out _ HS.out).1 (fun w' H' => Kd.C_below (HCx.out _ HH2.out) H'.below) (Nat.le_refl _) HE2.out (Holds.nil w2))
              rw [← HF2L.out] at HS2
              go_wp2_with fail
              refine HS2.out.mono ?_
              rintro e w3 ⟨v2, vs2, hg2, hz2, rfl, hR2, hRS2, hH3⟩
              obtain ⟨A6, c6, rfl, _, _⟩ := RowB.form hR2
              obtain ⟨_, hle6, hC6⟩ := rowsI_C hR2 hRS2 hH3 (by have := HPL.out; omega)
              have HSM := Lib.hid (hourglassref1_Same.calls (p.length + 1) A5 c5 p A6 c6 p true w3 (Kd.C_below HC5.out hH3.below) Hc5.out hC6 hle6 (Pl.same_f' p (by have := HPL.out; omega)))
              have HH3 := Lib.hid (HH2.out.grow hH3.below)
              rw [← HNP.out] at HSM
              rw [← HNP.out]
              clear hR2 hRS2 hH3 hle6 hC6 HS2 HH2 HC5
              go_wp2_with fail
              refine HSM.out.mono ?_
              rintro e w4 ⟨rfl, hd4⟩
              have HH4 := Lib.hid (HH3.out.grow hd4.below)
              clear hd4 HH3 HSM
              go_wp2_with fail
              exact ⟨⟨2, by omega, rfl, HH4.out⟩, by simp [intOf]⟩
            | 2, _ =>
              go_wp2_with fail
              go_ret
              exact ⟨rfl, HS.out.below⟩
        by_cases hc1 : (nf : Int) < cut
        · obtain ⟨f1, hf1⟩ : ∃ f1, f1 = fb := ⟨_, rfl⟩
          have HRW := Lib.hid (show RowB 5 1 (.slice Af nf cf) nf (iv f1) hf by rw [hf1]; exact HRF.out)
          have HNF1 := Lib.hid (show nf = f1.length by rw [hf1]; exact HNF.out)
          have HFB1 := Lib.hid (show ∀ x ∈ f1, 0 ≤ x ∧ x < 256 by rw [hf1]; exact HFB.out)
          have HW := Lib.hid (show Holds w hf _ from by simpa using HH.out)
          clear hf1
          obtain ⟨f2, hf2⟩ : ∃ f2, f2 = f1 := ⟨_, rfl⟩
          have HF2L := Lib.hid (show nf = f2.length by rw [hf2]; exact HNF1.out)
          have HN2 := Lib.hid (fun w' (H' : Holds w hf w') => show f2.length ≤ cf ∧ Kd.C (Kd.int .u8) w' Af f2.length f2 from by
            obtain ⟨_, g2, g3⟩ := row_C (A := Af) (n := nf) (c := cf) (r := f1) (by have := HRW.out; rw [HNF1.out] at this ⊢; exact this) (F := []) (show Holds w (hf ++ []) w' by simpa using H') (by rw [← HNF1.out]; omega)
            rw [hf2]
            exact ⟨g2, g3⟩)
          have HFB2 := Lib.hid (show ∀ x ∈ f2, 0 ≤ x ∧ x < 256 by rw [hf2]; exact HFB1.out)
          have hf2b : f2.length ≤ 100000 := by rw [← HF2L.out]; omega
          clear hf2
          go_wp2_with fail
          have HS0 := Lib.hid (show Holds w hf _ from HW.out)
          go_loopw [102] (fun i wr => FsS w hf i wr) (fun i _ => 2 - (intOf i).toNat)
          case atStart => exact ⟨0, by omega, rfl, HS0.out⟩
          case round =>
            obtain ⟨k, hk, rfl, hS⟩ := hrel
            have HS := Lib.hid hS
            clear hS HS0
            match k, hk with
            | 0, _ =>
              obtain ⟨p, u, wb, e1, e2, hpl⟩ := Pl.scan_same b HB.out.2.2 (by omega)
              have HCx := Lib.hid (fun w' (H' : Holds w hf w') => show Kd.C (Kd.int .u8) w' A0 b.length b from Kd.C_below HB.out.1 H'.below)
              have HS1 := Lib.hid (frame_Scan.calls 200000 A0 c0 b p u wb _ (HCx.out _ HS.out) HB.out.2.1 e1)
              have HE2 := Lib.hid e2; have HPL := Lib.hid hpl
              clear e1 e2 hpl
              have hix0 := ix0
              have hix1 := ix1
              go_wp2_with fail
              clear hix0 hix1
              refine HS1.out.mono ?_
              rintro e w2 ⟨v1, rfl, hS1, hb1⟩
              obtain ⟨A5, c5, hv1, hc5, hC5⟩ := Kd.R_reads (Kd.S_R hS1)
              subst hv1
              obtain ⟨np, hnp⟩ : ∃ np, np = p.length := ⟨_, rfl⟩
              rw [← hnp]
              have HNP := Lib.hid hnp; have HC5 := Lib.hid hC5; have Hc5 := Lib.hid hc5
              have HH2 := Lib.hid (HS.out.grow hb1)
              clear hS1 hb1 hnp hC5 hc5 HS1
              have HS2 := Lib.hid (rscan_calls 300000 A0 c0 b p u wb w2 w2 [] HB.out.2.2 (by omega) HB.out.2.1 (fun w' H' => Kd.C_below (HCx.out _ HH2.out) H'.below) (Nat.le_refl _) HE2.out (Holds.nil w2))
              go_wp2_with fail
              refine HS2.out.mono ?_
              rintro e w3 ⟨v2, vs2, hg2, hz2, rfl, hR2, hRS2, hH3⟩
              obtain ⟨A6, c6, rfl, _, _⟩ := RowB.form hR2
              obtain ⟨_, hle6, hC6⟩ := rowsI_C hR2 hRS2 hH3 (by have := HPL.out; omega)
              have HSM := Lib.hid (hourglassref1_Same.calls (p.length + 1) A5 c5 p A6 c6 p true w3 (Kd.C_below HC5.out hH3.below) Hc5.out hC6 hle6 (Pl.same_f' p (by have := HPL.out; omega)))
              have HH3 := Lib.hid (HH2.out.grow hH3.below)
              rw [← HNP.out] at HSM
              rw [← HNP.out]
              clear hR2 hRS2 hH3 hle6 hC6 HS2 HH2 HC5
              go_wp2_with fail
              refine HSM.out.mono ?_
              rintro e w4 ⟨rfl, hd4⟩
              have HH4 := Lib.hid (HH3.out.grow hd4.below)
              clear hd4 HH3 HSM
              go_wp2_with fail
              exact ⟨⟨1, by omega, rfl, HH4.out⟩, by simp [intOf]⟩
            | 1, _ =>
              obtain ⟨p, u, wb, e1, e2, hpl⟩ := Pl.scan_same f2 HFB2.out hf2b
              have HCx := Lib.hid (fun w' (H' : Holds w hf w') => show Kd.C (Kd.int .u8) w' Af f2.length f2 from (HN2.out w' H').2)
              have HS1 := Lib.hid (frame_Scan.calls 200000 Af cf f2 p u wb _ (HCx.out _ HS.out) (HN2.out _ HS.out).1 e1)
              rw [← HF2L.out] at HS1
              have HE2 := Lib.hid e2; have HPL := Lib.hid hpl
              clear e1 e2 hpl
              have hix0 := ix0
              have hix1 := ix1
              go_wp2_with fail
              clear hix0 hix1
              refine HS1.out.mono ?_
              rintro e w2 ⟨v1, rfl, hS1, hb1⟩
              obtain ⟨A5, c5, hv1, hc5, hC5⟩ := Kd.R_reads (Kd.S_R hS1)
              subst hv1
              obtain ⟨np, hnp⟩ : ∃ np, np = p.length := ⟨_, rfl⟩
              rw [← hnp]
              have HNP := Lib.hid hnp; have HC5 := Lib.hid hC5; have Hc5 := Lib.hid hc5
              have HH2 := Lib.hid (HS.out.grow hb1)
              clear hS1 hb1 hnp hC5 hc5 HS1
              have HS2 := Lib.hid (rscan_calls 300000 Af cf f2 p u wb w2 w2 [] HFB2.out hf2b (HN2.out _ HS.out).1 (fun w' H' => Kd.C_below (HCx.out _ HH2.out) H'.below) (Nat.le_refl _) HE2.out (Holds.nil w2))
              rw [← HF2L.out] at HS2
              go_wp2_with fail
              refine HS2.out.mono ?_
              rintro e w3 ⟨v2, vs2, hg2, hz2, rfl, hR2, hRS2, hH3⟩
              obtain ⟨A6, c6, rfl, _, _⟩ := RowB.form hR2
              obtain ⟨_, hle6, hC6⟩ := rowsI_C hR2 hRS2 hH3 (by have := HPL.out; omega)
              have HSM := Lib.hid (hourglassref1_Same.calls (p.length + 1) A5 c5 p A6 c6 p true w3 (Kd.C_below HC5.out hH3.below) Hc5.out hC6 hle6 (Pl.same_f' p (by have := HPL.out; omega)))
              have HH3 := Lib.hid (HH2.out.grow hH3.below)
              rw [← HNP.out] at HSM
              rw [← HNP.out]
              clear hR2 hRS2 hH3 hle6 hC6 HS2 HH2 HC5
              go_wp2_with fail
              refine HSM.out.mono ?_
              rintro e w4 ⟨rfl, hd4⟩
              have HH4 := Lib.hid (HH3.out.grow hd4.below)
              clear hd4 HH3 HSM
              go_wp2_with fail
              exact ⟨⟨2, by omega, rfl, HH4.out⟩, by simp [intOf]⟩
            | 2, _ =>
              go_wp2_with fail
              go_ret
              exact ⟨rfl, HS.out.below⟩
        obtain ⟨f1, hf1⟩ : ∃ f1, f1 = fb := ⟨_, rfl⟩
        have HRW := Lib.hid (show RowB 5 1 (.slice Af nf cf) nf (iv f1) hf by rw [hf1]; exact HRF.out)
        have HNF1 := Lib.hid (show nf = f1.length by rw [hf1]; exact HNF.out)
        have HFB1 := Lib.hid (show ∀ x ∈ f1, 0 ≤ x ∧ x < 256 by rw [hf1]; exact HFB.out)
        have HW := Lib.hid (show Holds w hf _ from by simpa using HH.out)
        clear hf1
        obtain ⟨n2, rfl⟩ : ∃ n2 : Nat, cut = n2 := ⟨cut.toNat, by omega⟩
        have hn2f : n2 ≤ nf := by omega
        obtain ⟨f2, hf2⟩ : ∃ f2, f2 = f1.take n2 := ⟨_, rfl⟩
        have HF2 := Lib.hid hf2
        have HF2L := Lib.hid (show n2 = f2.length by rw [hf2, List.length_take, ← HNF1.out]; omega)
        have HN2 := Lib.hid (fun w' (H' : Holds w hf w') => show f2.length ≤ cf ∧ Kd.C (Kd.int .u8) w' Af f2.length f2 from by
          obtain ⟨_, g2, g3⟩ := row_C (A := Af) (n := nf) (c := cf) (r := f1) (by have := HRW.out; rw [HNF1.out] at this ⊢; exact this) (F := []) (show Holds w (hf ++ []) w' by simpa using H') (by rw [← HNF1.out]; omega)
          obtain ⟨i5, z5, hi5, hz5, hs5, _, _⟩ := info5i
          obtain ⟨_, t2, t3⟩ := print_take_of (P := Try.prog) (Value.int .u8) (0 : Int) 23 5 .i64 Try.underlying23 hi5 hs5 Af cf f1 (n2 : Int) (by omega) (by rw [← HNF1.out]; omega) g2
          rw [Int.toNat_natCast, ← HF2.out] at t2 t3
          exact ⟨t3, Kd.C_of_reads (h1 := fun _ => rfl) (t2 w' (Kd.reads_of_C (h1 := fun _ => rfl) g3))⟩)
        have HFB2 := Lib.hid (show ∀ x ∈ f2, 0 ≤ x ∧ x < 256 from fun x hx => HFB1.out x (by rw [HF2.out] at hx; exact List.mem_of_mem_take hx))
        have hf2b : f2.length ≤ 100000 := by rw [← HF2L.out]; omega
        have hcut : ∀ W : World, (Instr.slice 23 (.slice Af nf cf) none (some (.int .i64 (n2 : Int))) none).run Try.prog W = .ok (.slice Af n2 cf) W := by
          obtain ⟨i5, z5, hi5, hz5, hs5, _, _⟩ := info5i
          have t1 := (print_take_of (P := Try.prog) (Value.int .u8) (0 : Int) 23 5 .i64 Try.underlying23 hi5 hs5 Af cf f1 (n2 : Int) (by omega) (by rw [← HNF1.out]; omega) (by rw [← HNF1.out]; exact hnc)).1
          rw [Int.toNat_natCast, ← HF2.out, ← HF2L.out, ← HNF1.out] at t1
          exact t1
        clear hf2
        go_wp2_with fail
        have HS0 := Lib.hid (show Holds w hf _ from HW.out)
        go_loopw [102] (fun i wr => FsS w hf i wr) (fun i _ => 2 - (intOf i).toNat)
        case atStart => exact ⟨0, by omega, rfl, HS0.out⟩
        case round =>
          obtain ⟨k, hk, rfl, hS⟩ := hrel
          have HS := Lib.hid hS
          clear hS HS0
          match k, hk with
          | 0, _ =>
            obtain ⟨p, u, wb, e1, e2, hpl⟩ := Pl.scan_same b HB.out.2.2 (by omega)
            have HCx := Lib.hid (fun w' (H' : Holds w hf w') => show Kd.C (Kd.int .u8) w' A0 b.length b from Kd.C_below HB.out.1 H'.below)
            have HS1 := Lib.hid (frame_Scan.calls 200000 A0 c0 b p u wb _ (HCx.out _ HS.out) HB.out.2.1 e1)
            have HE2 := Lib.hid e2; have HPL := Lib.hid hpl
            clear e1 e2 hpl
            have hix0 := ix0
            have hix1 := ix1
            go_wp2_with fail
            clear hix0 hix1
            refine HS1.out.mono ?_
            rintro e w2 ⟨v1, rfl, hS1, hb1⟩
            obtain ⟨A5, c5, hv1, hc5, hC5⟩ := Kd.R_reads (Kd.S_R hS1)
            subst hv1
            obtain ⟨np, hnp⟩ : ∃ np, np = p.length := ⟨_, rfl⟩
            rw [← hnp]
            have HNP := Lib.hid hnp; have HC5 := Lib.hid hC5; have Hc5 := Lib.hid hc5
            have HH2 := Lib.hid (HS.out.grow hb1)
            clear hS1 hb1 hnp hC5 hc5 HS1
            have HS2 := Lib.hid (rscan_calls 300000 A0 c0 b p u wb w2 w2 [] HB.out.2.2 (by omega) HB.out.2.1 (fun w' H' => Kd.C_below (HCx.out _ HH2.out) H'.below) (Nat.le_refl _) HE2.out (Holds.nil w2))
            go_wp2_with fail
            refine HS2.out.mono ?_
            rintro e w3 ⟨v2, vs2, hg2, hz2, rfl, hR2, hRS2, hH3⟩
            obtain ⟨A6, c6, rfl, _, _⟩ := RowB.form hR2
            obtain ⟨_, hle6, hC6⟩ := rowsI_C hR2 hRS2 hH3 (by have := HPL.out; omega)
            have HSM := Lib.hid (hourglassref1_Same.calls (p.length + 1) A5 c5 p A6 c6 p true w3 (Kd.C_below HC5.out hH3.below) Hc5.out hC6 hle6 (Pl.same_f' p (by have := HPL.out; omega)))
            have HH3 := Lib.hid (HH2.out.grow hH3.below)
            rw [← HNP.out] at HSM
            rw [← HNP.out]
            clear hR2 hRS2 hH3 hle6 hC6 HS2 HH2 HC5
            go_wp2_with fail
            refine HSM.out.mono ?_
            rintro e w4 ⟨rfl, hd4⟩
            have HH4 := Lib.hid (HH3.out.grow hd4.below)
            clear hd4 HH3 HSM
            go_wp2_with fail
            exact ⟨⟨1, by omega, rfl, HH4.out⟩, by simp [intOf]⟩
          | 1, _ =>
            obtain ⟨p, u, wb, e1, e2, hpl⟩ := Pl.scan_same f2 HFB2.out hf2b
            have HCx := Lib.hid (fun w' (H' : Holds w hf w') => show Kd.C (Kd.int .u8) w' Af f2.length f2 from (HN2.out w' H').2)
            have HS1 := Lib.hid (frame_Scan.calls 200000 Af cf f2 p u wb _ (HCx.out _ HS.out) (HN2.out _ HS.out).1 e1)
            rw [← HF2L.out] at HS1
            have HE2 := Lib.hid e2; have HPL := Lib.hid hpl
            clear e1 e2 hpl
            have hix0 := ix0
            have hix1 := ix1
            go_wp2_with fail
            clear hix0 hix1
            refine HS1.out.mono ?_
            rintro e w2 ⟨v1, rfl, hS1, hb1⟩
            obtain ⟨A5, c5, hv1, hc5, hC5⟩ := Kd.R_reads (Kd.S_R hS1)
            subst hv1
            obtain ⟨np, hnp⟩ : ∃ np, np = p.length := ⟨_, rfl⟩
            rw [← hnp]
            have HNP := Lib.hid hnp; have HC5 := Lib.hid hC5; have Hc5 := Lib.hid hc5
            have HH2 := Lib.hid (HS.out.grow hb1)
            clear hS1 hb1 hnp hC5 hc5 HS1
            have HS2 := Lib.hid (rscan_calls 300000 Af cf f2 p u wb w2 w2 [] HFB2.out hf2b (HN2.out _ HS.out).1 (fun w' H' => Kd.C_below (HCx.out _ HH2.out) H'.below) (Nat.le_refl _) HE2.out (Holds.nil w2))
            rw [← HF2L.out] at HS2
            go_wp2_with fail
            refine HS2.out.mono ?_
            rintro e w3 ⟨v2, vs2, hg2, hz2, rfl, hR2, hRS2, hH3⟩
            obtain ⟨A6, c6, rfl, _, _⟩ := RowB.form hR2
            obtain ⟨_, hle6, hC6⟩ := rowsI_C hR2 hRS2 hH3 (by have := HPL.out; omega)
            have HSM := Lib.hid (hourglassref1_Same.calls (p.length + 1) A5 c5 p A6 c6 p true w3 (Kd.C_below HC5.out hH3.below) Hc5.out hC6 hle6 (Pl.same_f' p (by have := HPL.out; omega)))
            have HH3 := Lib.hid (HH2.out.grow hH3.below)
            rw [← HNP.out] at HSM
            rw [← HNP.out]
            clear hR2 hRS2 hH3 hle6 hC6 HS2 HH2 HC5
            go_wp2_with fail
            refine HSM.out.mono ?_
            rintro e w4 ⟨rfl, hd4⟩
            have HH4 := Lib.hid (HH3.out.grow hd4.below)
            clear hd4 HH3 HSM
            go_wp2_with fail
            exact ⟨⟨2, by omega, rfl, HH4.out⟩, by simp [intOf]⟩
          | 2, _ =>
            go_wp2_with fail
            go_ret
            exact ⟨rfl, HS.out.below⟩
      by_cases hc0 : cut < 0
      · obtain ⟨a, rfl⟩ : ∃ a : Nat, at_ = a := ⟨at_.toNat, by omega⟩
        have haf : a < nf := by omega
        obtain ⟨x0, hx0⟩ : ∃ x, fb[a]? = some x := ⟨_, List.getElem?_eq_getElem (by rw [← HNF.out]; exact haf)⟩
        obtain ⟨g, cur, e1, e2, hsz, hput⟩ := row_put (n := nf) (r := fb) HRF.out (by omega)
        subst e1; subst e2
        have hq0 := hput.1 a x0 hx0 _ HH.out
        have hq1 : (_ : World).frozen? ⟨g, a, none⟩ = false := (show Holds w ((g, .cells cur 5 (0, 0)) :: []) _ from HH.out).froz a
        obtain ⟨z, hz⟩ : ∃ z, Go.bits .xor .u8 x0 by_ = z := ⟨_, rfl⟩
        obtain ⟨f1, hf1⟩ : ∃ f1, f1 = fb.set a z := ⟨_, rfl⟩
        have HRW := Lib.hid (show RowB 5 1 (.slice (some ⟨g, 0, none⟩) nf cf) nf (iv f1) [(g, .cells (cur.setIfInBounds a (.int .u8 z)) 5 (0, 0))] by rw [hf1]; exact hput.2 a z haf)
        have HW := Lib.hid ((show Holds w ((g, .cells cur 5 (0, 0)) :: []) _ from HH.out).set a (.int .u8 z))
        have HNF1 := Lib.hid (show nf = f1.length by rw [hf1, List.length_set]; exact HNF.out)
        have HFB1 := Lib.hid (show ∀ x ∈ f1, 0 ≤ x ∧ x < 256 by
          intro x hx
          rw [hf1] at hx
          rcases List.mem_or_eq_of_mem_set hx with hx | hx
          · exact HFB.out x hx
          · rw [hx, ← hz]; exact xor8_range _ _)
        clear hf1 hput hx0 hsz
        obtain ⟨f2, hf2⟩ : ∃ f2, f2 = f1 := ⟨_, rfl⟩
        have HF2L := Lib.hid (show nf = f2.length by rw [hf2]; exact HNF1.out)
        have HN2 := Lib.hid (fun w' (H' : Holds w [(g, .cells (cur.setIfInBounds a (.int .u8 z)) 5 (0, 0))] w') => show f2.length ≤ cf ∧ Kd.C (Kd.int .u8) w' (some ⟨g, 0, none⟩) f2.length f2 from by
          obtain ⟨_, g2, g3⟩ := row_C (A := (some ⟨g, 0, none⟩)) (n := nf) (c := cf) (r := f1) (by have := HRW.out; rw [HNF1.out] at this ⊢; exact this) (F := []) (show Holds w ([(g, .cells (cur.setIfInBounds a (.int .u8 z)) 5 (0, 0))] ++ []) w' by simpa using H') (by rw [← HNF1.out]; omega)
          rw [hf2]
          exact ⟨g2, g3⟩)
        have HFB2 := Lib.hid (show ∀ x ∈ f2, 0 ≤ x ∧ x < 256 by rw [hf2]; exact HFB1.out)
        have hf2b : f2.length ≤ 100000 := by rw [← HF2L.out]; omega
        clear hf2
        go_wp2_with fail
        have HS0 := Lib.hid (show Holds w [(g, .cells (cur.setIfInBounds a (.int .u8 z)) 5 (0, 0))] _ from HW.out)
        go_loopw [102] (fun i wr => FsS w [(g, .cells (cur.setIfInBounds a (.int .u8 z)) 5 (0, 0))] i wr) (fun i _ => 2 - (intOf i).toNat)
        case atStart => exact ⟨0, by omega, rfl, HS0.out⟩
        case round =>
          obtain ⟨k, hk, rfl, hS⟩ := hrel
          have HS := Lib.hid hS
          clear hS HS0
          match k, hk with
          | 0, _ =>
            obtain ⟨p, u, wb, e1, e2, hpl⟩ := Pl.scan_same b HB.out.2.2 (by omega)
            have HCx := Lib.hid (fun w' (H' : Holds w [(g, .cells (cur.setIfInBounds a (.int .u8 z)) 5 (0, 0))] w') => show Kd.C (Kd.int .u8) w' A0 b.length b from Kd.C_below HB.out.1 H'.below)
            have HS1 := Lib.hid (frame_Scan.calls 200000 A0 c0 b p u wb _ (HCx.out _ HS.out) HB.out.2.1 e1)
            have HE2 := Lib.hid e2; have HPL := Lib.hid hpl
            clear e1 e2 hpl
            have hix0 := ix0
            have hix1 := ix1
            go_wp2_with fail
            clear hix0 hix1
            refine HS1.out.mono ?_
            rintro e w2 ⟨v1, rfl, hS1, hb1⟩
            obtain ⟨A5, c5, hv1, hc5, hC5⟩ := Kd.R_reads (Kd.S_R hS1)
            subst hv1
            obtain ⟨np, hnp⟩ : ∃ np, np = p.length := ⟨_, rfl⟩
            rw [← hnp]
            have HNP := Lib.hid hnp; have HC5 := Lib.hid hC5; have Hc5 := Lib.hid hc5
            have HH2 := Lib.hid (HS.out.grow hb1)
            clear hS1 hb1 hnp hC5 hc5 HS1
            have HS2 := Lib.hid (rscan_calls 300000 A0 c0 b p u wb w2 w2 [] HB.out.2.2 (by omega) HB.out.2.1 (fun w' H' => Kd.C_below (HCx.out _ HH2.out) H'.below) (Nat.le_refl _) HE2.out (Holds.nil w2))
            go_wp2_with fail
            refine HS2.out.mono ?_
            rintro e w3 ⟨v2, vs2, hg2, hz2, rfl, hR2, hRS2, hH3⟩
            obtain ⟨A6, c6, rfl, _, _⟩ := RowB.form hR2
            obtain ⟨_, hle6, hC6⟩ := rowsI_C hR2 hRS2 hH3 (by have := HPL.out; omega)
            have HSM := Lib.hid (hourglassref1_Same.calls (p.length + 1) A5 c5 p A6 c6 p true w3 (Kd.C_below HC5.out hH3.below) Hc5.out hC6 hle6 (Pl.same_f' p (by have := HPL.out; omega)))
            have HH3 := Lib.hid (HH2.out.grow hH3.below)
            rw [← HNP.out] at HSM
            rw [← HNP.out]
            clear hR2 hRS2 hH3 hle6 hC6 HS2 HH2 HC5
            go_wp2_with fail
            refine HSM.out.mono ?_
            rintro e w4 ⟨rfl, hd4⟩
            have HH4 := Lib.hid (HH3.out.grow hd4.below)
            clear hd4 HH3 HSM
            go_wp2_with fail
            exact ⟨⟨1, by omega, rfl, HH4.out⟩, by simp [intOf]⟩
          | 1, _ =>
            obtain ⟨p, u, wb, e1, e2, hpl⟩ := Pl.scan_same f2 HFB2.out hf2b
            have HCx := Lib.hid (fun w' (H' : Holds w [(g, .cells (cur.setIfInBounds a (.int .u8 z)) 5 (0, 0))] w') => show Kd.C (Kd.int .u8) w' (some ⟨g, 0, none⟩) f2.length f2 from (HN2.out w' H').2)
            have HS1 := Lib.hid (frame_Scan.calls 200000 (some ⟨g, 0, none⟩) cf f2 p u wb _ (HCx.out _ HS.out) (HN2.out _ HS.out).1 e1)
            rw [← HF2L.out] at HS1
            have HE2 := Lib.hid e2; have HPL := Lib.hid hpl
            clear e1 e2 hpl
            have hix0 := ix0
            have hix1 := ix1
            go_wp2_with fail
            clear hix0 hix1
            refine HS1.out.mono ?_
            rintro e w2 ⟨v1, rfl, hS1, hb1⟩
            obtain ⟨A5, c5, hv1, hc5, hC5⟩ := Kd.R_reads (Kd.S_R hS1)
            subst hv1
            obtain ⟨np, hnp⟩ : ∃ np, np = p.length := ⟨_, rfl⟩
            rw [← hnp]
            have HNP := Lib.hid hnp; have HC5 := Lib.hid hC5; have Hc5 := Lib.hid hc5
            have HH2 := Lib.hid (HS.out.grow hb1)
            clear hS1 hb1 hnp hC5 hc5 HS1
            have HS2 := Lib.hid (rscan_calls 300000 (some ⟨g, 0, none⟩) cf f2 p u wb w2 w2 [] HFB2.out hf2b (HN2.out _ HS.out).1 (fun w' H' => Kd.C_below (HCx.out _ HH2.out) H'.below) (Nat.le_refl _) HE2.out (Holds.nil w2))
            rw [← HF2L.out] at HS2
            go_wp2_with fail
            refine HS2.out.mono ?_
            rintro e w3 ⟨v2, vs2, hg2, hz2, rfl, hR2, hRS2, hH3⟩
            obtain ⟨A6, c6, rfl, _, _⟩ := RowB.form hR2
            obtain ⟨_, hle6, hC6⟩ := rowsI_C hR2 hRS2 hH3 (by have := HPL.out; omega)
            have HSM := Lib.hid (hourglassref1_Same.calls (p.length + 1) A5 c5 p A6 c6 p true w3 (Kd.C_below HC5.out hH3.below) Hc5.out hC6 hle6 (Pl.same_f' p (by have := HPL.out; omega)))
            have HH3 := Lib.hid (HH2.out.grow hH3.below)
            rw [← HNP.out] at HSM
            rw [← HNP.out]
            clear hR2 hRS2 hH3 hle6 hC6 HS2 HH2 HC5
            go_wp2_with fail
            refine HSM.out.mono ?_
            rintro e w4 ⟨rfl, hd4⟩
            have HH4 := Lib.hid (HH3.out.grow hd4.below)
            clear hd4 HH3 HSM
            go_wp2_with fail
            exact ⟨⟨2, by omega, rfl, HH4.out⟩, by simp [intOf]⟩
          | 2, _ =>
            go_wp2_with fail
            go_ret
            exact ⟨rfl, HS.out.below⟩
      by_cases hc1 : (nf : Int) < cut
      · obtain ⟨a, rfl⟩ : ∃ a : Nat, at_ = a := ⟨at_.toNat, by omega⟩
        have haf : a < nf := by omega
        obtain ⟨x0, hx0⟩ : ∃ x, fb[a]? = some x := ⟨_, List.getElem?_eq_getElem (by rw [← HNF.out]; exact haf)⟩
        obtain ⟨g, cur, e1, e2, hsz, hput⟩ := row_put (n := nf) (r := fb) HRF.out (by omega)
        subst e1; subst e2
        have hq0 := hput.1 a x0 hx0 _ HH.out
        have hq1 : (_ : World).frozen? ⟨g, a, none⟩ = false := (show Holds w ((g, .cells cur 5 (0, 0)) :: []) _ from HH.out).froz a
        obtain ⟨z, hz⟩ : ∃ z, Go.bits .xor .u8 x0 by_ = z := ⟨_, rfl⟩
        obtain ⟨f1, hf1⟩ : ∃ f1, f1 = fb.set a z := ⟨_, rfl⟩
        have HRW := Lib.hid (show RowB 5 1 (.slice (some ⟨g, 0, none⟩) nf cf) nf (iv f1) [(g, .cells (cur.setIfInBounds a (.int .u8 z)) 5 (0, 0))] by rw [hf1]; exact hput.2 a z haf)
        have HW := Lib.hid ((show Holds w ((g, .cells cur 5 (0, 0)) :: []) _ from HH.out).set a (.int .u8 z))
        have HNF1 := Lib.hid (show nf = f1.length by rw [hf1, List.length_set]; exact HNF.out)
        have HFB1 := Lib.hid (show ∀ x ∈ f1, 0 ≤ x ∧ x < 256 by
          intro x hx
          rw [hf1] at hx
          rcases List.mem_or_eq_of_mem_set hx with hx | hx
          · exact HFB.out x hx
          · rw [hx, ← hz]; exact xor8_range _ _)
        clear hf1 hput hx0 hsz
        obtain ⟨f2, hf2⟩ : ∃ f2, f2 = f1 := ⟨_, rfl⟩
        have HF2L := Lib.hid (show nf = f2.length by rw [hf2]; exact HNF1.out)
        have HN2 := Lib.hid (fun w' (H' : Holds w [(g, .cells (cur.setIfInBounds a (.int .u8 z)) 5 (0, 0))] w') => show f2.length ≤ cf ∧ Kd.C (Kd.int .u8) w' (some ⟨g, 0, none⟩) f2.length f2 from by
          obtain ⟨_, g2, g3⟩ := row_C (A := (some ⟨g, 0, none⟩)) (n := nf) (c := cf) (r := f1) (by have := HRW.out; rw [HNF1.out] at this ⊢; exact this) (F := []) (show Holds w ([(g, .cells (cur.setIfInBounds a (.int .u8 z)) 5 (0, 0))] ++ []) w' by simpa using H') (by rw [← HNF1.out]; omega)
          rw [hf2]
          exact ⟨g2, g3⟩)
        have HFB2 := Lib.hid (show ∀ x ∈ f2, 0 ≤ x ∧ x < 256 by rw [hf2]; exact HFB1.out)
        have hf2b : f2.length ≤ 100000 := by rw [← HF2L.out]; omega
        clear hf2
        go_wp2_with fail
        have HS0 := Lib.hid (show Holds w [(g, .cells (cur.setIfInBounds a (.int .u8 z)) 5 (0, 0))] _ from HW.out)
        go_loopw [102] (fun i wr => FsS w [(g, .cells (cur.setIfInBounds a (.int .u8 z)) 5 (0, 0))] i wr) (fun i _ => 2 - (intOf i).toNat)
        case atStart => exact ⟨0, by omega, rfl, HS0.out⟩
        case round =>
          obtain ⟨k, hk, rfl, hS⟩ := hrel
          have HS := Lib.hid hS
          clear hS HS0
          match k, hk with
          | 0, _ =>
            obtain ⟨p, u, wb, e1, e2, hpl⟩ := Pl.scan_same b HB.out.2.2 (by omega)
            have HCx := Lib.hid (fun w' (H' : Holds w [(g, .cells (cur.setIfInBounds a (.int .u8 z)) 5 (0, 0))] w') => show Kd.C (Kd.int .u8) w' A0 b.length b from Kd.C_below HB.out.1 H'.below)
            have HS1 := Lib.hid (frame_Scan.calls 200000 A0 c0 b p u wb _ (HCx.out _ HS.out) HB.out.2.1 e1)
            have HE2 := Lib.hid e2; have HPL := Lib.hid hpl
            clear e1 e2 hpl
            have hix0 := ix0
            have hix1 := ix1
            go_wp2_with fail
            clear hix0 hix1
            refine HS1.out.mono ?_
            rintro e w2 ⟨v1, rfl, hS1, hb1⟩
            obtain ⟨A5, c5, hv1, hc5, hC5⟩ := Kd.R_reads (Kd.S_R hS1)
            subst hv1
            obtain ⟨np, hnp⟩ : ∃ np, np = p.length := ⟨_, rfl⟩
            rw [← hnp]
            have HNP := Lib.hid hnp; have HC5 := Lib.hid hC5; have Hc5 := Lib.hid hc5
            have HH2 := Lib.hid (HS.out.grow hb1)
            clear hS1 hb1 hnp hC5 hc5 HS1
            have HS2 := Lib.hid (rscan_calls 300000 A0 c0 b p u wb w2 w2 [] HB.out.2.2 (by omega) HB.out.2.1 (fun w' H' => Kd.C_below (HCx.out _ HH2.out) H'.below) (Nat.le_refl _) HE2.out (Holds.nil w2))
            go_wp2_with fail
            refine HS2.out.mono ?_
            rintro e w3 ⟨v2, vs2, hg2, hz2, rfl, hR2, hRS2, hH3⟩
            obtain ⟨A6, c6, rfl, _, _⟩ := RowB.form hR2
            obtain ⟨_, hle6, hC6⟩ := rowsI_C hR2 hRS2 hH3 (by have := HPL.out; omega)
            have HSM := Lib.hid (hourglassref1_Same.calls (p.length + 1) A5 c5 p A6 c6 p true w3 (Kd.C_below HC5.out hH3.below) Hc5.out hC6 hle6 (Pl.same_f' p (by have := HPL.out; omega)))
            have HH3 := Lib.hid (HH2.out.grow hH3.below)
            rw [← HNP.out] at HSM
            rw [← HNP.out]
            clear hR2 hRS2 hH3 hle6 hC6 HS2 HH2 HC5
            go_wp2_with fail
            refine HSM.out.mono ?_
            rintro e w4 ⟨rfl, hd4⟩
            have HH4 := Lib.hid (HH3.out.grow hd4.below)
            clear hd4 HH3 HSM
            go_wp2_with fail
            exact ⟨⟨1, by omega, rfl, HH4.out⟩, by simp [intOf]⟩
          | 1, _ =>
            obtain ⟨p, u, wb, e1, e2, hpl⟩ := Pl.scan_same f2 HFB2.out hf2b
            have HCx := Lib.hid (fun w' (H' : Holds w [(g, .cells (cur.setIfInBounds a (.int .u8 z)) 5 (0, 0))] w') => show Kd.C (Kd.int .u8) w' (some ⟨g, 0, none⟩) f2.length f2 from (HN2.out w' H').2)
            have HS1 := Lib.hid (frame_Scan.calls 200000 (some ⟨g, 0, none⟩) cf f2 p u wb _ (HCx.out _ HS.out) (HN2.out _ HS.out).1 e1)
            rw [← HF2L.out] at HS1
            have HE2 := Lib.hid e2; have HPL := Lib.hid hpl
            clear e1 e2 hpl
            have hix0 := ix0
            have hix1 := ix1
            go_wp2_with fail
            clear hix0 hix1
            refine HS1.out.mono ?_
            rintro e w2 ⟨v1, rfl, hS1, hb1⟩
            obtain ⟨A5, c5, hv1, hc5, hC5⟩ := Kd.R_reads (Kd.S_R hS1)
            subst hv1
            obtain ⟨np, hnp⟩ : ∃ np, np = p.length := ⟨_, rfl⟩
            rw [← hnp]
            have HNP := Lib.hid hnp; have HC5 := Lib.hid hC5; have Hc5 := Lib.hid hc5
            have HH2 := Lib.hid (HS.out.grow hb1)
            clear hS1 hb1 hnp hC5 hc5 HS1
            have HS2 := Lib.hid (rscan_calls 300000 (some ⟨g, 0, none⟩) cf f2 p u wb w2 w2 [] HFB2.out hf2b (HN2.out _ HS.out).1 (fun w' H' => Kd.C_below (HCx.out _ HH2.out) H'.below) (Nat.le_refl _) HE2.out (Holds.nil w2))
            rw [← HF2L.out] at HS2
            go_wp2_with fail
            refine HS2.out.mono ?_
            rintro e w3 ⟨v2, vs2, hg2, hz2, rfl, hR2, hRS2, hH3⟩
            obtain ⟨A6, c6, rfl, _, _⟩ := RowB.form hR2
            obtain ⟨_, hle6, hC6⟩ := rowsI_C hR2 hRS2 hH3 (by have := HPL.out; omega)
            have HSM := Lib.hid (hourglassref1_Same.calls (p.length + 1) A5 c5 p A6 c6 p true w3 (Kd.C_below HC5.out hH3.below) Hc5.out hC6 hle6 (Pl.same_f' p (by have := HPL.out; omega)))
            have HH3 := Lib.hid (HH2.out.grow hH3.below)
            rw [← HNP.out] at HSM
            rw [← HNP.out]
            clear hR2 hRS2 hH3 hle6 hC6 HS2 HH2 HC5
            go_wp2_with fail
            refine HSM.out.mono ?_
            rintro e w4 ⟨rfl, hd4⟩
            have HH4 := Lib.hid (HH3.out.grow hd4.below)
            clear hd4 HH3 HSM
            go_wp2_with fail
            exact ⟨⟨2, by omega, rfl, HH4.out⟩, by simp [intOf]⟩
          | 2, _ =>
            go_wp2_with fail
            go_ret
            exact ⟨rfl, HS.out.below⟩
      obtain ⟨a, rfl⟩ : ∃ a : Nat, at_ = a := ⟨at_.toNat, by omega⟩
      have haf : a < nf := by omega
      obtain ⟨x0, hx0⟩ : ∃ x, fb[a]? = some x := ⟨_, List.getElem?_eq_getElem (by rw [← HNF.out]; exact haf)⟩
      obtain ⟨g, cur, e1, e2, hsz, hput⟩ := row_put (n := nf) (r := fb) HRF.out (by omega)
      subst e1; subst e2
      have hq0 := hput.1 a x0 hx0 _ HH.out
      have hq1 : (_ : World).frozen? ⟨g, a, none⟩ = false := (show Holds w ((g, .cells cur 5 (0, 0)) :: []) _ from HH.out).froz a
      obtain ⟨z, hz⟩ : ∃ z, Go.bits .xor .u8 x0 by_ = z := ⟨_, rfl⟩
      obtain ⟨f1, hf1⟩ : ∃ f1, f1 = fb.set a z := ⟨_, rfl⟩
      have HRW := Lib.hid (show RowB 5 1 (.slice (some ⟨g, 0, none⟩) nf cf) nf (iv f1) [(g, .cells (cur.setIfInBounds a (.int .u8 z)) 5 (0, 0))] by rw [hf1]; exact hput.2 a z haf)
      have HW := Lib.hid ((show Holds w ((g, .cells cur 5 (0, 0)) :: []) _ from HH.out).set a (.int .u8 z))
      have HNF1 := Lib.hid (show nf = f1.length by rw [hf1, List.length_set]; exact HNF.out)
      have HFB1 := Lib.hid (show ∀ x ∈ f1, 0 ≤ x ∧ x < 256 by
        intro x hx
        rw [hf1] at hx
        rcases List.mem_or_eq_of_mem_set hx with hx | hx
        · exact HFB.out x hx
        · rw [hx, ← hz]; exact xor8_range _ _)
      clear hf1 hput hx0 hsz
      obtain ⟨n2, rfl⟩ : ∃ n2 : Nat, cut = n2 := ⟨cut.toNat, by omega⟩
      have hn2f : n2 ≤ nf := by omega
      obtain ⟨f2, hf2⟩ : ∃ f2, f2 = f1.take n2 := ⟨_, rfl⟩
      have HF2 := Lib.hid hf2
      have HF2L := Lib.hid (show n2 = f2.length by rw [hf2, List.length_take, ← HNF1.out]; omega)
      have HN2 := Lib.hid (fun w' (H' : Holds w [(g, .cells (cur.setIfInBounds a (.int .u8 z)) 5 (0, 0))] w') => show f2.length ≤ cf ∧ Kd.C (Kd.int .u8) w' (some ⟨g, 0, none⟩) f2.length f2 from by
        obtain ⟨_, g2, g3⟩ := row_C (A := (some ⟨g, 0, none⟩)) (n := nf) (c := cf) (r := f1) (by have := HRW.out; rw [HNF1.out] at this ⊢; exact this) (F := []) (show Holds w ([(g, .cells (cur.setIfInBounds a (.int .u8 z)) 5 (0, 0))] ++ []) w' by simpa using H') (by rw [← HNF1.out]; omega)
        obtain ⟨i5, z5, hi5, hz5, hs5, _, _⟩ := info5i
        obtain ⟨_, t2, t3⟩ := print_take_of (P := Try.prog) (Value.int .u8) (0 : Int) 23 5 .i64 Try.underlying23 hi5 hs5 (some ⟨g, 0, none⟩) cf f1 (n2 : Int) (by omega) (by rw [← HNF1.out]; omega) g2
        rw [Int.toNat_natCast, ← HF2.out] at t2 t3
        exact ⟨t3, Kd.C_of_reads (h1 := fun _ => rfl) (t2 w' (Kd.reads_of_C (h1 := fun _ => rfl) g3))⟩)
      have HFB2 := Lib.hid (show ∀ x ∈ f2, 0 ≤ x ∧ x < 256 from fun x hx => HFB1.out x (by rw [HF2.out] at hx; exact List.mem_of_mem_take hx))
      have hf2b : f2.length ≤ 100000 := by rw [← HF2L.out]; omega
      have hcut : ∀ W : World, (Instr.slice 23 (.slice (some ⟨g, 0, none⟩) nf cf) none (some (.int .i64 (n2 : Int))) none).run Try.prog W = .ok (.slice (some ⟨g, 0, none⟩) n2 cf) W := by
        obtain ⟨i5, z5, hi5, hz5, hs5, _, _⟩ := info5i
        have t1 := (print_take_of (P := Try.prog) (Value.int .u8) (0 : Int) 23 5 .i64 Try.underlying23 hi5 hs5 (some ⟨g, 0, none⟩) cf f1 (n2 : Int) (by omega) (by rw [← HNF1.out]; omega) (by rw [← HNF1.out]; exact hnc)).1
        rw [Int.toNat_natCast, ← HF2.out, ← HF2L.out, ← HNF1.out] at t1
        exact t1
      clear hf2
      go_wp2_with fail
      have HS0 := Lib.hid (show Holds w [(g, .cells (cur.setIfInBounds a (.int .u8 z)) 5 (0, 0))] _ from HW.out)
      go_loopw [102] (fun i wr => FsS w [(g, .cells (cur.setIfInBounds a (.int .u8 z)) 5 (0, 0))] i wr) (fun i _ => 2 - (intOf i).toNat)
      case atStart => exact ⟨0, by omega, rfl, HS0.out⟩
      case round =>
        obtain ⟨k, hk, rfl, hS⟩ := hrel
        have HS := Lib.hid hS
        clear hS HS0
        match k, hk with
        | 0, _ =>
          obtain ⟨p, u, wb, e1, e2, hpl⟩ := Pl.scan_same b HB.out.2.2 (by omega)
          have HCx := Lib.hid (fun w' (H' : Holds w [(g, .cells (cur.setIfInBounds a (.int .u8 z)) 5 (0, 0))] w') => show Kd.C (Kd.int .u8) w' A0 b.length b from Kd.C_below HB.out.1 H'.below)
          have HS1 := Lib.hid (frame_Scan.calls 200000 A0 c0 b p u wb _ (HCx.out _ HS.out) HB.out.2.1 e1)
          have HE2 := Lib.hid e2; have HPL := Lib.hid hpl
          clear e1 e2 hpl
          have hix0 := ix0
          have hix1 := ix1
          go_wp2_with fail
          clear hix0 hix1
          refine HS1.out.mono ?_
          rintro e w2 ⟨v1, rfl, hS1, hb1⟩
          obtain ⟨A5, c5, hv1, hc5, hC5⟩ := Kd.R_reads (Kd.S_R hS1)
          subst hv1
          obtain ⟨np, hnp⟩ : ∃ np, np = p.length := ⟨_, rfl⟩
          rw [← hnp]
          have HNP := Lib.hid hnp; have HC5 := Lib.hid hC5; have Hc5 := Lib.hid hc5
          have HH2 := Lib.hid (HS.out.grow hb1)
          clear hS1 hb1 hnp hC5 hc5 HS1
          have HS2 := Lib.hid (rscan_calls 300000 A0 c0 b p u wb w2 w2 [] HB.out.2.2 (by omega) HB.out.2.1 (fun w' H' => Kd.C_below (HCx.out _ HH2.out) H'.below) (Nat.le_refl _) HE2.out (Holds.nil w2))
          go_wp2_with fail
          refine HS2.out.mono ?_
          rintro e w3 ⟨v2, vs2, hg2, hz2, rfl, hR2, hRS2, hH3⟩
          obtain ⟨A6, c6, rfl, _, _⟩ := RowB.form hR2
          obtain ⟨_, hle6, hC6⟩ := rowsI_C hR2 hRS2 hH3 (by have := HPL.out; omega)
          have HSM := Lib.hid (hourglassref1_Same.calls (p.length + 1) A5 c5 p A6 c6 p true w3 (Kd.C_below HC5.out hH3.below) Hc5.out hC6 hle6 (Pl.same_f' p (by have := HPL.out; omega)))
          have HH3 := Lib.hid (HH2.out.grow hH3.below)
          rw [← HNP.out] at HSM
          rw [← HNP.out]
          clear hR2 hRS2 hH3 hle6 hC6 HS2 HH2 HC5
          go_wp2_with fail
          refine HSM.out.mono ?_
          rintro e w4 ⟨rfl, hd4⟩
          have HH4 := Lib.hid (HH3.out.grow hd4.below)
          clear hd4 HH3 HSM
          go_wp2_with fail
          exact ⟨⟨1, by omega, rfl, HH4.out⟩, by simp [intOf]⟩
        | 1, _ =>
          obtain ⟨p, u, wb, e1, e2, hpl⟩ := Pl.scan_same f2 HFB2.out hf2b
          have HCx := Lib.hid (fun w' (H' : Holds w [(g, .cells (cur.setIfInBounds a (.int .u8 z)) 5 (0, 0))] w') => show Kd.C (Kd.int .u8) w' (some ⟨g, 0, none⟩) f2.length f2 from (HN2.out w' H').2)
          have HS1 := Lib.hid (frame_Scan.calls 200000 (some ⟨g, 0, none⟩) cf f2 p u wb _ (HCx.out _ HS.out) (HN2.out _ HS.out).1 e1)
          rw [← HF2L.out] at HS1
          have HE2 := Lib.hid e2; have HPL := Lib.hid hpl
          clear e1 e2 hpl
          have hix0 := ix0
          have hix1 := ix1
          go_wp2_with fail
          clear hix0 hix1
          refine HS1.out.mono ?_
          rintro e w2 ⟨v1, rfl, hS1, hb1⟩
          obtain ⟨A5, c5, hv1, hc5, hC5⟩ := Kd.R_reads (Kd.S_R hS1)
          subst hv1
          obtain ⟨np, hnp⟩ : ∃ np, np = p.length := ⟨_, rfl⟩
          rw [← hnp]
          have HNP := Lib.hid hnp; have HC5 := Lib.hid hC5; have Hc5 := Lib.hid hc5
          have HH2 := Lib.hid (HS.out.grow hb1)
          clear hS1 hb1 hnp hC5 hc5 HS1
          have HS2 := Lib.hid (rscan_calls 300000 (some ⟨g, 0, none⟩) cf f2 p u wb w2 w2 [] HFB2.out hf2b (HN2.out _ HS.out).1 (fun w' H' => Kd.C_below (HCx.out _ HH2.out) H'.below) (Nat.le_refl _) HE2.out (Holds.nil w2))
          rw [← HF2L.out] at HS2
          go_wp2_with fail
          refine HS2.out.mono ?_
          rintro e w3 ⟨v2, vs2, hg2, hz2, rfl, hR2, hRS2, hH3⟩
          obtain ⟨A6, c6, rfl, _, _⟩ := RowB.form hR2
          obtain ⟨_, hle6, hC6⟩ := rowsI_C hR2 hRS2 hH3 (by have := HPL.out; omega)
          have HSM := Lib.hid (hourglassref1_Same.calls (p.length + 1) A5 c5 p A6 c6 p true w3 (Kd.C_below HC5.out hH3.below) Hc5.out hC6 hle6 (Pl.same_f' p (by have := HPL.out; omega)))
          have HH3 := Lib.hid (HH2.out.grow hH3.below)
          rw [← HNP.out] at HSM
          rw [← HNP.out]
          clear hR2 hRS2 hH3 hle6 hC6 HS2 HH2 HC5
          go_wp2_with fail
          refine HSM.out.mono ?_
          rintro e w4 ⟨rfl, hd4⟩
          have HH4 := Lib.hid (HH3.out.grow hd4.below)
          clear hd4 HH3 HSM
          go_wp2_with fail
          exact ⟨⟨2, by omega, rfl, HH4.out⟩, by simp [intOf]⟩
        | 2, _ =>
          go_wp2_with fail
          go_ret
          exact ⟨rfl, HS.out.below⟩
end Go.Proofs.Ytacbaiflblngfaa
