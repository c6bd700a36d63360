/- Chapter 10's own answer for Sort: a new slice, keys put in one by one. Conditions: the reach. -/
import Derived.Test.YtnmnniknklfemaaFk
import Derived.Test.YtnmnniknklfemaaKr
import Derived.Test.YtnmnniknklfemaaQt
import Derived.Test.YtnmnniknklfemaaOs
namespace Go.Proofs.Ytnmnniknklfemaa
open Go.RowKit
open Go.Proofs.Ytnmnniknklfemaa.Sp
set_option linter.unusedVariables false
set_option linter.unusedSimpArgs false
def pos (L : List K16) (x : K16) : Nat := (L.takeWhile fun y => decide (cmpK y.1 x.1 < 0)).length
def fd (L : List K16) (x : K16) : Bool := match L[pos L x]? with | some y => keq y.1 x.1 | none => false
def insK (L : List K16) (x : K16) : List K16 := if fd L x then L else L.take (pos L x) ++ x :: L.drop (pos L x)
def rsortK (ks : List K16) : List K16 := ks.foldl insK []
theorem pos_le (L : List K16) (x : K16) : pos L x ≤ L.length := (List.takeWhile_sublist _).length_le
theorem pos_lo : ∀ (L : List K16) (x : K16) (k : Nat) (y : K16), k < pos L x → L[k]? = some y → cmpK y.1 x.1 < 0
  | [], x, k, y, h, _ => by simp [pos] at h
  | z :: L, x, k, y, h, e => by
    unfold pos at h
    rw [List.takeWhile_cons] at h
    split at h
    · rename_i hz
      cases k with
      | zero => simp at e; subst e; simpa using hz
      | succ k => exact pos_lo L x k y (by unfold pos; simpa using h) (by simpa using e)
    · simp at h
theorem pos_hi : ∀ (L : List K16) (x : K16) (y : K16), L[pos L x]? = some y → ¬ cmpK y.1 x.1 < 0
  | [], x, y, e => by simp at e
  | z :: L, x, y, e => by
    unfold pos at e
    rw [List.takeWhile_cons] at e
    split at e
    · exact pos_hi L x y (by unfold pos; simpa using e)
    · rename_i hz
      simp at e
      subst e
      simpa using hz
theorem ins_len (L : List K16) (x : K16) : (insK L x).length ≤ L.length + 1 := by
  have := pos_le L x
  unfold insK
  split
  · omega
  · simp only [List.length_append, List.length_take, List.length_cons, List.length_drop]; omega
theorem fold_take (ks : List K16) (k : Nat) (hk : k < ks.length) : (ks.take (k + 1)).foldl insK [] = insK ((ks.take k).foldl insK []) ks[k] := by
  rw [List.take_succ_eq_append_getElem hk, List.foldl_append]; rfl
theorem wpA {P : Program} {o : Oper} {a : Act} {w w' : World} {K : Act → World → Prop} {Q : Exit → Act → World → Prop} (s x : Operand) {t u : TypeId} {v v1 v' : Value}
    (ho : o.op = .call { callee := .builtin .append, args := #[s, x], argTypes := #[t, u] }) (hs : a.eval s = v) (hx : a.eval x = v1) (hrun : (Builtin.append_ #[t, u] o.type #[v, v1]).run P w = .ok v' w') (hK : K (a.put o.dst v') w') : o.wp P a w K Q := by
  unfold Oper.wp execOp
  simp only [ho, resolve, invoke, builtin, Sem.run_bind, Sem.run_pure, Result.andThen_ok, List.map_toArray, List.map_cons, List.map_nil, hs, hx, hrun]
  exact hK
theorem wpK {o : Oper} {a : Act} {w : World} {K : Act → World → Prop} {Q : Exit → Act → World → Prop} (x : Operand) (ad : Addr) {v : Value} (ho : o.op = .load 23 x)
    (hx : a.eval x = .pointer (some ad)) (hrun : (loadVar 23 ad).run Try.prog w = .ok v w) (hK : K (a.put o.dst v) w) : o.wp Try.prog a w K Q := by
  unfold Oper.wp execOp
  simp only [ho, hx, Instr.loadAt, Instr.sureAddr, Sem.run_bind, Sem.run_pure, Result.andThen_ok, hrun]
  exact hK
theorem cut_lo (A : Option Addr) (n c p : Nat) (hp : p ≤ n) (hn : n ≤ c) (W : World) : (Instr.slice 35 (.slice A n c) (some (.int .i64 (p : Int))) none none).run Try.prog W = .ok (.slice (if c = p then A else A.map fun a => a.add (p * 16)) (n - p) (c - p)) W := by
  obtain ⟨i, z, hi, hz, q1, q2⟩ := info23i
  have hel : Try.prog.elem 35 = 23 := by simp [Program.elem, Try.underlying35]
  have hu : Try.prog.underlying 35 = some (.slice (Try.prog.elem 35)) := by rw [hel]; exact Try.underlying35
  rw [run_slice_l W 35 A n c hu .i64 (p : Int) (by omega) (by omega), hel]
  simp [sizeOf, typeInfo, hi, q1, sliced, Result.andThen]
theorem kat_take {w : World} {A : Option Addr} {L : List K16} (h : KAt w A L) (k : Nat) (hk : k ≤ L.length) (hA : A = none → L.length = 0) : Reads w A k 16 (flat (L.take k)) := by
  refine ⟨by rw [flat_len, List.length_take]; omega, fun e => by have := hA e; omega, fun ad had j u hj => ?_⟩
  have hlt : j < (flat (L.take k)).length := (List.getElem?_eq_some_iff.mp hj).1
  rw [flat_len, List.length_take] at hlt
  obtain ⟨b, off, rfl, _, hc⟩ := h (by omega)
  injection had with had
  subst had
  have e : (⟨b, off, none⟩ : Addr).add j = ⟨b, off + j, none⟩ := by unfold Addr.add; split <;> simp_all
  rw [e]
  refine hc j u ?_
  rw [← flat_take, List.getElem?_take] at hj
  split at hj
  · exact hj
  · cases hj
theorem kat_drop {w : World} {A : Option Addr} {L : List K16} {c : Nat} (h : KAt w A L) (k : Nat) (hk : k ≤ L.length) (hA : A = none → L.length = 0) (hlc : L.length ≤ c) : Reads w (if c = k then A else A.map fun a => a.add (k * 16)) (L.length - k) 16 (flat (L.drop k)) := by
  refine ⟨by rw [flat_len, List.length_drop], fun e => ?_, fun ad had j u hj => ?_⟩
  · by_cases hck : c = k
    · omega
    · rw [if_neg hck] at e
      have := hA (by simpa using e); omega
  · have hlt : j < (flat (L.drop k)).length := (List.getElem?_eq_some_iff.mp hj).1
    rw [flat_len, List.length_drop] at hlt
    obtain ⟨b, off, rfl, _, hc⟩ := h (by omega)
    rw [if_neg (by omega)] at had
    injection had with had
    subst had
    have e : ((⟨b, off, none⟩ : Addr).add (k * 16)).add j = ⟨b, off + (k * 16 + j), none⟩ := by unfold Addr.add; split <;> simp_all <;> (split <;> simp_all [Nat.add_assoc])
    rw [e]
    refine hc _ _ ?_
    rw [← flat_drop, List.getElem?_drop] at hj
    exact hj
theorem quiet_ldk {C : World → Prop} {K : Act → Prop} {o : Oper} {a : Act} (x : Operand) (ho : o.op = .load 23 x) (ad : Addr) (hx : a.eval x = .pointer (some ad)) (l : List UInt8) (hc : ∀ w, C w → ∀ j, j < 16 → w.cell? (ad.add j) = some (.int .u8 (kb l j)))
    (hk : K (a.put o.dst (.agg (kv l)))) : o.quiet Try.prog a C K :=
  quiet_val (.agg (kv l)) (fun w hw => by
    unfold execOp
    simp only [ho, hx, Instr.loadAt, Instr.sureAddr, Sem.run_bind, Sem.run_pure, Result.andThen_ok, run_load_key ad l (hc w hw)]) hk
theorem run_eqIn (l m : List UInt8) (w : World) : (Op.equalIn 10000 23 (.agg (kv l)) (.agg (kv m))).run Try.prog w = .ok (keq l m) w := by
  obtain ⟨i5, hi5, _⟩ := Option.map_eq_some_iff.1 (show (Try.prog.info? 5).map (·.size) = some 1 by kernel_rfl)
  rw [show (10000 : Nat) = (9998 + 1) + 1 from rfl, run_equalIn_array w (9998 + 1) (kv l) (kv m) und23 hi5, run_items l m w 9998 _ (fun i hi => by simpa using hi), all_pad]
theorem reads_k {w0 w : World} {F : Hp} {g : Nat} {x : K16} (H : Sp.Holds w0 ((g, .cells (kv x.1) 23) :: F) w) : Reads w (some ⟨g, 0, none⟩) 1 16 (encK x) := by
  refine ⟨rfl, (fun h => by cases h), fun ad had j u hj => ?_⟩
  injection had with had
  subst had
  have e : (⟨g, 0, none⟩ : Addr).add j = ⟨g, j, none⟩ := by simp [Addr.add]; omega
  rw [e, H.cell j, ← Array.getElem?_toList]
  exact hj
set_option maxRecDepth 100000 in
set_option maxHeartbeats 8000000 in
theorem rsort_calls (A : Option Addr) (c : Nat) (ks : List K16) (w : World) (hn : ks.length ≤ 1000) (hK0 : KAt w A ks) :
    Calls Try.prog 24 #[.slice A ks.length c] w fun e w' => ∃ v, e = .returned v ∧ ∃ h, RowB 23 16 v (rsortK ks).length (flat (rsortK ks)) h ∧ Sp.Holds w h w' := by
  have HKA := Lib.hid hK0
  clear hK0
  obtain ⟨len, hlen⟩ : ∃ len, ks.length = len := ⟨_, rfl⟩
  have HLEN := Lib.hid hlen
  rw [hlen] at hn ⊢
  clear hlen
  go_enter Try.func24, Try.ntmps24
  go_wp2_with fail
  go_loopw [3, 4] (fun s i wr => ∃ (k m : Nat) (B : Option Addr) (cb : Nat) (L : List K16) (hr : Hp), k ≤ len ∧ i = .int .i64 k ∧ s = .slice B m cb ∧ RowB 23 16 (.slice B m cb) m (flat L) hr ∧ Sp.Holds w hr wr ∧ L = (ks.take k).foldl insK [] ∧ L.length = m ∧ m ≤ k) (fun _ i _ => len - (intOf i).toNat)
  case atStart => exact ⟨0, 0, none, 0, [], [], by omega, rfl, rfl, RowB.nil _ _, Sp.Holds.nil w, rfl, rfl, by omega⟩
  case round =>
    obtain ⟨k, m, B, cb, L, hr, hk, rfl, rfl, hR, hH, hL, hm, hmk⟩ := hrel
    obtain ⟨B2, cb2, hf1, hmc, hBn⟩ := RowB.form hR
    injection hf1 with f1 f2 f3
    subst f1; subst f3
    have HR := Lib.hid hR
    have HH := Lib.hid hH
    have HL := Lib.hid hL
    have HM := Lib.hid hm
    have HBN := Lib.hid hBn
    clear hR hH hL hm hBn
    by_cases hlt : k < len
    · have hki : (k : Int) < (len : Int) := by omega
      have hkl : k < ks.length := by rw [HLEN.out]; exact hlt
      obtain ⟨x, hx⟩ : ∃ x, ks[k] = x := ⟨_, rfl⟩
      have HX := Lib.hid hx
      clear hx
      obtain ⟨bl, ol, hA, hbl, hcl⟩ := HKA.out (by omega)
      subst hA
      clear hbl hcl
      have HLX := Lib.hid (fun w2 (hB : Below w.heap.size w w2) => show ∀ j, j < 16 → w2.cell? ((⟨bl, ol + k * 16, none⟩ : Addr).add j) = some (.int .u8 (kb x.1 j)) from fun j hj => by
        have := (HKA.out.below hB).key k hkl j hj
        rwa [HX.out] at this)
      obtain ⟨Pn, hP⟩ : ∃ Pn, Pn = pos L x := ⟨_, rfl⟩
      have hPm : Pn ≤ m := by rw [hP, ← HM.out]; exact pos_le L x
      have HPL := Lib.hid (show ∀ j y, j < Pn → L[j]? = some y → cmpK y.1 x.1 < 0 by rw [hP]; exact pos_lo L x)
      have HPH := Lib.hid (show ∀ y, L[Pn]? = some y → ¬ cmpK y.1 x.1 < 0 by rw [hP]; exact pos_hi L x)
      have HIN := Lib.hid (show insK L x = if (match L[Pn]? with | some y => keq y.1 x.1 | none => false) then L else L.take Pn ++ x :: L.drop Pn by rw [hP]; rfl)
      have HNX := Lib.hid (show (ks.take (k + 1)).foldl insK [] = insK L x by rw [fold_take ks k hkl, HX.out, ← HL.out])
      clear hP
      go_wp2_with fail
      go_loopw [5] (fun j w2 => ∃ q : Nat, q ≤ Pn ∧ j = .int .i64 q ∧ Sp.Holds w hr w2) (fun j _ => Pn - (intOf j).toNat)
      case atStart => exact ⟨0, by omega, rfl, HH.out⟩
      case round =>
        obtain ⟨q, hq, rfl, hH2⟩ := hrel
        have HH2 := Lib.hid hH2
        have HBW := Lib.hid hH2.below
        clear hH2
        by_cases hqm : q < m
        · have hqi : (q : Int) < (m : Int) := by omega
          obtain ⟨y, hy⟩ : ∃ y, L[q]? = some y := ⟨_, List.getElem?_eq_getElem (by rw [HM.out]; exact hqm)⟩
          have hqL : q < L.length := by rw [HM.out]; exact hqm
          have KAL := KAt.of_row (A := B) (c := cb) HR.out (show Sp.Holds w (hr ++ []) _ by rw [List.append_nil]; exact HH2.out)
          obtain ⟨bs, os, hB, hbs, hcs⟩ := KAL (by omega)
          subst hB
          clear hbs hcs
          have HLY := Lib.hid (fun w2 (hB : Below _ wr w2) => show ∀ j, j < 16 → w2.cell? ((⟨bs, os + q * 16, none⟩ : Addr).add j) = some (.int .u8 (kb y.1 j)) from fun j hj => by
            have := (KAL.below hB).key q hqL j hj
            rw [List.getElem?_eq_getElem hqL] at hy
            injection hy with hy
            rwa [hy] at this)
          have HY := Lib.hid hy
          clear hy KAL
          have HLX2 := Lib.hid (fun w2 (hB : Below _ wr w2) => HLX.out w2 (HBW.out.trans (hB.mono HBW.out.size)))
          by_cases hc : cmpK y.1 x.1 < 0
          · have hqP : q < Pn := by
              rcases Nat.lt_or_ge q Pn with h | h
              · exact h
              · obtain rfl : q = Pn := by omega
                have := HPH.out y HY.out; omega
            go_wp2_with fail
            refine region_quiet_lit (C := fun w' => Below wr.heap.size wr w') (by kernel_rfl) (by kernel_rfl) (Below.refl _ _).drew ?_
            go_big_quiet_step (exact fun _ => rfl)
            go_big_quiet_step (exact fun _ => rfl)
            go_big_quiet_step (exact fun _ => rfl)
            go_big_quiet_step (exact fun _ => rfl)
            go_big_quiet_step (exact fun _ => rfl)
            go_big_quiet_step (exact fun _ => rfl)
            go_big_quiet_step (exact fun _ => rfl)
            go_big_quiet_step (exact fun _ => rfl)
            refine BigFrame.wpQuiet_want rfl (fun K hK => ?_)
            refine quiet_ldk (.tmp 19) rfl ⟨bs, os + q * 16, none⟩ (by simp [go_sem]) y.1 (fun w2 hw => HLY.out w2 hw) (hK _ ?_)
            clear hK K
            simp only [Act.put, List.setIfInBounds_toArray, List.set_cons_zero, List.set_cons_succ]
            go_big_quiet_step (exact fun _ => rfl)
            go_big_quiet_step (exact fun _ => rfl)
            go_big_quiet_step (exact fun _ => rfl)
            refine BigFrame.wpQuiet_want rfl (fun K hK => ?_)
            refine quiet_ldk (.tmp 23) rfl ⟨bl, ol + k * 16, none⟩ (by simp [go_sem]) x.1 (fun w2 hw => HLX2.out w2 hw) (hK _ ?_)
            clear hK K
            simp only [Act.put, List.setIfInBounds_toArray, List.set_cons_zero, List.set_cons_succ]
            refine BigFrame.wpQuiet_want rfl (fun K hK => ?_)
            refine quiet_call 20 #[.agg (kv y.1), .agg (kv x.1)] (.int .i64 (cmpK y.1 x.1)) (fun w2 => by simp [go_sem]) (fun w2 hw => (rcmp_calls y.1 x.1 w2).mono fun e w3 hh => ⟨hh.1, hw.trans (hh.2.mono hw.size)⟩) (hK _ ?_)
            clear hK K
            simp only [Act.put, List.setIfInBounds_toArray, List.set_cons_zero, List.set_cons_succ]
            go_big_quiet_step (exact fun _ => rfl)
            go_big_quiet_step (exact fun _ => rfl)
            refine wpQuiet_nil ?_
            intro w4 hw4
            go_wp2_with fail
            go_roundw
            case rel => exact ⟨q + 1, by omega, by go_num, HH2.out.grow hw4⟩
            case measure => simp [intOf]; omega
          · have hqP : q = Pn := by
              rcases Nat.lt_or_ge q Pn with h | h
              · have := HPL.out q y h HY.out; omega
              · omega
            subst hqP
            go_wp2_with fail
            refine region_quiet_lit (C := fun w' => Below wr.heap.size wr w') (by kernel_rfl) (by kernel_rfl) (Below.refl _ _).drew ?_
            go_big_quiet_step (exact fun _ => rfl)
            go_big_quiet_step (exact fun _ => rfl)
            go_big_quiet_step (exact fun _ => rfl)
            go_big_quiet_step (exact fun _ => rfl)
            go_big_quiet_step (exact fun _ => rfl)
            go_big_quiet_step (exact fun _ => rfl)
            go_big_quiet_step (exact fun _ => rfl)
            go_big_quiet_step (exact fun _ => rfl)
            refine BigFrame.wpQuiet_want rfl (fun K hK => ?_)
            refine quiet_ldk (.tmp 19) rfl ⟨bs, os + q * 16, none⟩ (by simp [go_sem]) y.1 (fun w2 hw => HLY.out w2 hw) (hK _ ?_)
            clear hK K
            simp only [Act.put, List.setIfInBounds_toArray, List.set_cons_zero, List.set_cons_succ]
            go_big_quiet_step (exact fun _ => rfl)
            go_big_quiet_step (exact fun _ => rfl)
            go_big_quiet_step (exact fun _ => rfl)
            refine BigFrame.wpQuiet_want rfl (fun K hK => ?_)
            refine quiet_ldk (.tmp 23) rfl ⟨bl, ol + k * 16, none⟩ (by simp [go_sem]) x.1 (fun w2 hw => HLX2.out w2 hw) (hK _ ?_)
            clear hK K
            simp only [Act.put, List.setIfInBounds_toArray, List.set_cons_zero, List.set_cons_succ]
            refine BigFrame.wpQuiet_want rfl (fun K hK => ?_)
            refine quiet_call 20 #[.agg (kv y.1), .agg (kv x.1)] (.int .i64 (cmpK y.1 x.1)) (fun w2 => by simp [go_sem]) (fun w2 hw => (rcmp_calls y.1 x.1 w2).mono fun e w3 hh => ⟨hh.1, hw.trans (hh.2.mono hw.size)⟩) (hK _ ?_)
            clear hK K
            simp only [Act.put, List.setIfInBounds_toArray, List.set_cons_zero, List.set_cons_succ]
            go_big_quiet_step (exact fun _ => rfl)
            go_big_quiet_step (exact fun _ => rfl)
            refine wpQuiet_nil ?_
            intro w4 hw4
            have HH4 := Lib.hid (HH2.out.grow hw4)
            have HLY4 := Lib.hid (fun w2 (hB : Below w4.heap.size w4 w2) => HLY.out w2 (hw4.trans (hB.mono hw4.size)))
            have HLX4 := Lib.hid (fun w2 (hB : Below w4.heap.size w4 w2) => HLX2.out w2 (hw4.trans (hB.mono hw4.size)))
            clear hw4
            go_wp2_with fail
            obtain ⟨eqb, heq⟩ : ∃ b, keq y.1 x.1 = b := ⟨_, rfl⟩
            have HEQ := Lib.hid heq
            clear heq
            refine region_quiet_lit (C := fun w' => Below w4.heap.size w4 w') (by kernel_rfl) (by kernel_rfl) (Below.refl _ _).drew ?_
            go_big_quiet_step (exact fun _ => rfl)
            go_big_quiet_step (exact fun _ => rfl)
            go_big_quiet_step (exact fun _ => rfl)
            go_big_quiet_step (exact fun _ => rfl)
            go_big_quiet_step (exact fun _ => rfl)
            go_big_quiet_step (exact fun _ => rfl)
            go_big_quiet_step (exact fun _ => rfl)
            go_big_quiet_step (exact fun _ => rfl)
            refine BigFrame.wpQuiet_want rfl (fun K hK => ?_)
            refine quiet_ldk (.tmp 37) rfl ⟨bs, os + q * 16, none⟩ (by simp [go_sem]) y.1 (fun w2 hw => HLY4.out w2 hw) (hK _ ?_)
            clear hK K
            simp only [Act.put, List.setIfInBounds_toArray, List.set_cons_zero, List.set_cons_succ]
            go_big_quiet_step (exact fun _ => rfl)
            go_big_quiet_step (exact fun _ => rfl)
            go_big_quiet_step (exact fun _ => rfl)
            refine BigFrame.wpQuiet_want rfl (fun K hK => ?_)
            refine quiet_ldk (.tmp 41) rfl ⟨bl, ol + k * 16, none⟩ (by simp [go_sem]) x.1 (fun w2 hw => HLX4.out w2 hw) (hK _ ?_)
            clear hK K
            simp only [Act.put, List.setIfInBounds_toArray, List.set_cons_zero, List.set_cons_succ]
            refine BigFrame.wpQuiet_want rfl (fun K hK => ?_)
            refine quiet_val (.bool eqb) (fun w2 hw => by simp [go_sem, run_eqIn, HEQ.out]) (hK _ ?_)
            clear hK K
            simp only [Act.put, List.setIfInBounds_toArray, List.set_cons_zero, List.set_cons_succ]
            go_big_quiet_step (exact fun _ => rfl)
            refine wpQuiet_nil ?_
            intro w5 hw5
            have HH5 := Lib.hid (HH4.out.grow hw5)
            clear hw5
            cases eqb
            · have HINS := Lib.hid (show insK L x = L.take q ++ x :: L.drop q by rw [HIN.out, HY.out]; simp only [HEQ.out]; rfl)
              go_wp2_with fail
              obtain ⟨DA, hDA⟩ : ∃ DA, DA = (if cb = q then (some ⟨bs, os, none⟩ : Option Addr) else (some ⟨bs, os, none⟩ : Option Addr).map fun a => a.add (q * 16)) := ⟨_, rfl⟩
              have HDA := Lib.hid hDA
              clear hDA
              have HDN := Lib.hid (show DA = none → cb - q = 0 from fun h => by rw [HDA.out] at h; split at h <;> simp at h)
              refine wp_region_own 15 (fun k => match k with | 4 => [0] | 10 => [4, 9] | 14 => [10] | 15 => [14] | _ => []) (by kernel_rfl) (by kernel_rfl) (by kernel_rfl) (by kernel_rfl) (Nat.le_of_ble_eq_true (by kernel_rfl)) w (fun Ls hs => hs = hr) (fun i v h => match i with | 0 => RowB 23 16 v 0 [] h | 1 => v = .slice (some ⟨bs, os, none⟩) m cb ∧ h = [] | 2 => v = .int .i64 (q : Nat) ∧ h = [] | 3 => v = .slice (some ⟨bs, os, none⟩) q cb ∧ h = [] | 4 => RowB 23 16 v q (flat (L.take q)) h | 5 => v = .slice (some ⟨bl, ol, none⟩) len c ∧ h = [] | 6 => v = .int .i64 (k : Nat) ∧ h = [] | 7 => v = .pointer (some ⟨bl, ol + k * 16, none⟩) ∧ h = [] | 8 => v = .agg (kv x.1) ∧ h = [] | 9 => ∃ g, v = .slice (some ⟨g, 0, none⟩) 1 1 ∧ h = [(g, .cells (kv x.1) 23)] | 10 => RowB 23 16 v (q + 1) ((flat (L.take q)) ++ encK x) h | 11 => v = .slice (some ⟨bs, os, none⟩) m cb ∧ h = [] | 12 => v = .int .i64 (q : Nat) ∧ h = [] | 13 => v = .slice DA (m - q) (cb - q) ∧ h = [] | 14 => RowB 23 16 v (q + 1 + (m - q)) ((flat (L.take q)) ++ encK x ++ (flat (L.drop q))) h | _ => True) (hr) (rfl) (HH5.out.drew) ?_ ?_
              · intro i o hi ho Ls f Hf hs R w1 hI hL hd hH
                simp only [fill, List.take_succ_cons, List.take_zero, Act.put, List.setIfInBounds_toArray, List.set_cons_zero, List.set_cons_succ]
                match i, hi with
                | 0, _ =>
                  obtain rfl := Option.some.inj ho
                  clear hd ho
                  have hH : Holds w (hs ++ ([] ++ R)) w1 := hH
                  rw [show hs = hr from hI] at hH
                  clear hI
                  unfold wpOp
                  refine Or.inl ?_
                  unfold Oper.wp
                  go_simp
                  exact OwnBy.mk _ [(w1.heap.size, .cells #[] 23)] _ rfl rfl (RowB.lit hH #[] 0 (by decide) rfl) ((hH.alloc (.cells #[] 23)).perm (by classical rw [List.perm_iff_count]; intro a; simp only [List.count_append, List.count_cons, List.count_nil] <;> omega))
                | 1, _ =>
                  obtain rfl := Option.some.inj ho
                  clear hd ho
                  have hH : Holds w (hs ++ ([] ++ R)) w1 := hH
                  rw [show hs = hr from hI] at hH
                  clear hI
                  unfold wpOp
                  refine Or.inl ?_
                  unfold Oper.wp
                  go_simp
                  exact OwnBy.mk _ _ _ rfl (rfl) (⟨rfl, rfl⟩) (hH)
                | 2, _ =>
                  obtain rfl := Option.some.inj ho
                  clear hd ho
                  have hH : Holds w (hs ++ ([] ++ R)) w1 := hH
                  rw [show hs = hr from hI] at hH
                  clear hI
                  unfold wpOp
                  refine Or.inl ?_
                  unfold Oper.wp
                  go_simp
                  exact OwnBy.mk _ _ _ rfl (rfl) (⟨rfl, rfl⟩) (hH)
                | 3, _ =>
                  obtain rfl := Option.some.inj ho
                  have e1 : f 1 = .slice (some ⟨bs, os, none⟩) m cb := (hd ⟨1, .data⟩ (by simp) rfl).2.1
                  have e2 : f 2 = .int .i64 (q : Nat) := (hd ⟨2, .data⟩ (by simp) rfl).2.1
                  clear hd ho
                  have hH : Holds w (hs ++ ([] ++ R)) w1 := hH
                  rw [show hs = hr from hI] at hH
                  clear hI
                  unfold wpOp
                  refine Or.inl ?_
                  simp only [e1, e2]
                  unfold Oper.wp
                  have hcut := cut_hi (some ⟨bs, os, none⟩) m cb q (by omega) (by omega) w1
                  go_simp
                  exact OwnBy.mk _ _ _ rfl (rfl) (⟨rfl, rfl⟩) (hH)
                | 4, _ =>
                  obtain rfl := Option.some.inj ho
                  have e0 := (hd ⟨0, .data⟩ (by simp) rfl).2
                  have e3 : f 3 = .slice (some ⟨bs, os, none⟩) q cb := (hd ⟨3, .data⟩ (by simp) rfl).2.1
                  clear hd ho
                  have hH : Holds w (hs ++ ((Hf 0 ++ ([])) ++ R)) w1 := hH
                  simp only [List.append_nil, List.append_assoc] at hH
                  rw [show hs = hr from hI] at hH
                  clear hI
                  unfold wpOp
                  refine Or.inl ?_
                  simp only [e3]
                  unfold Oper.wp
                  have hka := KAt.of_row (A := some ⟨bs, os, none⟩) (c := cb) HR.out ((hH.perm (k := hr ++ (Hf 0 ++ R)) (by classical rw [List.perm_iff_count]; intro a; simp only [List.count_append, List.count_cons, List.count_nil] <;> omega)))
                  obtain ⟨v8, h8, w8, r1, r2, r3⟩ := app_k e0 (hH.perm (k := Hf 0 ++ (hr ++ R)) (by classical rw [List.perm_iff_count]; intro a; simp only [List.count_append, List.count_cons, List.count_nil] <;> omega)) (some ⟨bs, os, none⟩) q cb (fun h => by cases h) (flat (L.take q)) (kat_take hka q (by rw [HM.out]; omega) (fun h => by cases h)) (flat_oc _) (by omega)
                  simp only [Nat.zero_add, List.nil_append] at r2
                  refine wpA (.tmp 45) (.tmp 48) rfl rfl rfl r1 ?_
                  exact OwnBy.mk _ h8 _ rfl rfl r2 (r3.perm (by classical rw [List.perm_iff_count]; intro a; simp only [List.count_append, List.count_cons, List.count_nil] <;> omega))
                | 5, _ =>
                  obtain rfl := Option.some.inj ho
                  clear hd ho
                  have hH : Holds w (hs ++ ([] ++ R)) w1 := hH
                  rw [show hs = hr from hI] at hH
                  clear hI
                  unfold wpOp
                  refine Or.inl ?_
                  unfold Oper.wp
                  go_simp
                  exact OwnBy.mk _ _ _ rfl (rfl) (⟨rfl, rfl⟩) (hH)
                | 6, _ =>
                  obtain rfl := Option.some.inj ho
                  clear hd ho
                  have hH : Holds w (hs ++ ([] ++ R)) w1 := hH
                  rw [show hs = hr from hI] at hH
                  clear hI
                  unfold wpOp
                  refine Or.inl ?_
                  unfold Oper.wp
                  go_simp
                  exact OwnBy.mk _ _ _ rfl (rfl) (⟨rfl, rfl⟩) (hH)
                | 7, _ =>
                  obtain rfl := Option.some.inj ho
                  have e5 : f 5 = .slice (some ⟨bl, ol, none⟩) len c := (hd ⟨5, .data⟩ (by simp) rfl).2.1
                  have e6 : f 6 = .int .i64 (k : Nat) := (hd ⟨6, .data⟩ (by simp) rfl).2.1
                  clear hd ho
                  have hH : Holds w (hs ++ ([] ++ R)) w1 := hH
                  rw [show hs = hr from hI] at hH
                  clear hI
                  unfold wpOp
                  refine Or.inl ?_
                  simp only [e5, e6]
                  unfold Oper.wp
                  go_simp
                  exact OwnBy.mk _ _ _ rfl (rfl) (⟨rfl, rfl⟩) (hH)
                | 8, _ =>
                  obtain rfl := Option.some.inj ho
                  have e7 : f 7 = .pointer (some ⟨bl, ol + k * 16, none⟩) := (hd ⟨7, .data⟩ (by simp) rfl).2.1
                  clear hd ho
                  have hH : Holds w (hs ++ ([] ++ R)) w1 := hH
                  rw [show hs = hr from hI] at hH
                  clear hI
                  unfold wpOp
                  refine Or.inl ?_
                  simp only [e7]
                  unfold Oper.wp
                  have q9 := run_load_key ⟨bl, ol + k * 16, none⟩ x.1 (HLX.out w1 hH.below)
                  refine wpK (.tmp 52) ⟨bl, ol + k * 16, none⟩ rfl rfl q9 ?_
                  exact OwnBy.mk _ _ _ rfl (rfl) (⟨rfl, rfl⟩) (hH)
                | 9, _ =>
                  obtain rfl := Option.some.inj ho
                  have e8 : f 8 = .agg (kv x.1) := (hd ⟨8, .data⟩ (by simp) rfl).2.1
                  clear hd ho
                  have hH : Holds w (hs ++ ([] ++ R)) w1 := hH
                  rw [show hs = hr from hI] at hH
                  clear hI
                  unfold wpOp
                  refine Or.inl ?_
                  simp only [e8]
                  unfold Oper.wp
                  have hH3 : Sp.Holds w (hr ++ ([(w1.heap.size, .cells (kv x.1) 23)] ++ R)) (w1.alloc (.cells (kv x.1) 23)) := (hH.alloc (.cells (kv x.1) 23)).perm (by classical rw [List.perm_iff_count]; intro a; simp only [List.count_append, List.count_cons, List.count_nil] <;> omega)
                  rw [show kv x.1 = #[.int .u8 (kb x.1 0), .int .u8 (kb x.1 1), .int .u8 (kb x.1 2), .int .u8 (kb x.1 3), .int .u8 (kb x.1 4), .int .u8 (kb x.1 5), .int .u8 (kb x.1 6), .int .u8 (kb x.1 7), .int .u8 (kb x.1 8), .int .u8 (kb x.1 9), .int .u8 (kb x.1 10), .int .u8 (kb x.1 11), .int .u8 (kb x.1 12), .int .u8 (kb x.1 13), .int .u8 (kb x.1 14), .int .u8 (kb x.1 15)] from rfl]
                  go_simp
                  exact OwnBy.mk _ [(w1.heap.size, .cells (kv x.1) 23)] _ rfl rfl ⟨w1.heap.size, rfl, rfl⟩ hH3
                | 10, _ =>
                  obtain rfl := Option.some.inj ho
                  have e4 := (hd ⟨4, .data⟩ (by simp) rfl).2
                  have e9 := (hd ⟨9, .data⟩ (by simp) rfl).2
                  obtain ⟨g9, e9, q9⟩ := e9
                  clear hd ho
                  have hH : Holds w (hs ++ ((Hf 4 ++ (Hf 9 ++ ([]))) ++ R)) w1 := hH
                  simp only [q9, List.append_nil, List.append_assoc] at hH
                  rw [show hs = hr from hI] at hH
                  clear hI
                  unfold wpOp
                  refine Or.inl ?_
                  simp only [e9]
                  unfold Oper.wp
                  have hH2 : Sp.Holds w ((g9, .cells (kv x.1) 23) :: (Hf 4 ++ (hr ++ R))) w1 := hH.perm (by classical rw [List.perm_iff_count]; intro a; simp only [List.count_append, List.count_cons, List.count_nil] <;> omega)
                  obtain ⟨v8, h8, w8, r1, r2, r3⟩ := app_k e4 (hH2.perm (k := Hf 4 ++ ((g9, .cells (kv x.1) 23) :: (hr ++ R))) (by classical rw [List.perm_iff_count]; intro a; simp only [List.count_append, List.count_cons, List.count_nil] <;> omega)) (some ⟨g9, 0, none⟩) 1 1 (fun h => by cases h) (encK x) (reads_k hH2) (encK_one x) (by omega)
                  refine wpA (.tmp 49) (.tmp 54) rfl rfl rfl r1 ?_
                  exact OwnBy.mk _ h8 _ rfl rfl r2 ((r3.perm (k := (g9, .cells (kv x.1) 23) :: (hr ++ (h8 ++ R))) (by classical rw [List.perm_iff_count]; intro a; simp only [List.count_append, List.count_cons, List.count_nil] <;> omega)).tail)
                | 11, _ =>
                  obtain rfl := Option.some.inj ho
                  clear hd ho
                  have hH : Holds w (hs ++ ([] ++ R)) w1 := hH
                  rw [show hs = hr from hI] at hH
                  clear hI
                  unfold wpOp
                  refine Or.inl ?_
                  unfold Oper.wp
                  go_simp
                  exact OwnBy.mk _ _ _ rfl (rfl) (⟨rfl, rfl⟩) (hH)
                | 12, _ =>
                  obtain rfl := Option.some.inj ho
                  clear hd ho
                  have hH : Holds w (hs ++ ([] ++ R)) w1 := hH
                  rw [show hs = hr from hI] at hH
                  clear hI
                  unfold wpOp
                  refine Or.inl ?_
                  unfold Oper.wp
                  go_simp
                  exact OwnBy.mk _ _ _ rfl (rfl) (⟨rfl, rfl⟩) (hH)
                | 13, _ =>
                  obtain rfl := Option.some.inj ho
                  have e11 : f 11 = .slice (some ⟨bs, os, none⟩) m cb := (hd ⟨11, .data⟩ (by simp) rfl).2.1
                  have e12 : f 12 = .int .i64 (q : Nat) := (hd ⟨12, .data⟩ (by simp) rfl).2.1
                  clear hd ho
                  have hH : Holds w (hs ++ ([] ++ R)) w1 := hH
                  rw [show hs = hr from hI] at hH
                  clear hI
                  unfold wpOp
                  refine Or.inl ?_
                  simp only [e11, e12]
                  unfold Oper.wp
                  have hcut := cut_lo (some ⟨bs, os, none⟩) m cb q (by omega) (by omega) w1
                  rw [← HDA.out] at hcut
                  go_simp
                  exact OwnBy.mk _ _ _ rfl (rfl) (⟨rfl, rfl⟩) (hH)
                | 14, _ =>
                  obtain rfl := Option.some.inj ho
                  have e10 := (hd ⟨10, .data⟩ (by simp) rfl).2
                  have e13 : f 13 = .slice DA (m - q) (cb - q) := (hd ⟨13, .data⟩ (by simp) rfl).2.1
                  clear hd ho
                  have hH : Holds w (hs ++ ((Hf 10 ++ ([])) ++ R)) w1 := hH
                  simp only [List.append_nil, List.append_assoc] at hH
                  rw [show hs = hr from hI] at hH
                  clear hI
                  unfold wpOp
                  refine Or.inl ?_
                  simp only [e13]
                  unfold Oper.wp
                  have hka := KAt.of_row (A := some ⟨bs, os, none⟩) (c := cb) HR.out ((hH.perm (k := hr ++ (Hf 10 ++ R)) (by classical rw [List.perm_iff_count]; intro a; simp only [List.count_append, List.count_cons, List.count_nil] <;> omega)))
                  have hrd := kat_drop (c := cb) hka q (by rw [HM.out]; omega) (fun h => by cases h) (by rw [HM.out]; omega)
                  rw [HM.out, ← HDA.out] at hrd
                  obtain ⟨v8, h8, w8, r1, r2, r3⟩ := app_k e10 (hH.perm (k := Hf 10 ++ (hr ++ R)) (by classical rw [List.perm_iff_count]; intro a; simp only [List.count_append, List.count_cons, List.count_nil] <;> omega)) DA (m - q) (cb - q) (HDN.out) (flat (L.drop q)) hrd (flat_oc _) (by omega)
                  refine wpA (.tmp 55) (.tmp 58) rfl rfl rfl r1 ?_
                  exact OwnBy.mk _ h8 _ rfl rfl r2 (r3.perm (by classical rw [List.perm_iff_count]; intro a; simp only [List.count_append, List.count_cons, List.count_nil] <;> omega))
              · intro Ls f Hf hs w1 hI hL hV hH
                have e0 := hV 0 (by decide)
                have e1 : f 1 = .slice (some ⟨bs, os, none⟩) m cb := (hV 1 (by decide)).1
                have e2 : f 2 = .int .i64 (q : Nat) := (hV 2 (by decide)).1
                have e3 : f 3 = .slice (some ⟨bs, os, none⟩) q cb := (hV 3 (by decide)).1
                have e4 := hV 4 (by decide)
                have e5 : f 5 = .slice (some ⟨bl, ol, none⟩) len c := (hV 5 (by decide)).1
                have e6 : f 6 = .int .i64 (k : Nat) := (hV 6 (by decide)).1
                have e7 : f 7 = .pointer (some ⟨bl, ol + k * 16, none⟩) := (hV 7 (by decide)).1
                have e8 : f 8 = .agg (kv x.1) := (hV 8 (by decide)).1
                have e9 := hV 9 (by decide)
                obtain ⟨g9, e9, q9⟩ := e9
                have e10 := hV 10 (by decide)
                have e11 : f 11 = .slice (some ⟨bs, os, none⟩) m cb := (hV 11 (by decide)).1
                have e12 : f 12 = .int .i64 (q : Nat) := (hV 12 (by decide)).1
                have e13 : f 13 = .slice DA (m - q) (cb - q) := (hV 13 (by decide)).1
                have e14 := hV 14 (by decide)
                clear hV
                have hH : Holds w (hs ++ (Hf 14 ++ [])) w1 := hH
                simp only [List.append_nil, List.append_assoc] at hH
                simp only [fill, List.take_succ_cons, List.take_zero, List.drop_succ_cons, List.drop_zero, Act.put, List.setIfInBounds_toArray, List.set_cons_zero, List.set_cons_succ, e1, e2, e3, e5, e6, e7, e8, e9, e11, e12, e13]
                rw [show hs = hr from hI] at hH
                clear hI
                obtain ⟨n8, hn8⟩ : ∃ n, n = q + 1 + (m - q) := ⟨_, rfl⟩
                rw [← hn8] at e14
                have HN8 := Lib.hid hn8
                clear hn8
                obtain ⟨A8, c8, hv8, _, _⟩ := RowB.form e14
                rw [hv8] at e14 ⊢
                have H9 : Sp.Holds w (hr ++ Hf 14) w1 := hH
                have HNN := Lib.hid H9.right
                have HR8 := Lib.hid e14
                clear hL hH H9 hv8
                go_wp2_with fail
                go_roundw
                case rel =>
                  refine ⟨k + 1, n8, A8, c8, insK L x, Hf 14, by omega, by go_num, rfl, ?_, HNN.out, HNX.out.symm, ?_, ?_⟩
                  · rw [HINS.out, show flat (L.take q ++ x :: L.drop q) = flat (L.take q) ++ encK x ++ flat (L.drop q) by simp [flat]]
                    exact HR8.out
                  · rw [HINS.out, HN8.out]
                    simp only [List.length_append, List.length_take, List.length_cons, List.length_drop, HM.out]
                    omega
                  · rw [HN8.out]; omega
                case measure => simp [intOf]; omega
            · have HINS := Lib.hid (show insK L x = L by rw [HIN.out, HY.out]; simp only [HEQ.out]; rfl)
              go_wp2_with fail
              go_roundw
              case rel => exact ⟨k + 1, m, _, cb, L, hr, by omega, by go_num, rfl, HR.out, HH5.out, by rw [HNX.out, HINS.out], HM.out, by omega⟩
              case measure => simp [intOf]; omega
        · obtain rfl : q = m := by omega
          obtain rfl : Pn = q := by omega
          go_wp2_with fail
          refine region_quiet_lit (C := fun w' => Below wr.heap.size wr w') (by kernel_rfl) (by kernel_rfl) (Below.refl _ _).drew ?_
          go_big_quiet_step (exact fun _ => rfl)
          go_big_quiet_step (exact fun _ => rfl)
          go_big_quiet_step (exact fun _ => rfl)
          go_big_quiet_step (exact fun _ => rfl)
          go_big_quiet_step (exact fun _ => rfl)
          go_big_quiet_skip
          go_big_quiet_skip
          go_big_quiet_skip
          go_big_quiet_skip
          go_big_quiet_skip
          go_big_quiet_skip
          go_big_quiet_skip
          go_big_quiet_skip
          go_big_quiet_skip
          go_big_quiet_skip
          go_big_quiet_step (exact fun _ => rfl)
          refine wpQuiet_nil ?_
          intro w4 hw4
          have HH4 := Lib.hid (HH2.out.grow hw4)
          clear hw4
          go_wp2_with fail
          refine region_quiet_lit (C := fun w' => Below w4.heap.size w4 w') (by kernel_rfl) (by kernel_rfl) (Below.refl _ _).drew ?_
          go_big_quiet_step (exact fun _ => rfl)
          go_big_quiet_step (exact fun _ => rfl)
          go_big_quiet_step (exact fun _ => rfl)
          go_big_quiet_step (exact fun _ => rfl)
          go_big_quiet_step (exact fun _ => rfl)
          go_big_quiet_skip
          go_big_quiet_skip
          go_big_quiet_skip
          go_big_quiet_skip
          go_big_quiet_skip
          go_big_quiet_skip
          go_big_quiet_skip
          go_big_quiet_skip
          go_big_quiet_skip
          go_big_quiet_step (exact fun _ => rfl)
          refine wpQuiet_nil ?_
          intro w5 hw5
          have HH5 := Lib.hid (HH4.out.grow hw5)
          clear hw5
          have HINS := Lib.hid (show insK L x = L.take Pn ++ x :: L.drop Pn by rw [HIN.out, List.getElem?_eq_none (by rw [HM.out]; exact Nat.le_refl _)]; rfl)
          go_wp2_with fail
          obtain ⟨DA, hDA⟩ : ∃ DA, DA = (if cb = Pn then (B : Option Addr) else (B : Option Addr).map fun a => a.add (Pn * 16)) := ⟨_, rfl⟩
          have HDA := Lib.hid hDA
          clear hDA
          have HB0 := Lib.hid (show B = none → L.length = 0 from fun h => by have := HBN.out h; rw [HM.out]; omega)
          have HDN := Lib.hid (show DA = none → cb - Pn = 0 from fun h => by
            rw [HDA.out] at h
            by_cases hc : cb = Pn
            · omega
            · rw [if_neg hc] at h
              have := HBN.out (by simpa using h)
              omega)
          refine wp_region_own 15 (fun k => match k with | 4 => [0] | 10 => [4, 9] | 14 => [10] | 15 => [14] | _ => []) (by kernel_rfl) (by kernel_rfl) (by kernel_rfl) (by kernel_rfl) (Nat.le_of_ble_eq_true (by kernel_rfl)) w (fun Ls hs => hs = hr) (fun i v h => match i with | 0 => RowB 23 16 v 0 [] h | 1 => v = .slice B Pn cb ∧ h = [] | 2 => v = .int .i64 (Pn : Nat) ∧ h = [] | 3 => v = .slice (B) Pn cb ∧ h = [] | 4 => RowB 23 16 v Pn (flat (L.take Pn)) h | 5 => v = .slice (some ⟨bl, ol, none⟩) len c ∧ h = [] | 6 => v = .int .i64 (k : Nat) ∧ h = [] | 7 => v = .pointer (some ⟨bl, ol + k * 16, none⟩) ∧ h = [] | 8 => v = .agg (kv x.1) ∧ h = [] | 9 => ∃ g, v = .slice (some ⟨g, 0, none⟩) 1 1 ∧ h = [(g, .cells (kv x.1) 23)] | 10 => RowB 23 16 v (Pn + 1) ((flat (L.take Pn)) ++ encK x) h | 11 => v = .slice B Pn cb ∧ h = [] | 12 => v = .int .i64 (Pn : Nat) ∧ h = [] | 13 => v = .slice DA (Pn - Pn) (cb - Pn) ∧ h = [] | 14 => RowB 23 16 v (Pn + 1 + (Pn - Pn)) ((flat (L.take Pn)) ++ encK x ++ (flat (L.drop Pn))) h | _ => True) (hr) (rfl) (HH5.out.drew) ?_ ?_
          · intro i o hi ho Ls f Hf hs R w1 hI hL hd hH
            simp only [fill, List.take_succ_cons, List.take_zero, Act.put, List.setIfInBounds_toArray, List.set_cons_zero, List.set_cons_succ]
            match i, hi with
            | 0, _ =>
              obtain rfl := Option.some.inj ho
              clear hd ho
              have hH : Holds w (hs ++ ([] ++ R)) w1 := hH
              rw [show hs = hr from hI] at hH
              clear hI
              unfold wpOp
              refine Or.inl ?_
              unfold Oper.wp
              go_simp
              exact OwnBy.mk _ [(w1.heap.size, .cells #[] 23)] _ rfl rfl (RowB.lit hH #[] 0 (by decide) rfl) ((hH.alloc (.cells #[] 23)).perm (by classical rw [List.perm_iff_count]; intro a; simp only [List.count_append, List.count_cons, List.count_nil] <;> omega))
            | 1, _ =>
              obtain rfl := Option.some.inj ho
              clear hd ho
              have hH : Holds w (hs ++ ([] ++ R)) w1 := hH
              rw [show hs = hr from hI] at hH
              clear hI
              unfold wpOp
              refine Or.inl ?_
              unfold Oper.wp
              go_simp
              exact OwnBy.mk _ _ _ rfl (rfl) (⟨rfl, rfl⟩) (hH)
            | 2, _ =>
              obtain rfl := Option.some.inj ho
              clear hd ho
              have hH : Holds w (hs ++ ([] ++ R)) w1 := hH
              rw [show hs = hr from hI] at hH
              clear hI
              unfold wpOp
              refine Or.inl ?_
              unfold Oper.wp
              go_simp
              exact OwnBy.mk _ _ _ rfl (rfl) (⟨rfl, rfl⟩) (hH)
            | 3, _ =>
              obtain rfl := Option.some.inj ho
              have e1 : f 1 = .slice B Pn cb := (hd ⟨1, .data⟩ (by simp) rfl).2.1
              have e2 : f 2 = .int .i64 (Pn : Nat) := (hd ⟨2, .data⟩ (by simp) rfl).2.1
              clear hd ho
              have hH : Holds w (hs ++ ([] ++ R)) w1 := hH
              rw [show hs = hr from hI] at hH
              clear hI
              unfold wpOp
              refine Or.inl ?_
              simp only [e1, e2]
              unfold Oper.wp
              have hcut := cut_hi (B) Pn cb Pn (by omega) (by omega) w1
              go_simp
              exact OwnBy.mk _ _ _ rfl (rfl) (⟨rfl, rfl⟩) (hH)
            | 4, _ =>
              obtain rfl := Option.some.inj ho
              have e0 := (hd ⟨0, .data⟩ (by simp) rfl).2
              have e3 : f 3 = .slice (B) Pn cb := (hd ⟨3, .data⟩ (by simp) rfl).2.1
              clear hd ho
              have hH : Holds w (hs ++ ((Hf 0 ++ ([])) ++ R)) w1 := hH
              simp only [List.append_nil, List.append_assoc] at hH
              rw [show hs = hr from hI] at hH
              clear hI
              unfold wpOp
              refine Or.inl ?_
              simp only [e3]
              unfold Oper.wp
              have hka := KAt.of_row (A := B) (c := cb) HR.out ((hH.perm (k := hr ++ (Hf 0 ++ R)) (by classical rw [List.perm_iff_count]; intro a; simp only [List.count_append, List.count_cons, List.count_nil] <;> omega)))
              obtain ⟨v8, h8, w8, r1, r2, r3⟩ := app_k e0 (hH.perm (k := Hf 0 ++ (hr ++ R)) (by classical rw [List.perm_iff_count]; intro a; simp only [List.count_append, List.count_cons, List.count_nil] <;> omega)) (B) Pn cb (HBN.out) (flat (L.take Pn)) (kat_take hka Pn (by rw [HM.out]; omega) (HB0.out)) (flat_oc _) (by omega)
              simp only [Nat.zero_add, List.nil_append] at r2
              refine wpA (.tmp 45) (.tmp 48) rfl rfl rfl r1 ?_
              exact OwnBy.mk _ h8 _ rfl rfl r2 (r3.perm (by classical rw [List.perm_iff_count]; intro a; simp only [List.count_append, List.count_cons, List.count_nil] <;> omega))
            | 5, _ =>
              obtain rfl := Option.some.inj ho
              clear hd ho
              have hH : Holds w (hs ++ ([] ++ R)) w1 := hH
              rw [show hs = hr from hI] at hH
              clear hI
              unfold wpOp
              refine Or.inl ?_
              unfold Oper.wp
              go_simp
              exact OwnBy.mk _ _ _ rfl (rfl) (⟨rfl, rfl⟩) (hH)
            | 6, _ =>
              obtain rfl := Option.some.inj ho
              clear hd ho
              have hH : Holds w (hs ++ ([] ++ R)) w1 := hH
              rw [show hs = hr from hI] at hH
              clear hI
              unfold wpOp
              refine Or.inl ?_
              unfold Oper.wp
              go_simp
              exact OwnBy.mk _ _ _ rfl (rfl) (⟨rfl, rfl⟩) (hH)
            | 7, _ =>
              obtain rfl := Option.some.inj ho
              have e5 : f 5 = .slice (some ⟨bl, ol, none⟩) len c := (hd ⟨5, .data⟩ (by simp) rfl).2.1
              have e6 : f 6 = .int .i64 (k : Nat) := (hd ⟨6, .data⟩ (by simp) rfl).2.1
              clear hd ho
              have hH : Holds w (hs ++ ([] ++ R)) w1 := hH
              rw [show hs = hr from hI] at hH
              clear hI
              unfold wpOp
              refine Or.inl ?_
              simp only [e5, e6]
              unfold Oper.wp
              go_simp
              exact OwnBy.mk _ _ _ rfl (rfl) (⟨rfl, rfl⟩) (hH)
            | 8, _ =>
              obtain rfl := Option.some.inj ho
              have e7 : f 7 = .pointer (some ⟨bl, ol + k * 16, none⟩) := (hd ⟨7, .data⟩ (by simp) rfl).2.1
              clear hd ho
              have hH : Holds w (hs ++ ([] ++ R)) w1 := hH
              rw [show hs = hr from hI] at hH
              clear hI
              unfold wpOp
              refine Or.inl ?_
              simp only [e7]
              unfold Oper.wp
              have q9 := run_load_key ⟨bl, ol + k * 16, none⟩ x.1 (HLX.out w1 hH.below)
              refine wpK (.tmp 52) ⟨bl, ol + k * 16, none⟩ rfl rfl q9 ?_
              exact OwnBy.mk _ _ _ rfl (rfl) (⟨rfl, rfl⟩) (hH)
            | 9, _ =>
              obtain rfl := Option.some.inj ho
              have e8 : f 8 = .agg (kv x.1) := (hd ⟨8, .data⟩ (by simp) rfl).2.1
              clear hd ho
              have hH : Holds w (hs ++ ([] ++ R)) w1 := hH
              rw [show hs = hr from hI] at hH
              clear hI
              unfold wpOp
              refine Or.inl ?_
              simp only [e8]
              unfold Oper.wp
              have hH3 : Sp.Holds w (hr ++ ([(w1.heap.size, .cells (kv x.1) 23)] ++ R)) (w1.alloc (.cells (kv x.1) 23)) := (hH.alloc (.cells (kv x.1) 23)).perm (by classical rw [List.perm_iff_count]; intro a; simp only [List.count_append, List.count_cons, List.count_nil] <;> omega)
              rw [show kv x.1 = #[.int .u8 (kb x.1 0), .int .u8 (kb x.1 1), .int .u8 (kb x.1 2), .int .u8 (kb x.1 3), .int .u8 (kb x.1 4), .int .u8 (kb x.1 5), .int .u8 (kb x.1 6), .int .u8 (kb x.1 7), .int .u8 (kb x.1 8), .int .u8 (kb x.1 9), .int .u8 (kb x.1 10), .int .u8 (kb x.1 11), .int .u8 (kb x.1 12), .int .u8 (kb x.1 13), .int .u8 (kb x.1 14), .int .u8 (kb x.1 15)] from rfl]
              go_simp
              exact OwnBy.mk _ [(w1.heap.size, .cells (kv x.1) 23)] _ rfl rfl ⟨w1.heap.size, rfl, rfl⟩ hH3
            | 10, _ =>
              obtain rfl := Option.some.inj ho
              have e4 := (hd ⟨4, .data⟩ (by simp) rfl).2
              have e9 := (hd ⟨9, .data⟩ (by simp) rfl).2
              obtain ⟨g9, e9, q9⟩ := e9
              clear hd ho
              have hH : Holds w (hs ++ ((Hf 4 ++ (Hf 9 ++ ([]))) ++ R)) w1 := hH
              simp only [q9, List.append_nil, List.append_assoc] at hH
              rw [show hs = hr from hI] at hH
              clear hI
              unfold wpOp
              refine Or.inl ?_
              simp only [e9]
              unfold Oper.wp
              have hH2 : Sp.Holds w ((g9, .cells (kv x.1) 23) :: (Hf 4 ++ (hr ++ R))) w1 := hH.perm (by classical rw [List.perm_iff_count]; intro a; simp only [List.count_append, List.count_cons, List.count_nil] <;> omega)
              obtain ⟨v8, h8, w8, r1, r2, r3⟩ := app_k e4 (hH2.perm (k := Hf 4 ++ ((g9, .cells (kv x.1) 23) :: (hr ++ R))) (by classical rw [List.perm_iff_count]; intro a; simp only [List.count_append, List.count_cons, List.count_nil] <;> omega)) (some ⟨g9, 0, none⟩) 1 1 (fun h => by cases h) (encK x) (reads_k hH2) (encK_one x) (by omega)
              refine wpA (.tmp 49) (.tmp 54) rfl rfl rfl r1 ?_
              exact OwnBy.mk _ h8 _ rfl rfl r2 ((r3.perm (k := (g9, .cells (kv x.1) 23) :: (hr ++ (h8 ++ R))) (by classical rw [List.perm_iff_count]; intro a; simp only [List.count_append, List.count_cons, List.count_nil] <;> omega)).tail)
            | 11, _ =>
              obtain rfl := Option.some.inj ho
              clear hd ho
              have hH : Holds w (hs ++ ([] ++ R)) w1 := hH
              rw [show hs = hr from hI] at hH
              clear hI
              unfold wpOp
              refine Or.inl ?_
              unfold Oper.wp
              go_simp
              exact OwnBy.mk _ _ _ rfl (rfl) (⟨rfl, rfl⟩) (hH)
            | 12, _ =>
              obtain rfl := Option.some.inj ho
              clear hd ho
              have hH : Holds w (hs ++ ([] ++ R)) w1 := hH
              rw [show hs = hr from hI] at hH
              clear hI
              unfold wpOp
              refine Or.inl ?_
              unfold Oper.wp
              go_simp
              exact OwnBy.mk _ _ _ rfl (rfl) (⟨rfl, rfl⟩) (hH)
            | 13, _ =>
              obtain rfl := Option.some.inj ho
              have e11 : f 11 = .slice B Pn cb := (hd ⟨11, .data⟩ (by simp) rfl).2.1
              have e12 : f 12 = .int .i64 (Pn : Nat) := (hd ⟨12, .data⟩ (by simp) rfl).2.1
              clear hd ho
              have hH : Holds w (hs ++ ([] ++ R)) w1 := hH
              rw [show hs = hr from hI] at hH
              clear hI
              unfold wpOp
              refine Or.inl ?_
              simp only [e11, e12]
              unfold Oper.wp
              have hcut := cut_lo (B) Pn cb Pn (by omega) (by omega) w1
              rw [← HDA.out] at hcut
              go_simp
              exact OwnBy.mk _ _ _ rfl (rfl) (⟨rfl, rfl⟩) (hH)
            | 14, _ =>
              obtain rfl := Option.some.inj ho
              have e10 := (hd ⟨10, .data⟩ (by simp) rfl).2
              have e13 : f 13 = .slice DA (Pn - Pn) (cb - Pn) := (hd ⟨13, .data⟩ (by simp) rfl).2.1
              clear hd ho
              have hH : Holds w (hs ++ ((Hf 10 ++ ([])) ++ R)) w1 := hH
              simp only [List.append_nil, List.append_assoc] at hH
              rw [show hs = hr from hI] at hH
              clear hI
              unfold wpOp
              refine Or.inl ?_
              simp only [e13]
              unfold Oper.wp
              have hka := KAt.of_row (A := B) (c := cb) HR.out ((hH.perm (k := hr ++ (Hf 10 ++ R)) (by classical rw [List.perm_iff_count]; intro a; simp only [List.count_append, List.count_cons, List.count_nil] <;> omega)))
              have hrd := kat_drop (c := cb) hka Pn (by rw [HM.out]; omega) (HB0.out) (by rw [HM.out]; omega)
              rw [HM.out, ← HDA.out] at hrd
              obtain ⟨v8, h8, w8, r1, r2, r3⟩ := app_k e10 (hH.perm (k := Hf 10 ++ (hr ++ R)) (by classical rw [List.perm_iff_count]; intro a; simp only [List.count_append, List.count_cons, List.count_nil] <;> omega)) DA (Pn - Pn) (cb - Pn) (HDN.out) (flat (L.drop Pn)) hrd (flat_oc _) (by omega)
              refine wpA (.tmp 55) (.tmp 58) rfl rfl rfl r1 ?_
              exact OwnBy.mk _ h8 _ rfl rfl r2 (r3.perm (by classical rw [List.perm_iff_count]; intro a; simp only [List.count_append, List.count_cons, List.count_nil] <;> omega))
          · intro Ls f Hf hs w1 hI hL hV hH
            have e0 := hV 0 (by decide)
            have e1 : f 1 = .slice B Pn cb := (hV 1 (by decide)).1
            have e2 : f 2 = .int .i64 (Pn : Nat) := (hV 2 (by decide)).1
            have e3 : f 3 = .slice (B) Pn cb := (hV 3 (by decide)).1
            have e4 := hV 4 (by decide)
            have e5 : f 5 = .slice (some ⟨bl, ol, none⟩) len c := (hV 5 (by decide)).1
            have e6 : f 6 = .int .i64 (k : Nat) := (hV 6 (by decide)).1
            have e7 : f 7 = .pointer (some ⟨bl, ol + k * 16, none⟩) := (hV 7 (by decide)).1
            have e8 : f 8 = .agg (kv x.1) := (hV 8 (by decide)).1
            have e9 := hV 9 (by decide)
            obtain ⟨g9, e9, q9⟩ := e9
            have e10 := hV 10 (by decide)
            have e11 : f 11 = .slice B Pn cb := (hV 11 (by decide)).1
            have e12 : f 12 = .int .i64 (Pn : Nat) := (hV 12 (by decide)).1
            have e13 : f 13 = .slice DA (Pn - Pn) (cb - Pn) := (hV 13 (by decide)).1
            have e14 := hV 14 (by decide)
            clear hV
            have hH : Holds w (hs ++ (Hf 14 ++ [])) w1 := hH
            simp only [List.append_nil, List.append_assoc] at hH
            simp only [fill, List.take_succ_cons, List.take_zero, List.drop_succ_cons, List.drop_zero, Act.put, List.setIfInBounds_toArray, List.set_cons_zero, List.set_cons_succ, e1, e2, e3, e5, e6, e7, e8, e9, e11, e12, e13]
            rw [show hs = hr from hI] at hH
            clear hI
            obtain ⟨n8, hn8⟩ : ∃ n, n = Pn + 1 + (Pn - Pn) := ⟨_, rfl⟩
            rw [← hn8] at e14
            have HN8 := Lib.hid hn8
            clear hn8
            obtain ⟨A8, c8, hv8, _, _⟩ := RowB.form e14
            rw [hv8] at e14 ⊢
            have H9 : Sp.Holds w (hr ++ Hf 14) w1 := hH
            have HNN := Lib.hid H9.right
            have HR8 := Lib.hid e14
            clear hL hH H9 hv8
            go_wp2_with fail
            go_roundw
            case rel =>
              refine ⟨k + 1, n8, A8, c8, insK L x, Hf 14, by omega, by go_num, rfl, ?_, HNN.out, HNX.out.symm, ?_, ?_⟩
              · rw [HINS.out, show flat (L.take Pn ++ x :: L.drop Pn) = flat (L.take Pn) ++ encK x ++ flat (L.drop Pn) by simp [flat]]
                exact HR8.out
              · rw [HINS.out, HN8.out]
                simp only [List.length_append, List.length_take, List.length_cons, List.length_drop, HM.out]
                omega
              · rw [HN8.out]; omega
            case measure => simp [intOf]; omega
    · obtain rfl : k = len := by omega
      go_wp2_with fail
      go_ret
      have e : rsortK ks = L := by rw [HL.out, List.take_of_length_le (by rw [HLEN.out]; exact Nat.le_refl _)]; rfl
      exact ⟨_, rfl, hr, by rw [e, HM.out]; exact HR.out, HH.out⟩
end Go.Proofs.Ytnmnniknklfemaa
