/- slices.Compact at keys, on a slice of the call's own. No condition other than the reach. -/
import Derived.Test.YtnmnniknklfemaaRk
import Derived.Test.YtnmnniknklfemaaLy
import Derived.Lib.SlicesCompact
import Derived.Deep.MidRow
namespace Go.Proofs.Ytnmnniknklfemaa
open Go.RowKit
open Go.Proofs.Ytnmnniknklfemaa.Sp
set_option linter.unusedVariables false
set_option linter.unusedSimpArgs false

theorem keq_eq (x y : K16) : keq x.1 y.1 = decide (x = y) := by
  rw [Bool.eq_iff_iff, decide_eq_true_iff]
  unfold keq
  rw [beq_iff_eq]
  constructor
  · intro h
    refine Subtype.ext (List.ext_getElem (x.2.trans y.2.symm) fun i h1 h2 => ?_)
    have e1 := pad_get x.1 i (by have := x.2; omega)
    rw [h, pad_get y.1 i (by have := x.2; omega)] at e1
    have e2 := Option.some.inj e1
    simpa [List.getD_eq_getElem?_getD, h1, h2] using e2.symm
  · intro h; rw [h]
/-- A row whose i-th key is written anew. -/
theorem RowB.putk {w0 w : World} {F : Hp} {g n cap : Nat} {L : List K16} {h : Hp} (R : RowB 23 16 (.slice (some ⟨g, 0, none⟩) n cap) n (flat L) h) (H : Holds w0 (h ++ F) w) (i : Nat) (hi : i < n) (x : K16) :
    w.there g (i * 16) 16 ∧ ∃ h', RowB 23 16 (.slice (some ⟨g, 0, none⟩) n cap) n (flat (L.set i x)) h' ∧ Holds w0 (h' ++ F) (w.setCells g (i * 16) (kv x.1).toList) := by
  have hl := R.1
  rw [flat_len] at hl
  obtain ⟨h1, ⟨hv2, h0, rfl⟩ | ⟨g2, cap2, cur, hv2, rfl, h2, h3, h4, h5⟩⟩ := R
  · omega
  injection hv2 with e1 e2 e3
  injection e1 with e1
  injection e1 with e1 _
  subst e1; subst e3
  have hmul : i * 16 + 16 ≤ n * 16 := by omega
  have hcap : n * 16 ≤ cap * 16 := by omega
  refine ⟨fun j hj => ⟨?_, ?_⟩, [(g, .cells (Lib.lay cur (i * 16) (kv x.1).toList) 23)], ⟨by rw [flat_len, List.length_set]; omega, .inr ⟨g, cap, _, rfl, rfl, h2, h3, by rw [lay_sz]; exact h4, ?_⟩⟩, Holds.lay _ _ _ _ H⟩
  · exact cell_some H (by omega)
  · exact H.froz _
  · apply List.ext_getElem?
    intro t
    rw [List.getElem?_take]
    have hk16 : (kv x.1).toList.length = 16 := rfl
    by_cases ht : t < n * 16
    · rw [if_pos ht, Array.getElem?_toList, Lib.lay_get? _ _ _ _ (by rw [hk16]; omega), hk16]
      have et : t = t / 16 * 16 + t % 16 := by omega
      have hm : t % 16 < 16 := Nat.mod_lt _ (by omega)
      have hf := flat_get (L.set i x) (t / 16) (t % 16) hm
      rw [← et] at hf
      rw [hf, List.getElem?_set]
      by_cases hin : i * 16 ≤ t ∧ t < i * 16 + 16
      · rw [if_pos hin]
        have e2 : t / 16 = i := by omega
        rw [e2, if_pos rfl, if_pos (by omega)]
        have e3 : t - i * 16 = t % 16 := by omega
        rw [e3]; rfl
      · rw [if_neg hin, if_neg (by omega)]
        have hf2 := flat_get L (t / 16) (t % 16) hm
        rw [← et] at hf2
        rw [← hf2, ← h5, List.getElem?_take, if_pos ht, Array.getElem?_toList]
    · rw [if_neg ht, List.getElem?_eq_none (by rw [flat_len, List.length_set]; omega)]
theorem run_clear_k {w0 w : World} {F : Hp} {g n cap : Nat} {L : List K16} {h : Hp} (R : RowB 23 16 (.slice (some ⟨g, 0, none⟩) n cap) n (flat L) h) (H : Holds w0 (h ++ F) w) (k : Nat) (hk : k < n) (c : Nat) :
    ∃ w', (∀ ty, (Builtin.clear_ #[35] ty #[.slice (some ⟨g, k * 16, none⟩) (n - k) c]).run Try.prog w = .ok (.tuple #[]) w') ∧ ∃ h', RowB 23 16 (.slice (some ⟨g, 0, none⟩) k cap) k (flat (L.take k)) h' ∧ Holds w0 (h' ++ F) w' := by
  have hl := R.1
  rw [flat_len] at hl
  obtain ⟨h1, ⟨hv2, h0, rfl⟩ | ⟨g2, cap2, cur, hv2, rfl, h2, h3, h4, h5⟩⟩ := R
  · omega
  injection hv2 with e1 e2 e3
  injection e1 with e1
  injection e1 with e1 _
  subst e1; subst e3
  have hzv : ∀ w, (zeroValue 23).run Try.prog w = .ok (.agg (kv [])) w := fun w => by
    obtain ⟨i, z, hi, hz, _⟩ := info23i
    have hz2 : (Try.prog.info? 23).bind (·.zero) = some (.agg (kv [])) := by kernel_rfl
    rw [hi] at hz2
    simp at hz2
    simp [zeroValue, typeInfo, hi, hz2]
  obtain ⟨Z, hZ⟩ : ∃ Z, Z = (Builtin.zeroCells (kv []) (n - k)).toList := ⟨_, rfl⟩
  have hZl : Z.length = (n - k) * 16 := by rw [hZ]; simp [Builtin.zeroCells, kv_size]
  have hZ1 : ∀ v ∈ Z, v.oneCell' = true := by
    intro v hv
    rw [hZ] at hv
    simp only [Builtin.zeroCells, Array.toList_map, List.mem_map] at hv
    obtain ⟨j, _, rfl⟩ := hv
    have hj : j % 16 < 16 := Nat.mod_lt _ (by omega)
    have := kv_get [] (j % 16) hj
    rw [kv_size, getElem!_def, this]
    rfl
  have hkn : k * 16 + (n - k) * 16 = n * 16 := by omega
  have hcap : n * 16 ≤ cap * 16 := by omega
  have hst := run_storeCells_cells (P := Try.prog) g (k * 16) Z 0 w (fun j hj => cell_some H (by rw [hZl] at hj; omega)) (fun j hj => H.froz _) hZ1
  refine ⟨w.setCells g (k * 16) Z, fun ty => ?_, [(g, .cells (Lib.lay cur (k * 16) Z) 23)], ⟨by rw [flat_len, List.length_take]; omega, .inr ⟨g, cap, _, rfl, rfl, by omega, h3, by rw [lay_sz]; exact h4, ?_⟩⟩, Holds.lay _ _ _ _ H⟩
  · obtain ⟨m, hm⟩ : ∃ m, n - k = m + 1 := ⟨n - k - 1, by omega⟩
    rw [hm] at hZ ⊢
    simp only [Nat.add_zero] at hst
    simp [Builtin.clear_, run_underlying Try.underlying35, hzv, Value.cells, ← hZ, hst]
  · rw [← flat_take, ← h5]
    apply List.ext_getElem?
    intro t
    simp only [List.getElem?_take, Array.getElem?_toList]
    by_cases ht : t < k * 16
    · rw [if_pos ht, if_pos ht, if_pos (by omega), Lib.lay_get? _ _ _ _ (by omega), if_neg (by omega)]
    · rw [if_neg ht, if_neg ht]

/-! ### the walk -/
theorem rowkey {w0 w : World} {F : Hp} {g n cap : Nat} {L : List K16} {h : Hp} (R : RowB 23 16 (.slice (some ⟨g, 0, none⟩) n cap) n (flat L) h) (H : Holds w0 (h ++ F) w) (i o : Nat) (hi : i < L.length) (ho : o = i * 16) :
    ∀ w', Below w.heap.size w w' → ∀ j, j < 16 → w'.cell? ((⟨g, o, none⟩ : Addr).add j) = some (.int .u8 (kb L[i].1 j)) := fun w' hb j hj => by
  have := (((KAt.of_row R H).below hb).key i hi j hj)
  rw [Nat.zero_add] at this
  rw [ho]; exact this
theorem ldK {ops : Array Oper} {rest : List Oper} {o : Oper} {a : Act} {w : World} {Q : Exit → Act → World → Prop} (x : Operand) (hgd : o.guard = none) (ho : o.op = .load 23 x)
    (ad : Addr) (hx : a.eval x = .pointer (some ad)) (l : List UInt8) (hc : ∀ j, j < 16 → w.cell? (ad.add j) = some (.int .u8 (kb l j)))
    (hh : wpList Try.prog ops Q rest (a.put o.dst (.agg (kv l))) w) : wpList Try.prog ops Q (o :: rest) a w :=
  wpList_plain hgd fun K hK => wpK x ad ho hx (run_load_key ad l hc) (hK _ _ hh)
theorem get_bang (d : Array K16) (i : Nat) (h : i < d.toList.length) : d.toList[i] = d[i]! := by
  have : i < d.size := by simpa using h
  simp [getElem!_pos, this]
theorem comp_lt2 (ks : List K16) (h : ks.length < 2) : Lib.compact ks = ks := Lib.compact_all ks fun j hj => Lib.keeps_lt_one _ j (by omega)
theorem comp_take {d dk : Array K16} {k : Nat} (h : Lib.CompInv d d.size k dk) : dk.toList.take k = Lib.compactUpTo d d.size := by
  apply List.ext_getElem?
  intro j
  rw [List.getElem?_take]
  by_cases hj : j < k
  · have := h.lt; have := h.size
    rw [if_pos hj, h.low j hj, Array.getElem?_toList, getElem!_pos dk j (by omega), Array.getElem?_eq_getElem]
  · rw [if_neg hj, List.getElem?_eq_none (by rw [h.len]; omega)]
set_option maxRecDepth 100000 in
set_option maxHeartbeats 8000000 in
theorem compact_calls (v : Value) (ks : List K16) (h F : Hp) (w0 w : World) (hn : ks.length ≤ 100000) (hR : RowB 23 16 v ks.length (flat ks) h) (hH : Holds w0 (h ++ F) w) :
    Calls Try.prog 28 #[v] w fun e w' => ∃ v', e = .returned v' ∧ ∃ h', RowB 23 16 v' (Lib.compact ks).length (flat (Lib.compact ks)) h' ∧ Holds w0 (h' ++ F) w' := by
  by_cases h2 : ks.length < 2
  · obtain ⟨A, c, rfl, _, _⟩ := RowB.form hR
    have HR := Lib.hid hR
    have HH := Lib.hid hH
    clear hR hH
    obtain ⟨n, hn2⟩ : ∃ n, ks.length = n := ⟨_, rfl⟩
    have HN := Lib.hid hn2
    rw [hn2] at h2 hn
    have h2' : (n : Int) < 2 := by omega
    rw [hn2]
    clear hn2
    go_enter Try.func28, Try.ntmps28
    go_wp2_with fail
    go_ret
    refine ⟨_, rfl, h, ?_, HH.out⟩
    have e := comp_lt2 ks (by rw [HN.out]; exact h2)
    rw [e, HN.out]
    have := HR.out
    rwa [HN.out] at this
  · have hR0 := hR
    obtain ⟨_, ⟨_, h0, _⟩ | ⟨g, cap, cur, rfl, _, hnc, hcm, _, _⟩⟩ := hR0
    · omega
    obtain ⟨d, hd⟩ : ∃ d : Array K16, d = ks.toArray := ⟨_, rfl⟩
    have hdl : d.toList = ks := by rw [hd]
    have HC := Lib.hid (show Lib.compact ks = Lib.compactUpTo d d.size by rw [hd]; unfold Lib.compact; simp)
    obtain ⟨n, hn2⟩ : ∃ n, ks.length = n := ⟨_, rfl⟩
    have HDS := Lib.hid (show d.size = n by rw [hd, ← hn2]; simp)
    rw [hn2] at hR h2 hn hnc ⊢
    rw [← hdl] at hR
    have h2' : ¬ (n : Int) < 2 := by omega
    have HR := Lib.hid hR
    have HH := Lib.hid hH
    clear hR hH hd hdl hn2
    go_enter Try.func28, Try.ntmps28
    go_wp2_with fail
    go_loopw [3] (fun s3 wr => ∃ k : Nat, 1 ≤ k ∧ k ≤ n ∧ s3 = .int .i64 k ∧ Below w.heap.size w wr ∧ ∀ j, j < k → Lib.keeps d j = true) (fun s3 _ => n - (intOf s3).toNat)
    case atStart => exact ⟨1, by omega, by omega, rfl, Below.refl _ _, Lib.keeps_lt_one d⟩
    case round =>
      obtain ⟨k, hk1, hk, rfl, hb, hall⟩ := hrel
      have HHr := Lib.hid (HH.out.grow hb)
      have HB := Lib.hid hb
      have HA := Lib.hid hall
      clear hb hall
      by_cases hlt : k < n
      · have hki : (k : Int) < (n : Int) := by omega
        have hki0 : (0 : Int) ≤ (k : Int) - 1 := by omega
        have hki1 : (k : Int) - 1 < (n : Int) := by omega
        have hkn : ((k : Int) - 1).toNat = k - 1 := by omega
        have hdl : d.toList.length = n := by rw [Array.length_toList]; exact HDS.out
        obtain ⟨x, hx⟩ : ∃ x, d[k]! = x := ⟨_, rfl⟩
        obtain ⟨y, hy⟩ : ∃ y, d[k - 1]! = y := ⟨_, rfl⟩
        have LX := Lib.hid (fun w' hb => by have := rowkey HR.out HHr.out k (k * 16) (by omega) rfl w' hb; rw [get_bang, hx] at this; exact this)
        have LY := Lib.hid (fun w' hb => by have := rowkey HR.out HHr.out (k - 1) ((k - 1) * 16) (by omega) rfl w' hb; rw [get_bang, hy] at this; exact this)
        have HX := Lib.hid hx
        have HY := Lib.hid hy
        clear hx hy hdl
        obtain ⟨eqb, heq⟩ : ∃ b, keq x.1 y.1 = b := ⟨_, rfl⟩
        have HEQ := Lib.hid heq
        clear heq
        go_wp2_with fail
        refine region_quiet_lit (C := fun w' => Below wr.heap.size wr w') (by kernel_rfl) (by kernel_rfl) (Below.refl _ _).drew ?_
        go_big_quiet_step (exact fun _ => rfl)
        go_big_quiet_step (exact fun _ => rfl)
        go_big_quiet_step (exact fun _ => rfl)
        refine BigFrame.wpQuiet_want rfl (fun K hK => ?_)
        refine quiet_ldk (.tmp 18) rfl ⟨g, k * 16, none⟩ (by simp [go_sem]) x.1 (fun w2 hw => LX.out w2 hw) (hK _ ?_)
        clear hK K
        simp only [Act.put, List.setIfInBounds_toArray, List.set_cons_zero, List.set_cons_succ]
        go_big_quiet_step (exact fun _ => rfl)
        go_big_quiet_step (exact fun _ => rfl)
        go_big_quiet_step (exact fun _ => rfl)
        go_big_quiet_step (exact fun _ => rfl)
        refine BigFrame.wpQuiet_want rfl (fun K hK => ?_)
        refine quiet_ldk (.tmp 23) rfl ⟨g, (k - 1) * 16, none⟩ (by simp [go_sem]) y.1 (fun w2 hw => LY.out w2 hw) (hK _ ?_)
        clear hK K
        simp only [Act.put, List.setIfInBounds_toArray, List.set_cons_zero, List.set_cons_succ]
        refine BigFrame.wpQuiet_want rfl (fun K hK => ?_)
        refine quiet_val (.bool eqb) (fun w2 hw => by simp [go_sem, run_eqIn, HEQ.out]) (hK _ ?_)
        clear hK K
        simp only [Act.put, List.setIfInBounds_toArray, List.set_cons_zero, List.set_cons_succ]
        refine wpQuiet_nil ?_
        intro w4 hw4
        have HH4 := Lib.hid (HHr.out.grow hw4)
        have HB4 := Lib.hid (HB.out.trans (hw4.mono HB.out.size))
        clear hw4
        cases eqb
        · have HNE := Lib.hid (show x ≠ y from fun e => by have := HEQ.out; rw [keq_eq, decide_eq_true e] at this; cases this)
          go_wp2_with fail
          go_roundw
          case rel => exact ⟨k + 1, by omega, by omega, by go_num, HB4.out, fun j hj => by
            by_cases e : j = k
            · subst e; exact Lib.keeps_pos (by rw [HX.out, HY.out]; exact HNE.out)
            · exact HA.out j (by omega)⟩
          case measure => simp [intOf]; omega
        · have HE := Lib.hid (show x = y by have := HEQ.out; rw [keq_eq] at this; exact of_decide_eq_true this)
          have hck : ¬ cap = k := by omega
          have hkc : (k : Int) ≤ (cap : Int) := by omega
          have hkn2 : (k : Int) ≤ (n : Int) := by omega
          have HI0 := Lib.hid (Lib.CompInv.start HA.out (Lib.keeps_neg (by omega) (by rw [HX.out, HY.out]; exact HE.out)))
          go_wp2_with fail
          go_loopw [3, 5] (fun s3 s5 wr => ∃ (kk k2 : Nat) (dk : Array K16) (h' : Hp), s3 = .int .i64 kk ∧ s5 = .int .i64 k2 ∧ 1 ≤ k2 ∧ k + k2 ≤ n ∧ RowB 23 16 (.slice (some ⟨g, 0, none⟩) n cap) n (flat dk.toList) h' ∧ Holds w0 (h' ++ F) wr ∧ Lib.CompInv d (k + k2) kk dk) (fun _ s5 _ => n - k - (intOf s5).toNat)
          case atStart => exact ⟨k, 1, d, h, rfl, rfl, by omega, by omega, HR.out, HH4.out, HI0.out⟩
          case round =>
            obtain ⟨kk, k2, dk, h', rfl, rfl, hk21, hk2, hR2, hH2, hI⟩ := hrel
            have HR2 := Lib.hid hR2
            have HH2 := Lib.hid hH2
            have HI := Lib.hid hI
            have hkk : kk < k + k2 := hI.lt
            have hkki : (kk : Int) < (n : Int) ∨ kk = n := by omega
            clear hR2 hH2 hI hkki
            have HDK := Lib.hid (show dk.toList.length = n by rw [Array.length_toList, HI.out.size]; exact HDS.out)
            by_cases hlt2 : k + k2 < n
            · have q1 : (k2 : Int) < (n : Int) - (k : Int) := by omega
              have q2 : (0 : Int) ≤ (k2 : Int) - 1 := by omega
              have q3 : (k2 : Int) - 1 < (n : Int) - (k : Int) := by omega
              have q4 : ((k2 : Int) - 1).toNat = k2 - 1 := by omega
              have q5 : k2 < n - k := by omega
              have q6 : k2 - 1 < n - k := by omega
              have q7 : (kk : Int) < (n : Int) := by omega
              obtain ⟨u, hu⟩ : ∃ u, d[k + k2]! = u := ⟨_, rfl⟩
              obtain ⟨z, hz⟩ : ∃ z, d[k + k2 - 1]! = z := ⟨_, rfl⟩
              have LU := Lib.hid (fun w' hb => by have := rowkey HR2.out HH2.out (k + k2) (k * 16 + k2 * 16) (by rw [HDK.out]; omega) (by omega) w' hb; rw [get_bang, HI.out.high _ (by omega), hu] at this; exact this)
              have LZ := Lib.hid (fun w' hb => by have := rowkey HR2.out HH2.out (k + k2 - 1) (k * 16 + (k2 - 1) * 16) (by rw [HDK.out]; omega) (by omega) w' hb; rw [get_bang, HI.out.high _ (by omega), hz] at this; exact this)
              have HU := Lib.hid hu
              have HZ := Lib.hid hz
              clear hu hz
              obtain ⟨eqb, heq⟩ : ∃ b, keq u.1 z.1 = b := ⟨_, rfl⟩
              have HEQ2 := Lib.hid heq
              clear heq
              go_wp2_with fail
              refine region_quiet_lit (C := fun w' => Below wr.heap.size wr w') (by kernel_rfl) (by kernel_rfl) (Below.refl _ _).drew ?_
              go_big_quiet_step (exact fun _ => rfl)
              go_big_quiet_step (exact fun _ => rfl)
              go_big_quiet_step (exact fun _ => rfl)
              refine BigFrame.wpQuiet_want rfl (fun K hK => ?_)
              refine quiet_ldk (.tmp 37) rfl ⟨g, k * 16 + k2 * 16, none⟩ (by simp [go_sem]) u.1 (fun w2 hw => LU.out w2 hw) (hK _ ?_)
              clear hK K
              simp only [Act.put, List.setIfInBounds_toArray, List.set_cons_zero, List.set_cons_succ]
              go_big_quiet_step (exact fun _ => rfl)
              go_big_quiet_step (exact fun _ => rfl)
              go_big_quiet_step (exact fun _ => rfl)
              go_big_quiet_step (exact fun _ => rfl)
              refine BigFrame.wpQuiet_want rfl (fun K hK => ?_)
              refine quiet_ldk (.tmp 42) rfl ⟨g, k * 16 + (k2 - 1) * 16, none⟩ (by simp [go_sem]) z.1 (fun w2 hw => LZ.out w2 hw) (hK _ ?_)
              clear hK K
              simp only [Act.put, List.setIfInBounds_toArray, List.set_cons_zero, List.set_cons_succ]
              refine BigFrame.wpQuiet_want rfl (fun K hK => ?_)
              refine quiet_val (.bool !eqb) (fun w2 hw => by simp [go_sem, run_eqIn, HEQ2.out]) (hK _ ?_)
              clear hK K
              simp only [Act.put, List.setIfInBounds_toArray, List.set_cons_zero, List.set_cons_succ]
              refine wpQuiet_nil ?_
              intro w5 hw5
              have HH5 := Lib.hid (HH2.out.grow hw5)
              have LU5 := Lib.hid (LU.out w5 hw5)
              clear hw5
              cases eqb
              · have HNE := Lib.hid (show u ≠ z from fun e => by have := HEQ2.out; rw [keq_eq, decide_eq_true e] at this; cases this)
                obtain ⟨hth, hput⟩ := RowB.putk HR2.out HH5.out kk (by omega) u
                have HTH := Lib.hid (show w5.there g (kk * 16) (kv u.1).size from hth)
                have HPUT := Lib.hid hput
                clear hth hput
                have hI2 := Lib.hid (by have := HI.out.keep (by rw [HDS.out]; exact hlt2) (Lib.keeps_pos (by rw [HU.out, HZ.out]; exact HNE.out)); rw [HU.out] at this; exact this)
                go_wp2_with (first
                  | ((with_reducible refine ldK (.tmp 49) rfl rfl ⟨g, k * 16 + k2 * 16, none⟩ ?_ u.1 LU5.out ?_); rfl)
                  | ((with_reducible refine wpList_store_mid rfl 23 (.tmp 51) (.tmp 50) rfl g (kk * 16) (kv u.1) ?_ ?_ HTH.out (info23 u.1) (kv_one u.1) ?_); rfl; rfl))
                go_roundw
                case rel =>
                  obtain ⟨h3, r3, H3⟩ := HPUT.out
                  exact ⟨kk + 1, k2 + 1, _, h3, by go_num, by go_num, by omega, by omega, by rw [Array.toList_setIfInBounds]; exact r3, H3, hI2.out⟩
                case measure => simp [intOf]; omega
              · have HE := Lib.hid (show u = z by have := HEQ2.out; rw [keq_eq] at this; exact of_decide_eq_true this)
                have hI2 := Lib.hid (HI.out.skip (Lib.keeps_neg (by omega) (by rw [HU.out, HZ.out]; exact HE.out)))
                go_wp2_with fail
                go_roundw
                case rel => exact ⟨kk, k2 + 1, dk, h', rfl, by go_num, by omega, by omega, HR2.out, HH5.out, hI2.out⟩
                case measure => simp [intOf]; omega
            · have hend : k + k2 = n := by omega
              have q1 : ¬ (k2 : Int) < (n : Int) - (k : Int) := by omega
              have q5 : ¬ k2 < n - k := by omega
              have q7 : (kk : Int) ≤ (n : Int) := by omega
              have q8 : ¬ cap = kk := by omega
              have q9 : (kk : Int) ≤ (cap : Int) := by omega
              obtain ⟨w6, hcl, hpost⟩ := run_clear_k HR2.out HH2.out kk (by omega) (cap - kk)
              have HPO := Lib.hid hpost
              clear hpost
              go_wp2_with fail
              go_ret
              obtain ⟨h6, r6, H6⟩ := HPO.out
              refine ⟨_, rfl, h6, ?_, H6⟩
              have hI := HI.out
              rw [hend, ← HDS.out] at hI
              rw [HC.out, ← comp_take hI]
              have e : (dk.toList.take kk).length = kk := by rw [List.length_take, HDK.out]; omega
              rw [e]
              exact r6
      · obtain rfl : k = n := by omega
        go_wp2_with fail
        go_ret
        have e : Lib.compactUpTo d d.size = d.toList := by rw [Lib.compactUpTo_all d _ (fun j hj => HA.out j (by rw [← HDS.out]; exact hj)), Lib.range_map_get]
        refine ⟨_, rfl, h, ?_, HHr.out⟩
        rw [HC.out, e, Array.length_toList, HDS.out]
        exact HR.out
end Go.Proofs.Ytnmnniknklfemaa
