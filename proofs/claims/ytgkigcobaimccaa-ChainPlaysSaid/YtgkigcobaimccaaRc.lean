/- The document's own versions: what is read of them: contracts for every world. Conditions: each theorem's own. -/
import Derived.Test.YtgkigcobaimccaaSm
import Derived.Test.YtgkigcobaimccaaOs
namespace Go.Proofs.Ytgkigcobaimccaa
open Go.RowKit Go.Proofs.Ytgkigcobaimccaa.Sp
set_option linter.unusedVariables false
set_option linter.unusedSimpArgs false
theorem kz_at : ∀ i, i < 16 → kz[i]? = some (.int .u8 0)
  | 0, _ => rfl | 1, _ => rfl | 2, _ => rfl | 3, _ => rfl | 4, _ => rfl | 5, _ => rfl | 6, _ => rfl | 7, _ => rfl
  | 8, _ => rfl | 9, _ => rfl | 10, _ => rfl | 11, _ => rfl | 12, _ => rfl | 13, _ => rfl | 14, _ => rfl | 15, _ => rfl
  | n + 16, h => absurd h (by omega)
theorem quiet_ldK {C : World → Prop} {K : Act → Prop} {o : Oper} {a : Act} (x : Operand) (ho : o.op = .load 47 x) (g off : Nat) (hx : a.eval x = .pointer (some ⟨g, off, none⟩)) (hg : ∀ w, C w → w.rangeAt g off kz.toList)
    (hk : K (a.put o.dst (.agg kz))) : o.quiet Try.prog a C K :=
  quiet_val _ (fun w hw => by
    have hl := run_loadVar_mid (P := Try.prog) w g off 47 kz.toList _ (hg w hw) Try.underlying47 rfl (by kernel_rfl)
    unfold execOp
    simp only [ho, hx, Instr.loadAt, Instr.sureAddr, Sem.run_bind, Sem.run_pure, Result.andThen_ok, hl]) hk
theorem ldKm {ops : Array Oper} {rest : List Oper} {dst : Option Tmp} {ty : TypeId} {pos : String} {af : Array Edge} {a : Act} {w : World} {Q : Exit → Act → World → Prop} (x : Operand) (g off : Nat)
    (hx : a.eval x = .pointer (some ⟨g, off, none⟩)) (hg : w.rangeAt g off kz.toList)
    (hh : wpList Try.prog ops Q rest (a.put dst (.agg kz)) w) : wpList Try.prog ops Q ({ dst := dst, op := .load 47 x, type := ty, pos := pos, after := af, guard := none } :: rest) a w := by
  refine wpList_plain rfl fun K' hK' => ?_
  have hl := run_loadVar_mid (P := Try.prog) w g off 47 kz.toList _ hg Try.underlying47 rfl (by kernel_rfl)
  unfold Oper.wp execOp
  simp only [hx, Instr.loadAt, Instr.sureAddr, Sem.run_bind, Sem.run_pure, Result.andThen_ok, hl]
  exact hK' _ _ hh
theorem ldOm {ops : Array Oper} {rest : List Oper} {dst : Option Tmp} {ty : TypeId} {pos : String} {af : Array Edge} {a : Act} {w : World} {Q : Exit → Act → World → Prop} (x : Operand) (g off : Nat) (v : Ver)
    (hx : a.eval x = .pointer (some ⟨g, off, none⟩)) (hg : w.rangeAt g off (oC v).toList)
    (hh : wpList Try.prog ops Q rest (a.put dst (.agg (oC v))) w) : wpList Try.prog ops Q ({ dst := dst, op := .load 49 x, type := ty, pos := pos, after := af, guard := none } :: rest) a w := by
  refine wpList_plain rfl fun K' hK' => ?_
  have hl := run_loadVar_mid (P := Try.prog) w g off 49 (oC v).toList _ hg Try.underlying49 rfl (by kernel_rfl)
  unfold Oper.wp execOp
  simp only [hx, Instr.loadAt, Instr.sureAddr, Sem.run_bind, Sem.run_pure, Result.andThen_ok, hl]
  exact hK' _ _ hh
theorem key_cell (x : Ver) : ∀ i, i < 16 → (oC x)[i]? = some (.int .u8 0)
  | 0, _ => rfl
  | 1, _ => rfl
  | 2, _ => rfl
  | 3, _ => rfl
  | 4, _ => rfl
  | 5, _ => rfl
  | 6, _ => rfl
  | 7, _ => rfl
  | 8, _ => rfl
  | 9, _ => rfl
  | 10, _ => rfl
  | 11, _ => rfl
  | 12, _ => rfl
  | 13, _ => rfl
  | 14, _ => rfl
  | 15, _ => rfl
  | n + 16, h => absurd h (by omega)
/-- A key's cells, from one of a version's on. -/
theorem key_of {w : World} {b off : Nat} {x : Ver} (h : w.rangeAt b off (oC x).toList) : w.rangeAt b off kz.toList := by
  intro j u hj
  have hj2 : j < 16 := (List.getElem?_eq_some_iff.mp hj).1
  refine h j u ?_
  rw [Array.getElem?_toList, kz_at j hj2] at hj
  obtain rfl := Option.some.inj hj
  rw [Array.getElem?_toList]
  exact key_cell x j hj2
theorem range_own {w0 w : World} {F : Hp} {g : Nat} {cs : Array Value} {t : TypeId} (H : Holds w0 ((g, .cells cs t (0, 0)) :: F) w) : w.rangeAt g 0 cs.toList := by
  intro j u hj
  rw [Nat.zero_add, H.cell j, ← Array.getElem?_toList]
  exact hj
/-- The store: its row of versions. -/
def IsR (r : Nat) (L : List Ver) (h : Hp) : Prop := ∃ v hr, RowB 49 20 v L.length (oV L) hr ∧ h = (r, .cells #[v] 43) :: hr ∧ Rise L ∧ L.length ≤ 50
theorem ro_row {v : Value} {L : List Ver} {hv : Hp} (R : RowB 49 20 v L.length (oV L) hv) : ∃ A b c, v = .slice A L.length c ∧ (0 < L.length → A = some ⟨b, 0, none⟩) ∧ ∀ w0 F w, Holds w0 (hv ++ F) w → Ro b L w := by
  rcases RowB.two R with ⟨rfl, h0, _⟩ | ⟨gL, c, rfl, _, hcs⟩
  · refine ⟨none, 0, 0, by rw [h0], fun h => by omega, fun w0 F w H j u hj => ?_⟩
    obtain rfl : L = [] := List.eq_nil_of_length_eq_zero h0
    simp [oV] at hj
  · exact ⟨_, gL, c, rfl, fun _ => rfl, fun w0 F w H j u hj => hcs w0 F w H j u hj⟩
theorem stamp_of {w : World} {b off : Nat} {x : Ver} (h : w.rangeAt b off (oC x).toList) : w.cell? ⟨b, off + 16, none⟩ = some (.int .i64 x.t) ∧ w.cell? ⟨b, off + 17, none⟩ = some (.int .u8 x.n) ∧ w.cell? ⟨b, off + 18, none⟩ = some (.string x.val) ∧ w.cell? ⟨b, off + 19, none⟩ = some (.bool x.gone) :=
  ⟨h 16 _ rfl, h 17 _ rfl, h 18 _ rfl, h 19 _ rfl⟩
set_option maxRecDepth 100000 in
set_option maxHeartbeats 4000000 in
theorem keycmp_calls (w : World) : Calls Try.prog 39 #[.agg kz, .agg kz] w fun e w' => e = .returned (.int .i64 0) ∧ Below w.heap.size w w' := by
  obtain ⟨W, hW⟩ : ∃ W, W = ((w.alloc (.cells kz 47)).alloc (.cells kz 47)) := ⟨_, rfl⟩
  have H0 : Holds w ((w.heap.size + 1, .cells kz 47) :: (w.heap.size, .cells kz 47) :: []) W := by rw [hW]; exact (Holds.nil w).alloc2 (.cells kz 47) (.cells kz 47)
  have HC := Lib.hid (fun (i : Nat) (hi : i < 16) w' (hb : Below W.heap.size W w') => show w'.cell? ⟨w.heap.size, i, none⟩ = some (.int .u8 0) ∧ w'.cell? ⟨w.heap.size + 1, i, none⟩ = some (.int .u8 0) from by
    have h1 := H0.grow hb
    rw [h1.tail.cell i, h1.cell i, kz_at i hi]
    exact ⟨rfl, rfl⟩)
  have HB0 := Lib.hid H0.below
  have HWb := Lib.hid hW
  clear H0 hW
  go_enter Try.func39, Try.ntmps39
  go_wp2_with fail
  rw [← HWb.out]
  go_loopw [5] (fun i wr => ∃ k : Nat, k ≤ 16 ∧ i = .int .i64 k ∧ Below W.heap.size W wr) (fun i _ => 16 - (intOf i).toNat)
  case atStart => exact ⟨0, by omega, rfl, Below.refl _ _⟩
  case round =>
    obtain ⟨k, hk, rfl, hB⟩ := hrel
    have HBr := Lib.hid hB
    clear hB
    by_cases hlt : k < 16
    · have HK := Lib.hid (fun w' (hb : Below wr.heap.size wr w') => HC.out k hlt w' (HBr.out.trans (hb.mono HBr.out.size)))
      have hki : (k : Int) < 16 := by omega
      go_wp2_with fail
      refine region_quiet_lit (C := fun w' => Below wr.heap.size wr w') (by kernel_rfl) (by kernel_rfl) (Below.refl _ _).drew ?_
      go_big_quiet_step (exact fun _ => rfl)
      go_big_quiet_step (exact fun _ => rfl)
      refine BigFrame.wpQuiet_want rfl (fun K hK => ?_)
      refine quiet_val (.int .u8 0) (fun w2 hw => by have q := (HK.out w2 hw).1; simp [go_sem, q]) (hK _ ?_)
      clear hK K
      simp only [Act.put, List.setIfInBounds_toArray, List.set_cons_zero, List.set_cons_succ]
      go_big_quiet_step (exact fun _ => rfl)
      go_big_quiet_step (exact fun _ => rfl)
      refine BigFrame.wpQuiet_want rfl (fun K hK => ?_)
      refine quiet_val (.int .u8 0) (fun w2 hw => by have q := (HK.out w2 hw).2; simp [go_sem, q]) (hK _ ?_)
      clear hK K
      simp only [Act.put, List.setIfInBounds_toArray, List.set_cons_zero, List.set_cons_succ]
      go_big_quiet_step (exact fun _ => rfl)
      refine wpQuiet_nil ?_
      intro w4 hw4
      have HB4 := Lib.hid (HBr.out.trans (hw4.mono HBr.out.size))
      have HK4 := Lib.hid (fun w' (hb : Below w4.heap.size w4 w') => HC.out k hlt w' (HB4.out.trans (hb.mono HB4.out.size)))
      clear hw4
      go_wp2_with fail
      refine region_quiet_lit (C := fun w' => Below w4.heap.size w4 w') (by kernel_rfl) (by kernel_rfl) (Below.refl _ _).drew ?_
      go_big_quiet_step (exact fun _ => rfl)
      go_big_quiet_step (exact fun _ => rfl)
      refine BigFrame.wpQuiet_want rfl (fun K hK => ?_)
      refine quiet_val (.int .u8 0) (fun w2 hw => by have q := (HK4.out w2 hw).1; simp [go_sem, q]) (hK _ ?_)
      clear hK K
      simp only [Act.put, List.setIfInBounds_toArray, List.set_cons_zero, List.set_cons_succ]
      go_big_quiet_step (exact fun _ => rfl)
      go_big_quiet_step (exact fun _ => rfl)
      refine BigFrame.wpQuiet_want rfl (fun K hK => ?_)
      refine quiet_val (.int .u8 0) (fun w2 hw => by have q := (HK4.out w2 hw).2; simp [go_sem, q]) (hK _ ?_)
      clear hK K
      simp only [Act.put, List.setIfInBounds_toArray, List.set_cons_zero, List.set_cons_succ]
      go_big_quiet_step (exact fun _ => rfl)
      refine wpQuiet_nil ?_
      intro w5 hw5
      have HB5 := Lib.hid (HB4.out.trans (hw5.mono HB4.out.size))
      clear hw5
      go_wp2_with fail
      go_roundw
      case rel => exact ⟨k + 1, by omega, by go_num, HB5.out⟩
      case measure => simp [intOf] <;> omega
    · obtain rfl : k = 16 := by omega
      go_wp2_with fail
      go_ret
      exact ⟨rfl, HB0.out.trans (HBr.out.mono HB0.out.size)⟩
theorem rgood_calls (t n : Int) (w : World) : Calls Try.prog 38 #[.agg (sC t n)] w fun e w' => e = .returned (.bool (gd t)) ∧ Below w.heap.size w w' := by
  have HB := Lib.hid (show Below w.heap.size w (w.alloc (.cells (sC t n) 24)) from (Below.refl _ w).alloc (Nat.le_refl _) _)
  unfold sC at HB ⊢
  by_cases h1 : 0 ≤ t
  · by_cases h2 : t ≤ 36028797018963967
    · rw [show gd t = true from decide_eq_true ⟨h1, h2⟩]
      go_enter Try.func38, Try.ntmps38
      go_wp2_with fail
      go_ret
      exact ⟨rfl, HB.out⟩
    · rw [show gd t = false from decide_eq_false (fun h => h2 h.2)]
      go_enter Try.func38, Try.ntmps38
      go_wp2_with fail
      go_ret
      exact ⟨rfl, HB.out⟩
  · rw [show gd t = false from decide_eq_false (fun h => h1 h.1)]
    go_enter Try.func38, Try.ntmps38
    go_wp2_with fail
    go_ret
    exact ⟨rfl, HB.out⟩
set_option maxRecDepth 100000 in
set_option maxHeartbeats 4000000 in
theorem may_A (x : Ver) (w : World) (hg : gd x.t = false) : Calls Try.prog 31 #[.agg (oC x)] w fun e w' => e = .returned (.bool false) ∧ Below w.heap.size w w' := by
  have H0 := (Holds.nil w).alloc (.cells (oC x) 49)
  have hq := stamp_of (range_own H0)
  simp only [Nat.zero_add] at hq
  obtain ⟨q0, q1, q2, q3⟩ := hq
  have HGD := Lib.hid (fun w => rgood_calls x.t x.n w)
  have HB := Lib.hid H0.below
  have HH := Lib.hid H0
  clear H0
  have HG := Lib.hid hg
  clear hg
  go_enter Try.func31, Try.ntmps31
  go_wp2_with fail
  refine (HGD.out _).mono ?_
  rintro e w1 ⟨rfl, hb⟩
  have HB1 := Lib.hid (HB.out.trans (hb.mono HB.out.size))
  have p2 := cell_grow q2 hb; have p3 := cell_grow q3 hb
  clear hb q0 q1 q2 q3
  simp only [HG.out]
  go_wp2_with fail
  go_ret
  exact ⟨rfl, HB1.out⟩
set_option maxRecDepth 100000 in
set_option maxHeartbeats 4000000 in
theorem may_B (x : Ver) (w : World) (hg : gd x.t = true) (h2 : 200 < x.val.size) : Calls Try.prog 31 #[.agg (oC x)] w fun e w' => e = .returned (.bool false) ∧ Below w.heap.size w w' := by
  have H0 := (Holds.nil w).alloc (.cells (oC x) 49)
  have hq := stamp_of (range_own H0)
  simp only [Nat.zero_add] at hq
  obtain ⟨q0, q1, q2, q3⟩ := hq
  have HGD := Lib.hid (fun w => rgood_calls x.t x.n w)
  have HB := Lib.hid H0.below
  have HH := Lib.hid H0
  clear H0
  have HG := Lib.hid hg
  have h2i : ¬ (x.val.size : Int) ≤ 200 := by omega
  clear hg
  go_enter Try.func31, Try.ntmps31
  go_wp2_with fail
  refine (HGD.out _).mono ?_
  rintro e w1 ⟨rfl, hb⟩
  have HB1 := Lib.hid (HB.out.trans (hb.mono HB.out.size))
  have p2 := cell_grow q2 hb; have p3 := cell_grow q3 hb
  clear hb q0 q1 q2 q3
  simp only [HG.out]
  go_wp2_with fail
  go_ret
  exact ⟨rfl, HB1.out⟩
set_option maxRecDepth 100000 in
set_option maxHeartbeats 4000000 in
theorem may_C (x : Ver) (w : World) (hg : gd x.t = true) (h2 : ¬ 200 < x.val.size) (h3 : x.gone = true) (h4 : x.val.size ≠ 0) : Calls Try.prog 31 #[.agg (oC x)] w fun e w' => e = .returned (.bool false) ∧ Below w.heap.size w w' := by
  have H0 := (Holds.nil w).alloc (.cells (oC x) 49)
  have hq := stamp_of (range_own H0)
  simp only [Nat.zero_add] at hq
  obtain ⟨q0, q1, q2, q3⟩ := hq
  have HGD := Lib.hid (fun w => rgood_calls x.t x.n w)
  have HB := Lib.hid H0.below
  have HH := Lib.hid H0
  clear H0
  have HG := Lib.hid hg
  have h2i : (x.val.size : Int) ≤ 200 := by omega
  rw [h3] at q3
  have hne : x.val.toList.isEmpty = false := by
    rw [ByteArray.toList_eq]
    cases hh : x.val.data.toList with
    | nil => exact absurd (by have := congrArg List.length hh; simpa using this) h4
    | cons a r => rfl
  clear hg h3 h4
  go_enter Try.func31, Try.ntmps31
  go_wp2_with fail
  refine (HGD.out _).mono ?_
  rintro e w1 ⟨rfl, hb⟩
  have HB1 := Lib.hid (HB.out.trans (hb.mono HB.out.size))
  have p2 := cell_grow q2 hb; have p3 := cell_grow q3 hb
  clear hb q0 q1 q2 q3
  simp only [HG.out]
  go_wp2_with fail
  go_ret
  exact ⟨rfl, HB1.out⟩
set_option maxRecDepth 100000 in
set_option maxHeartbeats 4000000 in
theorem may_D (x : Ver) (w : World) (hg : gd x.t = true) (h2 : ¬ 200 < x.val.size) (h3 : x.gone = false) : Calls Try.prog 31 #[.agg (oC x)] w fun e w' => e = .returned (.bool true) ∧ Below w.heap.size w w' := by
  have H0 := (Holds.nil w).alloc (.cells (oC x) 49)
  have hq := stamp_of (range_own H0)
  simp only [Nat.zero_add] at hq
  obtain ⟨q0, q1, q2, q3⟩ := hq
  have HGD := Lib.hid (fun w => rgood_calls x.t x.n w)
  have HB := Lib.hid H0.below
  have HH := Lib.hid H0
  clear H0
  have HG := Lib.hid hg
  have h2i : (x.val.size : Int) ≤ 200 := by omega
  rw [h3] at q3
  clear hg h3
  go_enter Try.func31, Try.ntmps31
  go_wp2_with fail
  refine (HGD.out _).mono ?_
  rintro e w1 ⟨rfl, hb⟩
  have HB1 := Lib.hid (HB.out.trans (hb.mono HB.out.size))
  have p2 := cell_grow q2 hb; have p3 := cell_grow q3 hb
  clear hb q0 q1 q2 q3
  simp only [HG.out]
  go_wp2_with fail
  go_ret
  exact ⟨rfl, HB1.out⟩
set_option maxRecDepth 100000 in
set_option maxHeartbeats 4000000 in
theorem may_E (x : Ver) (w : World) (hg : gd x.t = true) (h3 : x.gone = true) (h4 : x.val.size = 0) : Calls Try.prog 31 #[.agg (oC x)] w fun e w' => e = .returned (.bool true) ∧ Below w.heap.size w w' := by
  have H0 := (Holds.nil w).alloc (.cells (oC x) 49)
  have hq := stamp_of (range_own H0)
  simp only [Nat.zero_add] at hq
  obtain ⟨q0, q1, q2, q3⟩ := hq
  have HGD := Lib.hid (fun w => rgood_calls x.t x.n w)
  have HB := Lib.hid H0.below
  have HH := Lib.hid H0
  clear H0
  have HG := Lib.hid hg
  rw [h3] at q3
  have hxe : x.val = ⟨#[]⟩ := by
    cases hx : x.val with
    | mk d =>
      rw [hx] at h4
      have : d = #[] := Array.eq_empty_of_size_eq_zero h4
      rw [this]
  rw [hxe] at q2
  clear hg h3 h4
  go_enter Try.func31, Try.ntmps31
  go_wp2_with fail
  refine (HGD.out _).mono ?_
  rintro e w1 ⟨rfl, hb⟩
  have HB1 := Lib.hid (HB.out.trans (hb.mono HB.out.size))
  have p2 := cell_grow q2 hb; have p3 := cell_grow q3 hb
  clear hb q0 q1 q2 q3
  simp only [HG.out]
  go_wp2_with fail
  go_ret
  exact ⟨rfl, HB1.out⟩
def mayV (x : Ver) : Bool := !(decide (gd x.t = false ∨ 200 < x.val.size ∨ (x.gone = true ∧ x.val.size ≠ 0)))
theorem may_calls (x : Ver) (w : World) : Calls Try.prog 31 #[.agg (oC x)] w fun e w' => e = .returned (.bool (mayV x)) ∧ Below w.heap.size w w' := by
  unfold mayV
  cases hg : gd x.t
  · rw [decide_eq_true (.inl rfl)]; exact may_A x w hg
  · by_cases h2 : 200 < x.val.size
    · rw [decide_eq_true (.inr (.inl h2))]; exact may_B x w hg h2
    · cases h3 : x.gone
      · rw [decide_eq_false (by rintro (h | h | ⟨h, _⟩); cases h; exact h2 h; cases h)]; exact may_D x w hg h2 h3
      · by_cases h4 : x.val.size = 0
        · rw [decide_eq_false (by rintro (h | h | ⟨_, h⟩); cases h; exact h2 h; exact h h4)]; exact may_E x w hg h3 h4
        · rw [decide_eq_true (.inr (.inr ⟨rfl, h4⟩))]; exact may_C x w hg h2 h3 h4
theorem eq_kop (w : World) : (execOp (fun o => match o with | .tmp 46 => .agg kz | .tmp 47 => .agg kz | _ => undef) { dst := some 48, op := .binOp .eql 47 (.tmp 46) (.tmp 47) 47, type := 4, pos := "", after := #[], guard := none }).run Try.prog w = .ok (.value (.bool true)) w := by
  have h : (Op.equalIn 10000 47 (.agg kz) (.agg kz)).run Try.prog w = .ok true w := by
    obtain ⟨i, hi⟩ := info5b
    rw [show (10000 : Nat) = 9999 + 1 from rfl, run_equalIn_array w 9999 kz kz Try.underlying47 hi]
    kernel_rfl
  unfold kz at h
  simp [go_sem, kz, h]
set_option maxRecDepth 100000 in
set_option maxHeartbeats 4000000 in
theorem rchain_calls (r b c : Nat) (A : Option Addr) (L : List Ver) (w : World) (h1 : w.cell? ⟨r, 0, none⟩ = some (.slice A L.length c)) (e1 : 0 < L.length → A = some ⟨b, 0, none⟩) (r1 : Ro b L w) (hL6 : L.length ≤ 1000) :
    Calls Try.prog 32 #[.pointer (some ⟨r, 0, none⟩), .agg kz] w fun e w' => e = .returned (.tuple #[.int .i64 0, .int .i64 L.length]) ∧ Below w.heap.size w w' := by
  obtain ⟨W, hW⟩ : ∃ W, W = w.alloc (.cells kz 47) := ⟨_, rfl⟩
  have H0 : Holds w ((w.heap.size, .cells kz 47) :: []) W := by rw [hW]; exact (Holds.nil w).alloc (.cells kz 47)
  have HC0 := Lib.hid (fun w' (hb : Below W.heap.size W w') => cell_grow h1 (H0.below.trans (hb.mono H0.below.size)))
  have HR0 := Lib.hid (fun w' (hb : Below W.heap.size W w') (k : Nat) (x : Ver) (hx : L[k]? = some x) => show w'.rangeAt b (k * 20) (oC x).toList from fun j v hj => cell_grow (r1.at_ hx j v hj) (H0.below.trans (hb.mono H0.below.size)))
  have HK0 := Lib.hid (fun w' (hb : Below W.heap.size W w') => range_own (H0.grow hb))
  have HB0 := Lib.hid H0.below
  have HWb := Lib.hid hW
  clear H0 h1 r1 hW
  by_cases hL : L = []
  · subst hL
    simp only [List.length_nil] at HC0
    go_enter Try.func32, Try.ntmps32
    go_wp2_with fail
    rw [← HWb.out]
    go_loopw [6] (fun i wr => i = .int .i64 0 ∧ Below W.heap.size W wr) (fun i _ => 0)
    case atStart => exact ⟨rfl, Below.refl _ _⟩
    case round =>
      obtain ⟨rfl, hB⟩ := hrel
      have HBr := Lib.hid hB
      have HC := Lib.hid (fun w' (hb : Below wr.heap.size wr w') => HC0.out w' (HBr.out.trans (hb.mono HBr.out.size)))
      clear hB
      go_wp2_with fail
      refine region_quiet_lit (C := fun w' => Below wr.heap.size wr w') (by kernel_rfl) (by kernel_rfl) (Below.refl _ _).drew ?_
      go_big_quiet_step (exact fun _ => rfl)
      go_big_quiet_step (exact fun _ => rfl)
      go_big_quiet_step (exact fun _ => rfl)
      go_big_quiet_step (exact fun _ => rfl)
      refine BigFrame.wpQuiet_want rfl (fun K hK => ?_)
      refine quiet_val (.slice A 0 c) (fun w2 hw => by have q := HC.out w2 hw; simp [go_sem, q]) (hK _ ?_)
      clear hK K
      simp only [Act.put, List.setIfInBounds_toArray, List.set_cons_zero, List.set_cons_succ]
      go_big_quiet_step (exact fun _ => rfl)
      go_big_quiet_step (exact fun _ => rfl)
      go_big_quiet_step (exact fun _ => rfl)
      go_big_quiet_skip
      go_big_quiet_skip
      go_big_quiet_skip
      go_big_quiet_skip
      go_big_quiet_skip
      go_big_quiet_skip
      go_big_quiet_skip
      go_big_quiet_skip
      go_big_quiet_skip
      go_big_quiet_skip
      go_big_quiet_skip
      go_big_quiet_step (exact fun _ => rfl)
      refine wpQuiet_nil ?_
      intro w4 hw4
      have HB4 := Lib.hid (HBr.out.trans (hw4.mono HBr.out.size))
      clear hw4
      go_wp2_with fail
      go_loopw [7] (fun i wr => i = .int .i64 0 ∧ Below W.heap.size W wr) (fun i _ => 0)
      case atStart => exact ⟨rfl, HB4.out⟩
      case round =>
        obtain ⟨rfl, hB⟩ := hrel
        have HBr := Lib.hid hB
        have HC := Lib.hid (fun w' (hb : Below wr.heap.size wr w') => HC0.out w' (HBr.out.trans (hb.mono HBr.out.size)))
        clear hB
        go_wp2_with fail
        refine region_quiet_lit (C := fun w' => Below wr.heap.size wr w') (by kernel_rfl) (by kernel_rfl) (Below.refl _ _).drew ?_
        go_big_quiet_step (exact fun _ => rfl)
        go_big_quiet_step (exact fun _ => rfl)
        go_big_quiet_step (exact fun _ => rfl)
        go_big_quiet_step (exact fun _ => rfl)
        refine BigFrame.wpQuiet_want rfl (fun K hK => ?_)
        refine quiet_val (.slice A 0 c) (fun w2 hw => by have q := HC.out w2 hw; simp [go_sem, q]) (hK _ ?_)
        clear hK K
        simp only [Act.put, List.setIfInBounds_toArray, List.set_cons_zero, List.set_cons_succ]
        go_big_quiet_step (exact fun _ => rfl)
        go_big_quiet_step (exact fun _ => rfl)
        go_big_quiet_step (exact fun _ => rfl)
        go_big_quiet_skip
        go_big_quiet_skip
        go_big_quiet_skip
        go_big_quiet_skip
        go_big_quiet_skip
        go_big_quiet_skip
        go_big_quiet_skip
        go_big_quiet_skip
        go_big_quiet_skip
        go_big_quiet_skip
        go_big_quiet_step (exact fun _ => rfl)
        refine wpQuiet_nil ?_
        intro w4 hw4
        have HB4 := Lib.hid (HBr.out.trans (hw4.mono HBr.out.size))
        clear hw4
        go_wp2_with fail
        exact bodyPost_ret (v := .tuple #[.int .i64 0, .int .i64 0]) (by simp [results, Try.results32, go_sem]) rfl ⟨rfl, HB0.out.trans (HB4.out.mono HB0.out.size)⟩
  · have hpos : 0 < L.length := by
      cases L with
      | nil => exact absurd rfl hL
      | cons _ _ => simp
    obtain rfl := e1 hpos
    obtain ⟨x0, hx0⟩ : ∃ x, L[0]? = some x := ⟨_, List.getElem?_eq_getElem hpos⟩
    have HX0 := Lib.hid hx0
    have hposi : (0 : Int) < (L.length : Int) := by omega
    clear hx0
    go_enter Try.func32, Try.ntmps32
    go_wp2_with fail
    rw [← HWb.out]
    go_loopw [6] (fun i wr => i = .int .i64 0 ∧ Below W.heap.size W wr) (fun i _ => 0)
    case atStart => exact ⟨rfl, Below.refl _ _⟩
    case round =>
      obtain ⟨rfl, hB⟩ := hrel
      have HBr := Lib.hid hB
      have HC := Lib.hid (fun w' (hb : Below wr.heap.size wr w') => HC0.out w' (HBr.out.trans (hb.mono HBr.out.size)))
      have HR := Lib.hid (fun w' (hb : Below wr.heap.size wr w') => show w'.rangeAt b 0 (oC x0).toList by have := HR0.out w' (HBr.out.trans (hb.mono HBr.out.size)) 0 x0 HX0.out; rwa [Nat.zero_mul] at this)
      have HK := Lib.hid (fun w' (hb : Below wr.heap.size wr w') => HK0.out w' (HBr.out.trans (hb.mono HBr.out.size)))
      clear hB
      go_wp2_with fail
      refine region_quiet_lit (C := fun w' => Below wr.heap.size wr w') (by kernel_rfl) (by kernel_rfl) (Below.refl _ _).drew ?_
      go_big_quiet_step (exact fun _ => rfl)
      go_big_quiet_step (exact fun _ => rfl)
      go_big_quiet_step (exact fun _ => rfl)
      go_big_quiet_step (exact fun _ => rfl)
      refine BigFrame.wpQuiet_want rfl (fun K hK => ?_)
      refine quiet_val (.slice (some ⟨b, 0, none⟩) L.length c) (fun w2 hw => by have q := HC.out w2 hw; simp [go_sem, q]) (hK _ ?_)
      clear hK K
      simp only [Act.put, List.setIfInBounds_toArray, List.set_cons_zero, List.set_cons_succ]
      go_big_quiet_step (exact fun _ => rfl)
      go_big_quiet_step (exact fun _ => rfl)
      go_big_quiet_step (exact fun _ => rfl)
      go_big_quiet_step (exact fun _ => rfl)
      go_big_quiet_step (exact fun _ => rfl)
      go_big_quiet_step (exact fun _ => rfl)
      refine BigFrame.wpQuiet_want rfl (fun K hK => ?_)
      refine quiet_val (.slice (some ⟨b, 0, none⟩) L.length c) (fun w2 hw => by have q := HC.out w2 hw; simp [go_sem, q]) (hK _ ?_)
      clear hK K
      simp only [Act.put, List.setIfInBounds_toArray, List.set_cons_zero, List.set_cons_succ]
      go_big_quiet_step (exact fun _ => rfl)
      go_big_quiet_step (exact fun _ => rfl)
      go_big_quiet_step (exact fun _ => rfl)
      refine BigFrame.wpQuiet_want rfl (fun K hK => ?_)
      refine quiet_ldK (.tmp 22) rfl b 0 rfl (fun w2 hw => key_of (HR.out w2 hw)) (hK _ ?_)
      clear hK K
      simp only [Act.put, List.setIfInBounds_toArray, List.set_cons_zero, List.set_cons_succ]
      refine BigFrame.wpQuiet_want rfl (fun K hK => ?_)
      refine quiet_ldK (.tmp 3) rfl w.heap.size 0 rfl (fun w2 hw => HK.out w2 hw) (hK _ ?_)
      clear hK K
      simp only [Act.put, List.setIfInBounds_toArray, List.set_cons_zero, List.set_cons_succ]
      refine BigFrame.wpQuiet_want rfl (fun K hK => ?_)
      refine quiet_call 39 #[.agg kz, .agg kz] (.int .i64 0) (fun w2 => by simp [go_sem]) (fun w2 hw => (keycmp_calls w2).mono fun e w3 hh => ⟨hh.1, hw.trans (hh.2.mono hw.size)⟩) (hK _ ?_)
      clear hK K
      simp only [Act.put, List.setIfInBounds_toArray, List.set_cons_zero, List.set_cons_succ]
      go_big_quiet_step (exact fun _ => rfl)
      go_big_quiet_step (exact fun _ => rfl)
      refine wpQuiet_nil ?_
      intro w4 hw4
      have HB4 := Lib.hid (HBr.out.trans (hw4.mono HBr.out.size))
      clear hw4
      go_wp2_with fail
      go_loopw [7] (fun i wr => ∃ k : Nat, k ≤ L.length ∧ i = .int .i64 k ∧ Below W.heap.size W wr) (fun i _ => L.length - (intOf i).toNat)
      case atStart => exact ⟨0, by omega, rfl, HB4.out⟩
      case round =>
        obtain ⟨k, hk, rfl, hB⟩ := hrel
        have HBr5 := Lib.hid hB
        have HC5 := Lib.hid (fun w' (hb : Below wr.heap.size wr w') => HC0.out w' (HBr5.out.trans (hb.mono HBr5.out.size)))
        clear hB
        by_cases hlt : k < L.length
        · obtain ⟨x, hx⟩ : ∃ x, L[k]? = some x := ⟨_, List.getElem?_eq_getElem hlt⟩
          have HR5 := Lib.hid (fun w' (hb : Below wr.heap.size wr w') => HR0.out w' (HBr5.out.trans (hb.mono HBr5.out.size)) k x hx)
          have HK5 := Lib.hid (fun w' (hb : Below wr.heap.size wr w') => HK0.out w' (HBr5.out.trans (hb.mono HBr5.out.size)))
          have hki : (k : Int) < (L.length : Int) := by omega
          clear hx
          go_wp2_with fail
          refine region_quiet_lit (C := fun w' => Below wr.heap.size wr w') (by kernel_rfl) (by kernel_rfl) (Below.refl _ _).drew ?_
          go_big_quiet_step (exact fun _ => rfl)
          go_big_quiet_step (exact fun _ => rfl)
          go_big_quiet_step (exact fun _ => rfl)
          go_big_quiet_step (exact fun _ => rfl)
          refine BigFrame.wpQuiet_want rfl (fun K hK => ?_)
          refine quiet_val (.slice (some ⟨b, 0, none⟩) L.length c) (fun w2 hw => by have q := HC5.out w2 hw; simp [go_sem, q]) (hK _ ?_)
          clear hK K
          simp only [Act.put, List.setIfInBounds_toArray, List.set_cons_zero, List.set_cons_succ]
          go_big_quiet_step (exact fun _ => rfl)
          go_big_quiet_step (exact fun _ => rfl)
          go_big_quiet_step (exact fun _ => rfl)
          go_big_quiet_step (exact fun _ => rfl)
          go_big_quiet_step (exact fun _ => rfl)
          go_big_quiet_step (exact fun _ => rfl)
          refine BigFrame.wpQuiet_want rfl (fun K hK => ?_)
          refine quiet_val (.slice (some ⟨b, 0, none⟩) L.length c) (fun w2 hw => by have q := HC5.out w2 hw; simp [go_sem, q]) (hK _ ?_)
          clear hK K
          simp only [Act.put, List.setIfInBounds_toArray, List.set_cons_zero, List.set_cons_succ]
          go_big_quiet_step (exact fun _ => rfl)
          go_big_quiet_step (exact fun _ => rfl)
          go_big_quiet_step (exact fun _ => rfl)
          refine BigFrame.wpQuiet_want rfl (fun K hK => ?_)
          refine quiet_ldK (.tmp 45) rfl b (k * 20) rfl (fun w2 hw => key_of (HR5.out w2 hw)) (hK _ ?_)
          clear hK K
          simp only [Act.put, List.setIfInBounds_toArray, List.set_cons_zero, List.set_cons_succ]
          refine BigFrame.wpQuiet_want rfl (fun K hK => ?_)
          refine quiet_ldK (.tmp 3) rfl w.heap.size 0 rfl (fun w2 hw => HK5.out w2 hw) (hK _ ?_)
          clear hK K
          simp only [Act.put, List.setIfInBounds_toArray, List.set_cons_zero, List.set_cons_succ]
          refine BigFrame.wpQuiet_want rfl (fun K hK => ?_)
          refine quiet_val (.bool true) (fun w2 hw => eq_kop w2) (hK _ ?_)
          clear hK K
          simp only [Act.put, List.setIfInBounds_toArray, List.set_cons_zero, List.set_cons_succ]
          go_big_quiet_step (exact fun _ => rfl)
          refine wpQuiet_nil ?_
          intro w4 hw4
          have HB6 := Lib.hid (HBr5.out.trans (hw4.mono HBr5.out.size))
          clear hw4
          go_wp2_with fail
          go_roundw
          case rel => exact ⟨k + 1, by omega, by go_num, HB6.out⟩
          case measure => simp [intOf] <;> omega
        · obtain rfl : k = L.length := by omega
          go_wp2_with fail
          refine region_quiet_lit (C := fun w' => Below wr.heap.size wr w') (by kernel_rfl) (by kernel_rfl) (Below.refl _ _).drew ?_
          go_big_quiet_step (exact fun _ => rfl)
          go_big_quiet_step (exact fun _ => rfl)
          go_big_quiet_step (exact fun _ => rfl)
          go_big_quiet_step (exact fun _ => rfl)
          refine BigFrame.wpQuiet_want rfl (fun K hK => ?_)
          refine quiet_val (.slice (some ⟨b, 0, none⟩) L.length c) (fun w2 hw => by have q := HC5.out w2 hw; simp [go_sem, q]) (hK _ ?_)
          clear hK K
          simp only [Act.put, List.setIfInBounds_toArray, List.set_cons_zero, List.set_cons_succ]
          go_big_quiet_step (exact fun _ => rfl)
          go_big_quiet_step (exact fun _ => rfl)
          go_big_quiet_step (exact fun _ => rfl)
          go_big_quiet_skip
          go_big_quiet_skip
          go_big_quiet_skip
          go_big_quiet_skip
          go_big_quiet_skip
          go_big_quiet_skip
          go_big_quiet_skip
          go_big_quiet_skip
          go_big_quiet_skip
          go_big_quiet_skip
          go_big_quiet_step (exact fun _ => rfl)
          refine wpQuiet_nil ?_
          intro w4 hw4
          have HB6 := Lib.hid (HBr5.out.trans (hw4.mono HBr5.out.size))
          clear hw4
          go_wp2_with fail
          exact bodyPost_ret (v := .tuple #[.int .i64 0, .int .i64 L.length]) (by simp [results, Try.results32, go_sem]) rfl ⟨rfl, HB0.out.trans (HB6.out.mono HB0.out.size)⟩
end Go.Proofs.Ytgkigcobaimccaa
