/- ChainPlays' walk. No condition. -/
import Derived.Test.YtgkigcobaimccaaRt
import Derived.Test.YtgkigcobaimccaaActs2
namespace Go.Proofs.Ytgkigcobaimccaa
open Go.RowKit Go.Proofs.Ytgkigcobaimccaa.Sp Go.Proofs.Ytgkigcobaimccaa.K2 Go.Proofs.YtgkigcobaimccaaW.PrintWords
set_option linter.unusedVariables false
set_option linter.unusedSimpArgs false
def aC (p t n : Int) (s : ByteArray) (b : Bool) : Array Value := #[.int .i64 p, .int .i64 t, .int .u8 n, .string s, .bool b]
theorem info55 (p t n : Int) (s : ByteArray) (b : Bool) : (Try.prog.info? 55).map (·.size) = some (aC p t n s b).size := by kernel_rfl
theorem info47 : (Try.prog.info? 47).map (·.size) = some kz.size := by kernel_rfl
theorem stA {ops : Array Oper} {rest : List Oper} {dst : Option Tmp} {ty : TypeId} {pos : String} {af : Array Edge} {a : Act} {w : World} {Q : Exit → Act → World → Prop} (x y : Operand) (g : Nat) (p t n : Int) (s : ByteArray) (b : Bool)
    (hx : a.eval x = .pointer (some ⟨g, 0, none⟩)) (hy : a.eval y = .agg (aC p t n s b)) (hg : w.heap[g]? = some (.cells (aC 0 0 0 ⟨#[]⟩ false) 55 (0, 0)))
    (hh : wpList Try.prog ops Q rest (a.put dst undef) (w.setRow g (aC p t n s b))) : wpList Try.prog ops Q ({ dst := dst, op := .store 55 x y, type := ty, pos := pos, after := af, guard := none } :: rest) a w :=
  wpList_store_row rfl 55 x y rfl g (aC p t n s b) hx hy 55 (aC 0 0 0 ⟨#[]⟩ false) hg (info55 _ _ _ _ _) rfl (by simp [aC, Value.oneCell']) hh
theorem stK {ops : Array Oper} {rest : List Oper} {dst : Option Tmp} {ty : TypeId} {pos : String} {af : Array Edge} {a : Act} {w : World} {Q : Exit → Act → World → Prop} (x y : Operand) (g : Nat)
    (hx : a.eval x = .pointer (some ⟨g, 0, none⟩)) (hy : a.eval y = .agg kz) (hg : w.heap[g]? = some (.cells kz 47 (0, 0)))
    (hh : wpList Try.prog ops Q rest (a.put dst undef) (w.setRow g kz)) : wpList Try.prog ops Q ({ dst := dst, op := .store 47 x y, type := ty, pos := pos, after := af, guard := none } :: rest) a w :=
  wpList_store_row rfl 47 x y rfl g kz hx hy 47 kz hg info47 rfl (by kernel_rfl) hh
theorem wpV {o : Oper} {a : Act} {w : World} {K : Act → World → Prop} {Q : Exit → Act → World → Prop} (v : Value) (hrun : (execOp a.eval o).run Try.prog w = .ok (.value v) w) (hK : K (a.put o.dst v) w) : o.wp Try.prog a w K Q := by
  unfold Oper.wp
  rw [hrun]
  exact hK
theorem ne49 (x : Ver) (w : World) (a : Act) (i j : Operand) {o : Oper} (ho : o.op = .binOp .neq 49 i j 49) (hi : a.eval i = .agg (oC x)) (hj : a.eval j = .agg (oC x)) : (execOp a.eval o).run Try.prog w = .ok (.value (.bool false)) w := by
  have h := eq_key w
  unfold kz at h
  unfold execOp
  simp only [ho, hi, hj]
  simp [go_sem, oC, h]
theorem ne24 (t n : Int) (w : World) (a : Act) (i j : Operand) {o : Oper} (ho : o.op = .binOp .neq 24 i j 24) (hi : a.eval i = .agg (sC t n)) (hj : a.eval j = .agg (sC t n)) : (execOp a.eval o).run Try.prog w = .ok (.value (.bool false)) w := by
  unfold execOp
  simp only [ho, hi, hj]
  simp [go_sem, sC]
theorem wpL {ty : TypeId} {t : TypeId} {cs : Array Value} {o : Oper} {a : Act} {w : World} {K : Act → World → Prop} {Q : Exit → Act → World → Prop} (x : Operand) (g : Nat) (ho : o.op = .load ty x) (hx : a.eval x = .pointer (some ⟨g, 0, none⟩))
    (hg : w.heap[g]? = some (.cells cs t (0, 0))) (hrun : (loadVar ty ⟨g, 0, none⟩).run Try.prog w = .ok (.agg cs) w) (hK : K (a.put o.dst (.agg cs)) w) : o.wp Try.prog a w K Q := by
  unfold Oper.wp execOp
  simp only [ho, hx, Instr.loadAt, Instr.sureAddr, Sem.run_bind, Sem.run_pure, Result.andThen_ok, hrun]
  exact hK
theorem ldVr {w : World} {g : Nat} {v : Ver} (hg : w.heap[g]? = some (.cells (vC v) 30 (0, 0))) : (loadVar 30 ⟨g, 0, none⟩).run Try.prog w = .ok (.agg (vC v)) w := run_loadVar_row (P := Try.prog) w g 30 30 (vC v) (0, 0) _ hg Try.underlying30 rfl (info30 v)
theorem ldOr {w : World} {g : Nat} {v : Ver} (hg : w.heap[g]? = some (.cells (oC v) 49 (0, 0))) : (loadVar 49 ⟨g, 0, none⟩).run Try.prog w = .ok (.agg (oC v)) w := run_loadVar_row (P := Try.prog) w g 49 49 (oC v) (0, 0) _ hg Try.underlying49 rfl (info49 v)
theorem ldSr {w : World} {g : Nat} {t n : Int} (hg : w.heap[g]? = some (.cells (sC t n) 24 (0, 0))) : (loadVar 24 ⟨g, 0, none⟩).run Try.prog w = .ok (.agg (sC t n)) w := run_loadVar_row (P := Try.prog) w g 24 24 (sC t n) (0, 0) _ hg Try.underlying24 rfl (info24 t n)
def toV2 (x : S55) : Ver := ⟨x.f1.f0.f0, x.f1.f0.f1, x.f1.f1, x.f1.f2⟩
def Both (g r c d : Nat) (A L : List Ver) (F : Hp) (Ls : Nat → Bool) (hs : Hp) : Prop := ∃ h hr, IsC g (if Ls c = true then A else L) h ∧ IsR r (if Ls d = true then A else L) hr ∧ hs = h ++ (hr ++ F)
theorem Both.mk {g r c d : Nat} {A L : List Ver} {F : Hp} {Ls : Nat → Bool} {h hr : Hp} (hC : IsC g (if Ls c = true then A else L) h) (hR : IsR r (if Ls d = true then A else L) hr) : Both g r c d A L F Ls (h ++ (hr ++ F)) := ⟨h, hr, hC, hR, rfl⟩
def RelP (w : World) (g r kb n : Nat) (a m : Int) (i : Value) (wr : World) : Prop :=
  ∃ (k : Nat) (L : List Ver) (h hr : Hp), k ≤ n ∧ i = .int .i64 k ∧ IsC g L h ∧ IsR r L hr ∧ Holds w (h ++ (hr ++ ((kb, Obj.cells kz 47) :: (w.heap.size, .cells (sC a m) 24) :: []))) wr
theorem isC_rise {g : Nat} {L : List Ver} {h : Hp} (H : IsC g L h) : Rise L ∧ L.length ≤ 50 := by
  obtain ⟨_, _, _, _, h1, h2⟩ := H
  exact ⟨h1, h2⟩
def BoxR (L : List Ver) (v : Value) (h : Hp) : Prop := ∃ b u hq, v = .pointer (some ⟨b, 0, none⟩) ∧ RowB 49 20 u L.length (oV L) hq ∧ h = (b, .cells #[u] 43) :: hq
theorem BoxR.mk {L : List Ver} {b : Nat} {u : Value} {hq : Hp} (R : RowB 49 20 u L.length (oV L) hq) : BoxR L (.pointer (some ⟨b, 0, none⟩)) ((b, .cells #[u] 43) :: hq) := ⟨b, u, hq, rfl, R, rfl⟩
theorem isR_rows {r : Nat} {L : List Ver} {h : Hp} (hI : IsR r L h) : ∃ A b c, (0 < L.length → A = some ⟨b, 0, none⟩) ∧ ∀ w0 w' F, Holds w0 (h ++ F) w' → w'.cell? ⟨r, 0, none⟩ = some (.slice A L.length c) ∧ Ro b L w' := by
  obtain ⟨v, hr, hR, rfl, hri, hl⟩ := hI
  obtain ⟨A, b, c, rfl, e1, hro⟩ := ro_row hR
  exact ⟨A, b, c, e1, fun w0 w' F H => ⟨H.cell 0, hro w0 ((r, .cells #[.slice A L.length c] 43) :: F) w' (H.perm (by classical rw [List.perm_iff_count]; intro a; simp only [List.count_append, List.count_cons, List.count_nil]; omega))⟩⟩
theorem row_rd2 {v : Value} {L : List Ver} {hv : Hp} (R : RowB 30 4 v L.length (verV L) hv) : ∃ A gL c, v = .slice A L.length c ∧ (0 < L.length → A = some ⟨gL, 0, none⟩) ∧ ∀ w0 F w, Holds w0 (hv ++ F) w → Rd gL L w := by
  rcases RowB.two R with ⟨rfl, h0, _⟩ | ⟨gL, c, rfl, _, hcs⟩
  · refine ⟨none, 0, 0, by rw [h0], fun h => by omega, fun w0 F w H j u hj => ?_⟩
    obtain rfl : L = [] := List.eq_nil_of_length_eq_zero h0
    simp [verV] at hj
  · exact ⟨_, gL, c, rfl, fun _ => rfl, fun w0 F w H j u hj => hcs w0 F w H j u hj⟩
set_option maxRecDepth 100000 in
set_option maxHeartbeats 16000000 in
theorem plays_walk (A : Option Addr) (cap : Nat) (l : List S55) (a m : Int) (w : World) (hcap : l.length ≤ cap) (hl : Kd.C k55 w A l.length l) :
    Calls Try.prog 7 #[.slice A l.length cap, .agg (sC a m)] w fun e w' => e = .returned (.bool true) ∧ Below w.heap.size w w' := by
  have HF := Lib.hid ((Holds.nil w).alloc (.cells (sC a m) 24))
  by_cases c1 : (80 : Int) < (l.length : Int)
  · go_enter Try.func7, Try.ntmps7
    go_wp2_with fail
    refine (awake_calls _).mono ?_
    rintro e w1 ⟨rfl, hb⟩
    have HB := Lib.hid (HF.out.grow hb).below
    clear hb
    go_wp2_with fail
    go_ret
    exact ⟨rfl, HB.out⟩
  go_enter Try.func7, Try.ntmps7
  go_wp2_with fail
  refine (awake_calls _).mono ?_
  rintro e w1 ⟨rfl, hb⟩
  have HHb := Lib.hid (HF.out.grow hb)
  clear hb
  go_wp2_with fail
  refine (new_calls w _ _ HHb.out).mono ?_
  rintro e w3 ⟨g, rfl, h0, hI, hH⟩
  have HI0 := Lib.hid hI
  have k1 := hH.alloc2 (.cells #[.slice none 0 0] 43) (.cells kz 47)
  have g1 : ((w3.alloc (.cells #[.slice none 0 0] 43)).alloc (.cells #[.int .u8 0, .int .u8 0, .int .u8 0, .int .u8 0, .int .u8 0, .int .u8 0, .int .u8 0, .int .u8 0, .int .u8 0, .int .u8 0, .int .u8 0, .int .u8 0, .int .u8 0, .int .u8 0, .int .u8 0, .int .u8 0] 47)).heap[w3.heap.size + 1]? = some (.cells kz 47 (0, 0)) := k1.get
  have K1 := Lib.hid ((k1.turn (row_grown _ (w3.heap.size + 1) kz) (setRow_heap _ _ _ _ _ _ k1.get)).perm (k := h0 ++ ([(w3.heap.size, .cells #[.slice none 0 0] 43)] ++ ((w3.heap.size + 1, Obj.cells kz 47) :: (w.heap.size, .cells (sC a m) 24) :: []))) (by classical rw [List.perm_iff_count]; intro a; simp only [List.count_append, List.count_cons, List.count_nil]; omega))
  clear hI hH k1
  go_wp2_with (with_reducible refine stK (.tmp 7) (.tmp 28) (w3.heap.size + 1) rfl rfl g1 ?_)
  obtain ⟨kb, hkb⟩ : ∃ kb, kb = w3.heap.size + 1 := ⟨_, rfl⟩
  obtain ⟨r, hr⟩ : ∃ r, r = w3.heap.size := ⟨_, rfl⟩
  obtain ⟨W3, hW3⟩ : ∃ W3, W3 = ((w3.alloc (.cells #[.slice none 0 0] 43)).alloc (.cells #[.int .u8 0, .int .u8 0, .int .u8 0, .int .u8 0, .int .u8 0, .int .u8 0, .int .u8 0, .int .u8 0, .int .u8 0, .int .u8 0, .int .u8 0, .int .u8 0, .int .u8 0, .int .u8 0, .int .u8 0, .int .u8 0] 47)).setRow (w3.heap.size + 1) kz := ⟨_, rfl⟩
  have hk1 := K1.out
  rw [show ((w3.alloc (.cells #[.slice none 0 0] 43)).alloc (.cells kz 47)).setRow (w3.heap.size + 1) kz = W3 from hW3.symm, ← hkb, ← hr] at hk1
  rw [← hW3, ← hkb, ← hr]
  have HK := Lib.hid hk1
  have HIR := Lib.hid (show IsR r [] [(r, .cells #[.slice none 0 0] 43)] from ⟨_, [], RowB.nil _ _, rfl, List.Pairwise.nil, by simp⟩)
  clear hk1 hkb hr hW3 K1 g1
  go_loopw [8] (fun i wr => RelP w g r kb l.length a m i wr) (fun i _ => l.length - (intOf i).toNat)
  case atStart => exact ⟨0, [], h0, _, by omega, rfl, HI0.out, HIR.out, HK.out⟩
  case round =>
    obtain ⟨k, L, h, hr, hk, rfl, hI, hR, hH⟩ := hrel
    have HC0 := Lib.hid hI; have HRr := Lib.hid hR; have HHr := Lib.hid hH
    clear hI hR hH HI0 HIR HK
    by_cases hlt : k < l.length
    · obtain ⟨ad, rfl, q0, q1, q2, q3, q4⟩ := at_T55 (Kd.C_below hl HHr.out.below) (k : Int) (by omega) (by omega)
      generalize rd_T55 l (k : Int) = x at q0 q1 q2 q3 q4
      rw [Int.toNat_natCast] at q0 q1 q2 q3 q4
      obtain ⟨pp, hpp⟩ : ∃ pp, pp = x.f0 := ⟨_, rfl⟩
      obtain ⟨tt, htt⟩ : ∃ tt, tt = x.f1.f0.f0 := ⟨_, rfl⟩
      obtain ⟨nn, hnn⟩ : ∃ nn, nn = x.f1.f0.f1 := ⟨_, rfl⟩
      obtain ⟨ss, hss⟩ : ∃ ss, ss = x.f1.f1 := ⟨_, rfl⟩
      obtain ⟨bb, hbb⟩ : ∃ bb, bb = x.f1.f2 := ⟨_, rfl⟩
      rw [← hpp] at q0; rw [← htt] at q1; rw [← hnn] at q2; rw [← hss] at q3; rw [← hbb] at q4
      clear hpp htt hnn hss hbb
      have k1 := HHr.out.alloc (.cells (aC 0 0 0 ⟨#[]⟩ false) 55)
      have g1 : (wr.alloc (.cells #[.int .i64 0, .int .i64 0, .int .u8 0, .string ⟨#[]⟩, .bool false] 55)).heap[wr.heap.size]? = some (.cells (aC 0 0 0 ⟨#[]⟩ false) 55 (0, 0)) := k1.get
      have k2 := k1.turn (row_grown _ wr.heap.size (aC pp tt nn ss bb)) (setRow_heap _ _ _ _ _ _ k1.get)
      obtain ⟨W5, hW5⟩ : ∃ W5, W5 = (wr.alloc (.cells #[.int .i64 0, .int .i64 0, .int .u8 0, .string ⟨#[]⟩, .bool false] 55)).setRow wr.heap.size (aC pp tt nn ss bb) := ⟨_, rfl⟩
      have k3 : Holds w ((wr.heap.size, .cells (aC pp tt nn ss bb) 55) :: (h ++ (hr ++ ((kb, Obj.cells kz 47) :: (w.heap.size, .cells (sC a m) 24) :: [])))) W5 := by rw [hW5]; exact k2
      have HW5 := Lib.hid hW5
      have r0 : W5.cell? ⟨wr.heap.size, 0, none⟩ = some (.int .i64 pp) := k3.cell 0
      have r3 : W5.cell? ⟨wr.heap.size, 3, none⟩ = some (.string ss) := k3.cell 3
      obtain ⟨xb, hxb⟩ : ∃ xb, xb = wr.heap.size := ⟨_, rfl⟩
      have HXB := Lib.hid hxb
      have HH0 := Lib.hid (show Holds w (h ++ (hr ++ ((xb, Obj.cells (aC pp tt nn ss bb) 55) :: ((kb, Obj.cells kz 47) :: (w.heap.size, .cells (sC a m) 24) :: [])))) W5 by rw [hxb]; exact k3.perm (by classical rw [List.perm_iff_count]; intro a; simp only [List.count_append, List.count_cons, List.count_nil]; omega))
      have HR0 := HRr
      rw [← hxb] at r0 r3
      rw [hW5, hxb] at r0 r3
      clear k1 k2 k3 hW5 hxb HHr
      by_cases hs : 300 < (ss.size : Int)
      · go_wp2_with (with_reducible refine stA (.tmp 9) (.tmp 38) wr.heap.size pp tt nn ss bb rfl rfl g1 ?_)
        rw [← HW5.out]
        have hbel := HH0.out.below
        go_ret
        exact ⟨rfl, hbel⟩
      by_cases hp0 : pp = 0
      · have hp0' : (pp == 0) = true := by rw [hp0]; rfl
        clear hp0
        go_wp2_with (with_reducible refine stA (.tmp 9) (.tmp 38) wr.heap.size pp tt nn ss bb rfl rfl g1 ?_)
        rw [← HW5.out, ← HXB.out]
        clear r0 r3 q0 q1 q2 q3 q4 g1 HW5 HXB HRr
        refine wp_region_own 10 (fun _ => []) (by kernel_rfl) (by kernel_rfl) (by kernel_rfl) (by kernel_rfl) (Nat.le_of_ble_eq_true (by kernel_rfl)) w (fun Ls hs => Both g r 3 8 (putM L (⟨tt, nn, ss, bb⟩ : Ver)).2 L ((xb, Obj.cells (aC pp tt nn ss bb) 55) :: ((kb, Obj.cells kz 47) :: (w.heap.size, .cells (sC a m) 24) :: [])) Ls hs) (fun i v h => match i with | 0 => v = .pointer (some ⟨g, 0, none⟩) ∧ h = [] | 1 => v = .pointer (some ⟨xb, 1, none⟩) ∧ h = [] | 2 => v = Value.agg (vC (⟨tt, nn, ss, bb⟩ : Ver)) ∧ h = [] | 3 => v = .int .i64 (putM L (⟨tt, nn, ss, bb⟩ : Ver)).1 ∧ h = [] | 4 => v = .pointer (some ⟨r, 0, none⟩) ∧ h = [] | 5 => v = .pointer (some ⟨xb, 1, none⟩) ∧ h = [] | 6 => v = Value.agg (vC (⟨tt, nn, ss, bb⟩ : Ver)) ∧ h = [] | 7 => v = Value.agg (oC (⟨tt, nn, ss, bb⟩ : Ver)) ∧ h = [] | 8 => v = .int .i64 (putM L (⟨tt, nn, ss, bb⟩ : Ver)).1 ∧ h = [] | 9 => v = .bool false ∧ h = [] | _ => True) ((h ++ (hr ++ ((xb, Obj.cells (aC pp tt nn ss bb) 55) :: ((kb, Obj.cells kz 47) :: (w.heap.size, .cells (sC a m) 24) :: []))))) (Both.mk HC0.out HR0.out) (HH0.out.drew) ?_ ?_
        · intro i o hi ho Ls f Hf hs R w1 hI hL hd hH
          simp only [fill, List.take_succ_cons, List.take_zero, Act.put, List.setIfInBounds_toArray, List.set_cons_zero, List.set_cons_succ]
          match i, hi with
          | 0, _ =>
            obtain rfl := Option.some.inj ho
            clear hd ho
            have hH : Holds w (hs ++ ([] ++ R)) w1 := hH
            obtain ⟨h, hr, hC, hR, rfl⟩ := hI
            unfold wpOp
            refine Or.inl ?_
            unfold Oper.wp
            go_simp
            exact OwnBy.mk _ _ _ rfl (Both.mk hC hR) (⟨rfl, rfl⟩) (hH)
          | 1, _ =>
            obtain rfl := Option.some.inj ho
            clear hd ho
            have hH : Holds w (hs ++ ([] ++ R)) w1 := hH
            obtain ⟨h, hr, hC, hR, rfl⟩ := hI
            unfold wpOp
            refine Or.inl ?_
            unfold Oper.wp
            go_simp
            exact OwnBy.mk _ _ _ rfl (Both.mk hC hR) (⟨rfl, rfl⟩) (hH)
          | 2, _ =>
            obtain rfl := Option.some.inj ho
            have e1 : f 1 = .pointer (some ⟨xb, 1, none⟩) := (hd ⟨1, .data⟩ (by simp) rfl).2.1
            clear hd ho
            have hH : Holds w (hs ++ ([] ++ R)) w1 := hH
            obtain ⟨h, hr, hC, hR, rfl⟩ := hI
            unfold wpOp
            refine Or.inl ?_
            simp only [e1]
            unfold Oper.wp
            have hX : Holds w ((xb, Obj.cells (aC pp tt nn ss bb) 55) :: (h ++ hr ++ ((kb, Obj.cells kz 47) :: (w.heap.size, .cells (sC a m) 24) :: []) ++ R)) w1 := hH.perm (by classical rw [List.perm_iff_count]; intro a; simp only [List.count_append, List.count_cons, List.count_nil]; omega)
            have q1 : w1.cell? ⟨xb, 1, none⟩ = some (.int .i64 tt) := hX.cell 1
            have q2 : w1.cell? ⟨xb, 2, none⟩ = some (.int .u8 nn) := hX.cell 2
            have q3 : w1.cell? ⟨xb, 3, none⟩ = some (.string ss) := hX.cell 3
            have q4 : w1.cell? ⟨xb, 4, none⟩ = some (.bool bb) := hX.cell 4
            go_simp
            exact OwnBy.mk _ _ _ rfl (Both.mk hC hR) (⟨rfl, rfl⟩) (hH)
          | 3, _ =>
            obtain rfl := Option.some.inj ho
            have e0 : f 0 = .pointer (some ⟨g, 0, none⟩) := (hd ⟨0, .data⟩ (by simp) rfl).2.1
            have e2 : f 2 = Value.agg (vC (⟨tt, nn, ss, bb⟩ : Ver)) := (hd ⟨2, .data⟩ (by simp) rfl).2.1
            clear hd ho
            have hH : Holds w (hs ++ ([] ++ R)) w1 := hH
            obtain ⟨h, hr, hC, hR, rfl⟩ := hI
            unfold wpOp
            refine Or.inl ?_
            simp only [e0, e2]
            unfold Oper.wp
            rw [hL, if_neg (by decide)] at hC
            have hHp : Holds w (h ++ (hr ++ ((xb, Obj.cells (aC pp tt nn ss bb) 55) :: ((kb, Obj.cells kz 47) :: (w.heap.size, .cells (sC a m) 24) :: [])) ++ R)) w1 := hH.perm (by classical rw [List.perm_iff_count]; intro a; simp only [List.count_append, List.count_cons, List.count_nil]; omega)
            go_simp
            refine (put_calls g L (⟨tt, nn, ss, bb⟩ : Ver) h _ w w1 hC hHp).mono ?_
            rintro e w3 ⟨rfl, h3, hC3, hH3⟩
            exact OwnBy.mk _ [] _ rfl (Both.mk hC3 hR) ⟨rfl, rfl⟩ (hH3.perm (by classical rw [List.perm_iff_count]; intro a; simp only [List.count_append, List.count_cons, List.count_nil]; omega))
          | 4, _ =>
            obtain rfl := Option.some.inj ho
            clear hd ho
            have hH : Holds w (hs ++ ([] ++ R)) w1 := hH
            obtain ⟨h, hr, hC, hR, rfl⟩ := hI
            unfold wpOp
            refine Or.inl ?_
            unfold Oper.wp
            go_simp
            exact OwnBy.mk _ _ _ rfl (Both.mk hC hR) (⟨rfl, rfl⟩) (hH)
          | 5, _ =>
            obtain rfl := Option.some.inj ho
            clear hd ho
            have hH : Holds w (hs ++ ([] ++ R)) w1 := hH
            obtain ⟨h, hr, hC, hR, rfl⟩ := hI
            unfold wpOp
            refine Or.inl ?_
            unfold Oper.wp
            go_simp
            exact OwnBy.mk _ _ _ rfl (Both.mk hC hR) (⟨rfl, rfl⟩) (hH)
          | 6, _ =>
            obtain rfl := Option.some.inj ho
            have e5 : f 5 = .pointer (some ⟨xb, 1, none⟩) := (hd ⟨5, .data⟩ (by simp) rfl).2.1
            clear hd ho
            have hH : Holds w (hs ++ ([] ++ R)) w1 := hH
            obtain ⟨h, hr, hC, hR, rfl⟩ := hI
            unfold wpOp
            refine Or.inl ?_
            simp only [e5]
            unfold Oper.wp
            have hX : Holds w ((xb, Obj.cells (aC pp tt nn ss bb) 55) :: (h ++ hr ++ ((kb, Obj.cells kz 47) :: (w.heap.size, .cells (sC a m) 24) :: []) ++ R)) w1 := hH.perm (by classical rw [List.perm_iff_count]; intro a; simp only [List.count_append, List.count_cons, List.count_nil]; omega)
            have q1 : w1.cell? ⟨xb, 1, none⟩ = some (.int .i64 tt) := hX.cell 1
            have q2 : w1.cell? ⟨xb, 2, none⟩ = some (.int .u8 nn) := hX.cell 2
            have q3 : w1.cell? ⟨xb, 3, none⟩ = some (.string ss) := hX.cell 3
            have q4 : w1.cell? ⟨xb, 4, none⟩ = some (.bool bb) := hX.cell 4
            go_simp
            exact OwnBy.mk _ _ _ rfl (Both.mk hC hR) (⟨rfl, rfl⟩) (hH)
          | 7, _ =>
            obtain rfl := Option.some.inj ho
            have e6 : f 6 = Value.agg (vC (⟨tt, nn, ss, bb⟩ : Ver)) := (hd ⟨6, .data⟩ (by simp) rfl).2.1
            have e3 : f 3 = .int .i64 (putM L (⟨tt, nn, ss, bb⟩ : Ver)).1 := (hd ⟨3, .chain⟩ (by simp) rfl).2.1
            clear hd ho
            have hH : Holds w (hs ++ ([] ++ R)) w1 := hH
            obtain ⟨h, hr, hC, hR, rfl⟩ := hI
            unfold wpOp
            refine Or.inl ?_
            simp only [e6, e3]
            unfold Oper.wp
            go_simp
            refine (one_calls (⟨tt, nn, ss, bb⟩ : Ver) w1).mono ?_
            rintro e w3 ⟨rfl, hb⟩
            exact OwnBy.mk _ _ _ rfl (Both.mk hC hR) (⟨rfl, rfl⟩) (hH.grow hb)
          | 8, _ =>
            obtain rfl := Option.some.inj ho
            have e4 : f 4 = .pointer (some ⟨r, 0, none⟩) := (hd ⟨4, .data⟩ (by simp) rfl).2.1
            have e7 : f 7 = Value.agg (oC (⟨tt, nn, ss, bb⟩ : Ver)) := (hd ⟨7, .data⟩ (by simp) rfl).2.1
            clear hd ho
            have hH : Holds w (hs ++ ([] ++ R)) w1 := hH
            obtain ⟨h, hr, hC, hR, rfl⟩ := hI
            unfold wpOp
            refine Or.inl ?_
            simp only [e4, e7]
            unfold Oper.wp
            rw [hL, if_neg (by decide)] at hR
            have hHp : Holds w (hr ++ (h ++ ((xb, Obj.cells (aC pp tt nn ss bb) 55) :: ((kb, Obj.cells kz 47) :: (w.heap.size, .cells (sC a m) 24) :: [])) ++ R)) w1 := hH.perm (by classical rw [List.perm_iff_count]; intro a; simp only [List.count_append, List.count_cons, List.count_nil]; omega)
            go_simp
            refine (rput_calls r L (⟨tt, nn, ss, bb⟩ : Ver) hr _ w w1 hR hHp).mono ?_
            rintro e w3 ⟨rfl, h3, hC3, hH3⟩
            exact OwnBy.mk _ [] _ rfl (Both.mk hC hC3) ⟨rfl, rfl⟩ (hH3.perm (by classical rw [List.perm_iff_count]; intro a; simp only [List.count_append, List.count_cons, List.count_nil]; omega))
          | 9, _ =>
            obtain rfl := Option.some.inj ho
            have e3 : f 3 = .int .i64 (putM L (⟨tt, nn, ss, bb⟩ : Ver)).1 := (hd ⟨3, .data⟩ (by simp) rfl).2.1
            have e8 : f 8 = .int .i64 (putM L (⟨tt, nn, ss, bb⟩ : Ver)).1 := (hd ⟨8, .data⟩ (by simp) rfl).2.1
            clear hd ho
            have hH : Holds w (hs ++ ([] ++ R)) w1 := hH
            obtain ⟨h, hr, hC, hR, rfl⟩ := hI
            unfold wpOp
            refine Or.inl ?_
            simp only [e3, e8]
            unfold Oper.wp
            go_simp
            exact OwnBy.mk _ _ _ rfl (Both.mk hC hR) (⟨rfl, rfl⟩) (hH)
        · intro Ls f Hf hs w1 hI hL hV hH
          have e0 : f 0 = .pointer (some ⟨g, 0, none⟩) := (hV 0 (by decide)).1
          have e1 : f 1 = .pointer (some ⟨xb, 1, none⟩) := (hV 1 (by decide)).1
          have e2 : f 2 = Value.agg (vC (⟨tt, nn, ss, bb⟩ : Ver)) := (hV 2 (by decide)).1
          have e3 : f 3 = .int .i64 (putM L (⟨tt, nn, ss, bb⟩ : Ver)).1 := (hV 3 (by decide)).1
          have e4 : f 4 = .pointer (some ⟨r, 0, none⟩) := (hV 4 (by decide)).1
          have e5 : f 5 = .pointer (some ⟨xb, 1, none⟩) := (hV 5 (by decide)).1
          have e6 : f 6 = Value.agg (vC (⟨tt, nn, ss, bb⟩ : Ver)) := (hV 6 (by decide)).1
          have e7 : f 7 = Value.agg (oC (⟨tt, nn, ss, bb⟩ : Ver)) := (hV 7 (by decide)).1
          have e8 : f 8 = .int .i64 (putM L (⟨tt, nn, ss, bb⟩ : Ver)).1 := (hV 8 (by decide)).1
          have e9 : f 9 = .bool false := (hV 9 (by decide)).1
          clear hV
          have hH : Holds w (hs ++ []) w1 := hH
          simp only [fill, List.take_succ_cons, List.take_zero, List.drop_succ_cons, List.drop_zero, Act.put, List.setIfInBounds_toArray, List.set_cons_zero, List.set_cons_succ, e0, e1, e2, e3, e4, e5, e6, e7, e8, e9]
          obtain ⟨h2, hr2, hC2, hR2, rfl⟩ := hI
          rw [hL 3 (by decide), if_pos rfl] at hC2
          rw [hL 8 (by decide), if_pos rfl] at hR2
          obtain ⟨M, hM⟩ : ∃ M, M = (putM L (⟨tt, nn, ss, bb⟩ : Ver)).2 := ⟨_, rfl⟩
          rw [← hM] at hC2 hR2
          have HC := Lib.hid hC2; have HR := Lib.hid hR2
          have HH := Lib.hid (show Holds w (h2 ++ (hr2 ++ ((xb, Obj.cells (aC pp tt nn ss bb) 55) :: ((kb, Obj.cells kz 47) :: (w.heap.size, .cells (sC a m) 24) :: [])))) w1 from by simpa using hH)
          clear hM hC2 hR2 hH hL e0 e1 e2 e3 e4 e5 e6 e7 e8 e9
          obtain ⟨hri, hl50⟩ := isC_rise HC.out
          have HRI := Lib.hid hri
          clear hri
          have HS0 := Lib.hid (show Holds w ((w.heap.size, .cells (sC a m) 24) :: (h2 ++ (hr2 ++ ((xb, Obj.cells (aC pp tt nn ss bb) 55) :: (kb, .cells kz 47) :: [])))) w1 from HH.out.perm (by classical rw [List.perm_iff_count]; intro a; simp only [List.count_append, List.count_cons, List.count_nil]; omega))
          have q0 : w1.cell? ⟨w.heap.size, 0, none⟩ = some (.int .i64 a) := HS0.out.cell 0
          have q1 : w1.cell? ⟨w.heap.size, 1, none⟩ = some (.int .u8 m) := HS0.out.cell 1
          have HA := Lib.hid (fun w' (F : Hp) (H : Holds w (h2 ++ F) w') => at_calls g M a m h2 F w w' HC.out H)
          have HRA := Lib.hid (fun w' (F : Hp) (H : Holds w (hr2 ++ F) w') => rat_calls r M a m hr2 F w w' HR.out H)
          have HN := Lib.hid (fun w' (F : Hp) (H : Holds w (h2 ++ F) w') => newest_calls g M h2 F w w' HC.out H)
          have HRN := Lib.hid (fun w' (F : Hp) (H : Holds w (hr2 ++ F) w') => rnewest_calls r M hr2 F w w' HR.out H)
          have HSI := Lib.hid (fun w' (F : Hp) (H : Holds w (h2 ++ F) w') => since_calls g M a m h2 F w w' HC.out H)
          have HUI := Lib.hid (fun (k : Nat) (x : Ver) (hk : M[k]? = some x) => until_iff (t := a) (n := m) HRI.out hk)
          have hU := until_le M a m
          obtain ⟨U, hUe⟩ : ∃ U, U = untilN M a m := ⟨_, rfl⟩
          rw [← hUe] at HSI HUI hU
          obtain ⟨y, hy⟩ : ∃ y, y = (verAt M a m).getD v0 := ⟨_, rfl⟩
          obtain ⟨p, hp⟩ : ∃ p, p = (verAt M a m).isSome := ⟨_, rfl⟩
          rw [← hy, ← hp] at HA HRA
          obtain ⟨z, hz⟩ : ∃ z, z = (newest M).getD v0 := ⟨_, rfl⟩
          obtain ⟨q, hq⟩ : ∃ q, q = (newest M).isSome := ⟨_, rfl⟩
          rw [← hz, ← hq] at HN HRN
          clear hUe hy hp hz hq HS0
          go_wp2_with fail
          refine (HA.out w1 _ HH.out).mono ?_
          rintro e u1 ⟨rfl, hb⟩
          have k1 := (HH.out.grow hb).alloc (.cells (vC v0) 30)
          have K1 := Lib.hid ((k1.turn (row_grown _ u1.heap.size (vC y)) (setRow_heap _ _ _ _ _ _ k1.get)).perm (k := h2 ++ (hr2 ++ ((u1.heap.size, .cells (vC y) 30) :: ((xb, Obj.cells (aC pp tt nn ss bb) 55) :: ((kb, Obj.cells kz 47) :: (w.heap.size, .cells (sC a m) 24) :: []))))) (by classical rw [List.perm_iff_count]; intro a; simp only [List.count_append, List.count_cons, List.count_nil]; omega))
          have g1 : (u1.alloc (.cells #[.int .i64 0, .int .u8 0, .string ⟨#[]⟩, .bool false] 30)).heap[u1.heap.size]? = some (.cells (vC v0) 30 (0, 0)) := k1.get
          have p0 : ((u1.alloc (.cells #[.int .i64 0, .int .u8 0, .string ⟨#[]⟩, .bool false] 30)).setRow u1.heap.size (vC y)).cell? ⟨w.heap.size, 0, none⟩ = some (.int .i64 a) := (K1.out.perm (k := (w.heap.size, .cells (sC a m) 24) :: (h2 ++ (hr2 ++ ((u1.heap.size, .cells (vC y) 30) :: (xb, Obj.cells (aC pp tt nn ss bb) 55) :: (kb, .cells kz 47) :: [])))) (by classical rw [List.perm_iff_count]; intro a; simp only [List.count_append, List.count_cons, List.count_nil]; omega)).cell 0
          have p1 : ((u1.alloc (.cells #[.int .i64 0, .int .u8 0, .string ⟨#[]⟩, .bool false] 30)).setRow u1.heap.size (vC y)).cell? ⟨w.heap.size, 1, none⟩ = some (.int .u8 m) := (K1.out.perm (k := (w.heap.size, .cells (sC a m) 24) :: (h2 ++ (hr2 ++ ((u1.heap.size, .cells (vC y) 30) :: (xb, Obj.cells (aC pp tt nn ss bb) 55) :: (kb, .cells kz 47) :: [])))) (by classical rw [List.perm_iff_count]; intro a; simp only [List.count_append, List.count_cons, List.count_nil]; omega)).cell 1
          have HK1 := Lib.hid (show ((u1.alloc (.cells #[.int .i64 0, .int .u8 0, .string ⟨#[]⟩, .bool false] 30)).setRow u1.heap.size (vC y)).rangeAt kb 0 kz.toList from range_own (K1.out.perm (k := (kb, .cells kz 47) :: (h2 ++ (hr2 ++ ((u1.heap.size, .cells (vC y) 30) :: (xb, Obj.cells (aC pp tt nn ss bb) 55) :: (w.heap.size, .cells (sC a m) 24) :: [])))) (by classical rw [List.perm_iff_count]; intro a; simp only [List.count_append, List.count_cons, List.count_nil]; omega)))
          clear hb k1 q0 q1
          go_wp2_with (first | (with_reducible refine stV (.tmp 10) (.tmp 72) u1.heap.size y v0 rfl rfl g1 ?_) | (with_reducible refine ldKm (.tmp 7) kb 0 rfl HK1.out ?_))
          refine (HRA.out _ _ (K1.out.perm (k := hr2 ++ (h2 ++ ((u1.heap.size, .cells (vC y) 30) :: ((xb, Obj.cells (aC pp tt nn ss bb) 55) :: ((kb, Obj.cells kz 47) :: (w.heap.size, .cells (sC a m) 24) :: []))))) (by classical rw [List.perm_iff_count]; intro a; simp only [List.count_append, List.count_cons, List.count_nil]; omega))).mono ?_
          rintro e u2 ⟨rfl, hb⟩
          have k2 := (K1.out.grow hb).alloc (.cells (oC v0) 49)
          have K2 := Lib.hid ((k2.turn (row_grown _ u2.heap.size (oC y)) (setRow_heap _ _ _ _ _ _ k2.get)).perm (k := h2 ++ (hr2 ++ ((u2.heap.size, .cells (oC y) 49) :: (u1.heap.size, .cells (vC y) 30) :: ((xb, Obj.cells (aC pp tt nn ss bb) 55) :: ((kb, Obj.cells kz 47) :: (w.heap.size, .cells (sC a m) 24) :: []))))) (by classical rw [List.perm_iff_count]; intro a; simp only [List.count_append, List.count_cons, List.count_nil]; omega))
          have g2 : (u2.alloc (.cells #[.int .u8 0, .int .u8 0, .int .u8 0, .int .u8 0, .int .u8 0, .int .u8 0, .int .u8 0, .int .u8 0, .int .u8 0, .int .u8 0, .int .u8 0, .int .u8 0, .int .u8 0, .int .u8 0, .int .u8 0, .int .u8 0, .int .i64 0, .int .u8 0, .string ⟨#[]⟩, .bool false] 49)).heap[u2.heap.size]? = some (.cells (oC v0) 49 (0, 0)) := k2.get
          clear hb k2 p0 p1 g1
          go_wp2_with (with_reducible refine stO (.tmp 12) (.tmp 79) u2.heap.size y v0 rfl rfl g2 ?_)
          refine (HN.out _ _ K2.out).mono ?_
          rintro e u3 ⟨rfl, hb⟩
          have k3 := (K2.out.grow hb).alloc (.cells (vC v0) 30)
          have K3 := Lib.hid ((k3.turn (row_grown _ u3.heap.size (vC z)) (setRow_heap _ _ _ _ _ _ k3.get)).perm (k := h2 ++ (hr2 ++ ((u3.heap.size, .cells (vC z) 30) :: (u2.heap.size, .cells (oC y) 49) :: (u1.heap.size, .cells (vC y) 30) :: ((xb, Obj.cells (aC pp tt nn ss bb) 55) :: ((kb, Obj.cells kz 47) :: (w.heap.size, .cells (sC a m) 24) :: []))))) (by classical rw [List.perm_iff_count]; intro a; simp only [List.count_append, List.count_cons, List.count_nil]; omega))
          have g3 : (u3.alloc (.cells #[.int .i64 0, .int .u8 0, .string ⟨#[]⟩, .bool false] 30)).heap[u3.heap.size]? = some (.cells (vC v0) 30 (0, 0)) := k3.get
          have HK3 := Lib.hid (show ((u3.alloc (.cells #[.int .i64 0, .int .u8 0, .string ⟨#[]⟩, .bool false] 30)).setRow u3.heap.size (vC z)).rangeAt kb 0 kz.toList from range_own (K3.out.perm (k := (kb, .cells kz 47) :: (h2 ++ (hr2 ++ ((u3.heap.size, .cells (vC z) 30) :: (u2.heap.size, .cells (oC y) 49) :: (u1.heap.size, .cells (vC y) 30) :: (xb, Obj.cells (aC pp tt nn ss bb) 55) :: (w.heap.size, .cells (sC a m) 24) :: [])))) (by classical rw [List.perm_iff_count]; intro a; simp only [List.count_append, List.count_cons, List.count_nil]; omega)))
          clear hb k3 g2
          go_wp2_with (first | (with_reducible refine stV (.tmp 14) (.tmp 84) u3.heap.size z v0 rfl rfl g3 ?_) | (with_reducible refine ldKm (.tmp 7) kb 0 rfl HK3.out ?_))
          refine (HRN.out _ _ (K3.out.perm (k := hr2 ++ (h2 ++ ((u3.heap.size, .cells (vC z) 30) :: (u2.heap.size, .cells (oC y) 49) :: (u1.heap.size, .cells (vC y) 30) :: ((xb, Obj.cells (aC pp tt nn ss bb) 55) :: ((kb, Obj.cells kz 47) :: (w.heap.size, .cells (sC a m) 24) :: []))))) (by classical rw [List.perm_iff_count]; intro a; simp only [List.count_append, List.count_cons, List.count_nil]; omega))).mono ?_
          rintro e u4 ⟨rfl, hb⟩
          have k4 := (K3.out.grow hb).alloc (.cells (sC 0 0) 24)
          have K4 := Lib.hid ((k4.turn (row_grown _ u4.heap.size (sC z.t z.n)) (setRow_heap _ _ _ _ _ _ k4.get)).perm (k := h2 ++ (hr2 ++ ((u4.heap.size, Obj.cells (sC z.t z.n) 24) :: (u3.heap.size, .cells (vC z) 30) :: (u2.heap.size, .cells (oC y) 49) :: (u1.heap.size, .cells (vC y) 30) :: ((xb, Obj.cells (aC pp tt nn ss bb) 55) :: ((kb, Obj.cells kz 47) :: (w.heap.size, .cells (sC a m) 24) :: []))))) (by classical rw [List.perm_iff_count]; intro a; simp only [List.count_append, List.count_cons, List.count_nil]; omega))
          have g4 : (u4.alloc (.cells #[.int .i64 0, .int .u8 0] 24)).heap[u4.heap.size]? = some (.cells (sC 0 0) 24 (0, 0)) := k4.get
          clear hb k4 g3
          go_wp2_with (with_reducible refine stS (.tmp 16) (.tmp 90) u4.heap.size z.t z.n 0 0 rfl rfl g4 ?_)
          obtain ⟨AR, bR, cR, eR, hrows⟩ := isR_rows HR.out
          have HROWS := Lib.hid (fun w1 (F : Hp) (H : Holds w (hr2 ++ F) w1) => hrows w w1 F H)
          have hrd := fun w' (hb : Below ((u4.alloc (.cells #[.int .i64 0, .int .u8 0] 24)).setRow u4.heap.size (sC z.t z.n)).heap.size _ w') => hrows w w' (h2 ++ ((u4.heap.size, Obj.cells (sC z.t z.n) 24) :: (u3.heap.size, .cells (vC z) 30) :: (u2.heap.size, .cells (oC y) 49) :: (u1.heap.size, .cells (vC y) 30) :: ((xb, Obj.cells (aC pp tt nn ss bb) 55) :: ((kb, Obj.cells kz 47) :: (w.heap.size, .cells (sC a m) 24) :: [])))) ((K4.out.perm (k := hr2 ++ (h2 ++ ((u4.heap.size, Obj.cells (sC z.t z.n) 24) :: (u3.heap.size, .cells (vC z) 30) :: (u2.heap.size, .cells (oC y) 49) :: (u1.heap.size, .cells (vC y) 30) :: ((xb, Obj.cells (aC pp tt nn ss bb) 55) :: ((kb, Obj.cells kz 47) :: (w.heap.size, .cells (sC a m) 24) :: []))))) (by classical rw [List.perm_iff_count]; intro a; simp only [List.count_append, List.count_cons, List.count_nil]; omega)).grow hb)
          clear hrows
          -- (F := h2 ++ ((u4.heap.size, Obj.cells (sC z.t z.n) 24) :: (u3.heap.size, .cells (vC z) 30) :: (u2.heap.size, .cells (oC y) 49) :: (u1.heap.size, .cells (vC y) 30) :: ((xb, Obj.cells (aC pp tt nn ss bb) 55) :: ((kb, Obj.cells kz 47) :: (w.heap.size, .cells (sC a m) 24) :: [])))) HR.out (K4.out.perm (by classical rw [List.perm_iff_count]; intro a; simp only [List.count_append, List.count_cons, List.count_nil]; omega))
          obtain ⟨W4, hW4⟩ : ∃ W4, W4 = (u4.alloc (.cells #[.int .i64 0, .int .u8 0] 24)).setRow u4.heap.size (sC z.t z.n) := ⟨_, rfl⟩
          have hk4 : Holds w (h2 ++ (hr2 ++ ((u4.heap.size, Obj.cells (sC z.t z.n) 24) :: (u3.heap.size, .cells (vC z) 30) :: (u2.heap.size, .cells (oC y) 49) :: (u1.heap.size, .cells (vC y) 30) :: ((xb, Obj.cells (aC pp tt nn ss bb) 55) :: ((kb, Obj.cells kz 47) :: (w.heap.size, .cells (sC a m) 24) :: []))))) W4 := by rw [hW4]; exact K4.out
          have HRD := Lib.hid (show ∀ w', Below W4.heap.size W4 w' → w'.cell? ⟨r, 0, none⟩ = some (.slice AR M.length cR) ∧ Ro bR M w' by rw [hW4]; exact hrd)
          have K5 := Lib.hid hk4
          have HW4 := Lib.hid hW4
          clear hk4 hrd hW4 K4
          rw [← HW4.out]
          go_loopw [18, 19] (fun c j wr2 => ∃ k2 : Nat, k2 ≤ M.length ∧ j = .int .i64 k2 ∧ c = .int .i64 ((k2 - U : Nat) : Int) ∧ Below W4.heap.size W4 wr2) (fun _ j _ => M.length - (intOf j).toNat)
          case atStart => exact ⟨0, by omega, rfl, by simp, Below.refl _ _⟩
          case round =>
            obtain ⟨k2, hk2, rfl, rfl, hB⟩ := hrel
            have c0 := (HRD.out _ hB).1
            have HB2 := Lib.hid hB
            clear hB
            by_cases hk2l : k2 < M.length
            · obtain ⟨x, hx⟩ : ∃ x, M[k2]? = some x := ⟨_, List.getElem?_eq_getElem hk2l⟩
              have hui := HUI.out k2 x hx
              obtain rfl := eR (by omega)
              have HCC := Lib.hid (fun w' (hb : Below wr.heap.size wr w') => (HRD.out w' (HB2.out.trans (hb.mono HB2.out.size))).1)
              have HOO := Lib.hid (fun w' (hb : Below wr.heap.size wr w') => show w'.rangeAt bR (k2 * 20) (oC x).toList from (HRD.out w' (HB2.out.trans (hb.mono HB2.out.size))).2.at_ hx)
              have HSS := Lib.hid (fun w' (hb : Below wr.heap.size wr w') => by
                have h := (K5.out.grow (HB2.out.trans (hb.mono HB2.out.size))).perm (k := (w.heap.size, .cells (sC a m) 24) :: (h2 ++ (hr2 ++ ((u4.heap.size, Obj.cells (sC z.t z.n) 24) :: (u3.heap.size, .cells (vC z) 30) :: (u2.heap.size, .cells (oC y) 49) :: (u1.heap.size, .cells (vC y) 30) :: (xb, Obj.cells (aC pp tt nn ss bb) 55) :: (kb, .cells kz 47) :: [])))) (by classical rw [List.perm_iff_count]; intro a; simp only [List.count_append, List.count_cons, List.count_nil]; omega)
                exact (⟨h.cell 0, h.cell 1⟩ : w'.cell? ⟨w.heap.size, 0, none⟩ = some (.int .i64 a) ∧ w'.cell? ⟨w.heap.size, 1, none⟩ = some (.int .u8 m)))
              have hki : (k2 : Int) < (M.length : Int) := by omega
              clear hx
              by_cases hle : cs x.t x.n a m ≤ 0
              · have hkU : k2 < U := hui.mp hle
                have hgt : ¬ 0 < cs x.t x.n a m := by omega
                clear hui
                go_wp2_with fail
                refine region_quiet_lit (C := fun w' => Below wr.heap.size wr w') (by kernel_rfl) (by kernel_rfl) (Below.refl _ _).drew ?_
                go_big_quiet_step (exact fun _ => rfl)
                go_big_quiet_step (exact fun _ => rfl)
                go_big_quiet_step (exact fun _ => rfl)
                refine BigFrame.wpQuiet_want rfl (fun K hK => ?_)
                refine quiet_val (.slice (some ⟨bR, 0, none⟩) M.length cR) (fun w2 hw => by have q := HCC.out w2 hw; simp [go_sem, q]) (hK _ ?_)
                clear hK K
                simp only [Act.put, List.setIfInBounds_toArray, List.set_cons_zero, List.set_cons_succ]
                go_big_quiet_step (exact fun _ => rfl)
                go_big_quiet_step (exact fun _ => rfl)
                go_big_quiet_step (exact fun _ => rfl)
                refine BigFrame.wpQuiet_want rfl (fun K hK => ?_)
                refine quiet_val (.agg (sC x.t x.n)) (fun w2 hw => by obtain ⟨q0, q1, _, _⟩ := stamp_of (HOO.out w2 hw); simp [go_sem, q0, q1, sC]) (hK _ ?_)
                clear hK K
                simp only [Act.put, List.setIfInBounds_toArray, List.set_cons_zero, List.set_cons_succ]
                refine BigFrame.wpQuiet_want rfl (fun K hK => ?_)
                refine quiet_val (.agg (sC a m)) (fun w2 hw => by obtain ⟨q0, q1⟩ := HSS.out w2 hw; simp [go_sem, q0, q1, sC]) (hK _ ?_)
                clear hK K
                simp only [Act.put, List.setIfInBounds_toArray, List.set_cons_zero, List.set_cons_succ]
                refine BigFrame.wpQuiet_want rfl (fun K hK => ?_)
                refine quiet_call 9 #[.agg (sC x.t x.n), .agg (sC a m)] (.int .i64 (cs x.t x.n a m)) (fun w2 => by simp [go_sem]) (fun w2 hw => (rcmp_calls x.t x.n a m w2).mono fun e w3 hh => ⟨hh.1, hw.trans (hh.2.mono hw.size)⟩) (hK _ ?_)
                clear hK K
                simp only [Act.put, List.setIfInBounds_toArray, List.set_cons_zero, List.set_cons_succ]
                go_big_quiet_step (exact fun _ => rfl)
                refine wpQuiet_nil ?_
                intro w4 hw4
                have HB3 := Lib.hid (HB2.out.trans (hw4.mono HB2.out.size))
                clear hw4
                go_wp2_with fail
                go_roundw
                case rel => exact ⟨k2 + 1, by omega, by go_num, by rw [show k2 + 1 - U = k2 - U by omega], HB3.out⟩
                case measure => simp [intOf] <;> omega
              · have hkU : ¬ k2 < U := fun h => hle (hui.mpr h)
                have hgt : 0 < cs x.t x.n a m := by omega
                clear hui
                go_wp2_with fail
                refine region_quiet_lit (C := fun w' => Below wr.heap.size wr w') (by kernel_rfl) (by kernel_rfl) (Below.refl _ _).drew ?_
                go_big_quiet_step (exact fun _ => rfl)
                go_big_quiet_step (exact fun _ => rfl)
                go_big_quiet_step (exact fun _ => rfl)
                refine BigFrame.wpQuiet_want rfl (fun K hK => ?_)
                refine quiet_val (.slice (some ⟨bR, 0, none⟩) M.length cR) (fun w2 hw => by have q := HCC.out w2 hw; simp [go_sem, q]) (hK _ ?_)
                clear hK K
                simp only [Act.put, List.setIfInBounds_toArray, List.set_cons_zero, List.set_cons_succ]
                go_big_quiet_step (exact fun _ => rfl)
                go_big_quiet_step (exact fun _ => rfl)
                go_big_quiet_step (exact fun _ => rfl)
                refine BigFrame.wpQuiet_want rfl (fun K hK => ?_)
                refine quiet_val (.agg (sC x.t x.n)) (fun w2 hw => by obtain ⟨q0, q1, _, _⟩ := stamp_of (HOO.out w2 hw); simp [go_sem, q0, q1, sC]) (hK _ ?_)
                clear hK K
                simp only [Act.put, List.setIfInBounds_toArray, List.set_cons_zero, List.set_cons_succ]
                refine BigFrame.wpQuiet_want rfl (fun K hK => ?_)
                refine quiet_val (.agg (sC a m)) (fun w2 hw => by obtain ⟨q0, q1⟩ := HSS.out w2 hw; simp [go_sem, q0, q1, sC]) (hK _ ?_)
                clear hK K
                simp only [Act.put, List.setIfInBounds_toArray, List.set_cons_zero, List.set_cons_succ]
                refine BigFrame.wpQuiet_want rfl (fun K hK => ?_)
                refine quiet_call 9 #[.agg (sC x.t x.n), .agg (sC a m)] (.int .i64 (cs x.t x.n a m)) (fun w2 => by simp [go_sem]) (fun w2 hw => (rcmp_calls x.t x.n a m w2).mono fun e w3 hh => ⟨hh.1, hw.trans (hh.2.mono hw.size)⟩) (hK _ ?_)
                clear hK K
                simp only [Act.put, List.setIfInBounds_toArray, List.set_cons_zero, List.set_cons_succ]
                go_big_quiet_step (exact fun _ => rfl)
                refine wpQuiet_nil ?_
                intro w4 hw4
                have HB3 := Lib.hid (HB2.out.trans (hw4.mono HB2.out.size))
                clear hw4
                go_wp2_with fail
                go_roundw
                case rel => exact ⟨k2 + 1, by omega, by go_num, by go_num, HB3.out⟩
                case measure => simp [intOf] <;> omega
            · obtain rfl : k2 = M.length := by omega
              have hsi : ((M.length - U : Nat) : Int) = (M.length : Int) - (U : Int) := by omega
              rw [hsi]
              have K6 := Lib.hid (K5.out.grow HB2.out)
              clear hsi
              go_wp2_with fail
              have HRH := Lib.hid (fun w1 (F : Hp) (H : Holds w (hr2 ++ F) w1) => HROWS.out w1 F H)
              refine wp_region_own 47 (fun k => match k with | 40 => [39] | 41 => [40] | 42 => [41] | 44 => [42] | _ => []) (by kernel_rfl) (by kernel_rfl) (by kernel_rfl) (by kernel_rfl) (Nat.le_of_ble_eq_true (by kernel_rfl)) w (fun Ls hs => hs = (h2 ++ (hr2 ++ ((u4.heap.size, Obj.cells (sC z.t z.n) 24) :: (u3.heap.size, .cells (vC z) 30) :: (u2.heap.size, .cells (oC y) 49) :: (u1.heap.size, .cells (vC y) 30) :: ((xb, Obj.cells (aC pp tt nn ss bb) 55) :: ((kb, Obj.cells kz 47) :: (w.heap.size, .cells (sC a m) 24) :: [])))))) (fun i v h => match i with | 0 => v = .bool p ∧ h = [] | 1 => v = .bool p ∧ h = [] | 2 => v = .bool false ∧ h = [] | 3 => v = .bool false ∧ h = [] | 4 => v = Value.agg (vC y) ∧ h = [] | 5 => v = Value.agg (oC y) ∧ h = [] | 6 => v = Value.agg (oC y) ∧ h = [] | 7 => v = .bool false ∧ h = [] | 8 => v = .bool false ∧ h = [] | 9 => v = .bool false ∧ h = [] | 10 => v = .bool q ∧ h = [] | 11 => v = .bool q ∧ h = [] | 12 => v = .bool false ∧ h = [] | 13 => v = .bool false ∧ h = [] | 14 => v = .bool false ∧ h = [] | 15 => v = .pointer (some ⟨u3.heap.size, 0, none⟩) ∧ h = [] | 16 => v = Value.agg (sC z.t z.n) ∧ h = [] | 17 => v = Value.agg (sC z.t z.n) ∧ h = [] | 18 => v = .bool false ∧ h = [] | 19 => v = .bool false ∧ h = [] | 20 => v = .bool false ∧ h = [] | 21 => v = .pointer (some ⟨g, 0, none⟩) ∧ h = [] | 22 => v = Value.agg (sC a m) ∧ h = [] | 23 => v = .int .i64 ((M.length : Int) - (U : Int)) ∧ h = [] | 24 => v = .int .i64 ((M.length : Int) - (U : Int)) ∧ h = [] | 25 => v = .bool false ∧ h = [] | 26 => v = .bool false ∧ h = [] | 27 => v = .bool false ∧ h = [] | 28 => v = .pointer (some ⟨g, 0, none⟩) ∧ h = [] | 29 => v = .int .i64 M.length ∧ h = [] | 30 => v = .pointer (some ⟨r, 0, none⟩) ∧ h = [] | 31 => v = .pointer (some ⟨r, 0, none⟩) ∧ h = [] | 32 => v = .pointer (some ⟨r, 0, none⟩) ∧ h = [] | 33 => v = .slice AR M.length cR ∧ h = [] | 34 => v = .int .i64 M.length ∧ h = [] | 35 => v = .bool false ∧ h = [] | 36 => v = .bool false ∧ h = [] | 37 => v = .bool false ∧ h = [] | 38 => v = .pointer (some ⟨g, 0, none⟩) ∧ h = [] | 39 => RowB 30 4 v M.length (verV M) h | 40 => RowB 49 20 v M.length (oV M) h | 41 => ∃ u, v = .agg #[u] ∧ RowB 49 20 u M.length (oV M) h | 42 => BoxR M v h | 43 => v = .pointer (some ⟨r, 0, none⟩) ∧ h = [] | 44 => v = .bool true ∧ h = [] | 45 => v = .bool false ∧ h = [] | 46 => v = .bool false ∧ h = [] | _ => True) ((h2 ++ (hr2 ++ ((u4.heap.size, Obj.cells (sC z.t z.n) 24) :: (u3.heap.size, .cells (vC z) 30) :: (u2.heap.size, .cells (oC y) 49) :: (u1.heap.size, .cells (vC y) 30) :: ((xb, Obj.cells (aC pp tt nn ss bb) 55) :: ((kb, Obj.cells kz 47) :: (w.heap.size, .cells (sC a m) 24) :: [])))))) (rfl) (K6.out.drew) ?_ ?_
              · intro i o hi ho Ls f Hf hs R w1 hI hL hd hH
                simp only [fill, List.take_succ_cons, List.take_zero, Act.put, List.setIfInBounds_toArray, List.set_cons_zero, List.set_cons_succ]
                match i, hi with
                | 0, _ =>
                  obtain rfl := Option.some.inj ho
                  clear hd ho
                  have hH : Holds w (hs ++ ([] ++ R)) w1 := hH
                  subst hI
                  unfold wpOp
                  refine Or.inl ?_
                  unfold Oper.wp
                  go_simp
                  exact OwnBy.mk _ _ _ rfl (rfl) (⟨rfl, rfl⟩) (hH)
                | 1, _ =>
                  obtain rfl := Option.some.inj ho
                  clear hd ho
                  have hH : Holds w (hs ++ ([] ++ R)) w1 := hH
                  subst hI
                  unfold wpOp
                  refine Or.inl ?_
                  unfold Oper.wp
                  go_simp
                  exact OwnBy.mk _ _ _ rfl (rfl) (⟨rfl, rfl⟩) (hH)
                | 2, _ =>
                  obtain rfl := Option.some.inj ho
                  have e0 : f 0 = .bool p := (hd ⟨0, .data⟩ (by simp) rfl).2.1
                  have e1 : f 1 = .bool p := (hd ⟨1, .data⟩ (by simp) rfl).2.1
                  clear hd ho
                  have hH : Holds w (hs ++ ([] ++ R)) w1 := hH
                  subst hI
                  unfold wpOp
                  refine Or.inl ?_
                  simp only [e0, e1]
                  unfold Oper.wp
                  go_simp
                  exact OwnBy.mk _ _ _ rfl (rfl) (⟨rfl, rfl⟩) (hH)
                | 3, _ =>
                  obtain rfl := Option.some.inj ho
                  have e2 : f 2 = .bool false := (hd ⟨2, .data⟩ (by simp) rfl).2.1
                  clear hd ho
                  have hH : Holds w (hs ++ ([] ++ R)) w1 := hH
                  subst hI
                  unfold wpOp
                  refine Or.inl ?_
                  simp only [e2]
                  unfold Oper.wp
                  go_simp
                  exact OwnBy.mk _ _ _ rfl (rfl) (⟨rfl, rfl⟩) (hH)
                | 4, _ =>
                  obtain rfl := Option.some.inj ho
                  have e3 : f 3 = .bool false := (hd ⟨3, .guard⟩ (by simp) rfl).2.1
                  clear hd ho
                  have hH : Holds w (hs ++ ([] ++ R)) w1 := hH
                  subst hI
                  unfold wpOp
                  simp only [e3]
                  refine Or.inl ?_
                  unfold Oper.wp
                  have hX : Holds w ((u1.heap.size, Obj.cells (vC y) 30) :: (h2 ++ (hr2 ++ ((u4.heap.size, Obj.cells (sC z.t z.n) 24) :: (u3.heap.size, Obj.cells (vC z) 30) :: (u2.heap.size, Obj.cells (oC y) 49) :: (xb, Obj.cells (aC pp tt nn ss bb) 55) :: (kb, Obj.cells kz 47) :: (w.heap.size, Obj.cells (sC a m) 24) :: [])) ++ R)) w1 := hH.perm (by classical rw [List.perm_iff_count]; intro a; simp only [List.count_append, List.count_cons, List.count_nil]; omega)
                  refine wpL (.tmp 10) u1.heap.size rfl rfl hX.get (ldVr hX.get) ?_
                  exact OwnBy.mk _ _ _ rfl (rfl) (⟨rfl, rfl⟩) (hH)
                | 5, _ =>
                  obtain rfl := Option.some.inj ho
                  have e4 : f 4 = Value.agg (vC y) := (hd ⟨4, .data⟩ (by simp) rfl).2.1
                  have e3 : f 3 = .bool false := (hd ⟨3, .guard⟩ (by simp) rfl).2.1
                  clear hd ho
                  have hH : Holds w (hs ++ ([] ++ R)) w1 := hH
                  subst hI
                  unfold wpOp
                  simp only [e4, e3]
                  refine Or.inl ?_
                  unfold Oper.wp
                  go_simp
                  refine (one_calls y w1).mono ?_
                  rintro e w3 ⟨rfl, hb⟩
                  exact OwnBy.mk _ _ _ rfl (rfl) (⟨rfl, rfl⟩) (hH.grow hb)
                | 6, _ =>
                  obtain rfl := Option.some.inj ho
                  have e3 : f 3 = .bool false := (hd ⟨3, .guard⟩ (by simp) rfl).2.1
                  clear hd ho
                  have hH : Holds w (hs ++ ([] ++ R)) w1 := hH
                  subst hI
                  unfold wpOp
                  simp only [e3]
                  refine Or.inl ?_
                  unfold Oper.wp
                  have hX : Holds w ((u2.heap.size, Obj.cells (oC y) 49) :: (h2 ++ (hr2 ++ ((u4.heap.size, Obj.cells (sC z.t z.n) 24) :: (u3.heap.size, Obj.cells (vC z) 30) :: (u1.heap.size, Obj.cells (vC y) 30) :: (xb, Obj.cells (aC pp tt nn ss bb) 55) :: (kb, Obj.cells kz 47) :: (w.heap.size, Obj.cells (sC a m) 24) :: [])) ++ R)) w1 := hH.perm (by classical rw [List.perm_iff_count]; intro a; simp only [List.count_append, List.count_cons, List.count_nil]; omega)
                  refine wpL (.tmp 12) u2.heap.size rfl rfl hX.get (ldOr hX.get) ?_
                  exact OwnBy.mk _ _ _ rfl (rfl) (⟨rfl, rfl⟩) (hH)
                | 7, _ =>
                  obtain rfl := Option.some.inj ho
                  have e5 : f 5 = Value.agg (oC y) := (hd ⟨5, .data⟩ (by simp) rfl).2.1
                  have e6 : f 6 = Value.agg (oC y) := (hd ⟨6, .data⟩ (by simp) rfl).2.1
                  have e3 : f 3 = .bool false := (hd ⟨3, .guard⟩ (by simp) rfl).2.1
                  clear hd ho
                  have hH : Holds w (hs ++ ([] ++ R)) w1 := hH
                  subst hI
                  unfold wpOp
                  simp only [e5, e6, e3]
                  refine Or.inl ?_
                  unfold Oper.wp
                  refine wpV (.bool false) (ne49 y w1 _ (.tmp 119) (.tmp 120) rfl rfl rfl) ?_
                  exact OwnBy.mk _ _ _ rfl (rfl) (⟨rfl, rfl⟩) (hH)
                | 8, _ =>
                  obtain rfl := Option.some.inj ho
                  have e3 : f 3 = .bool false := (hd ⟨3, .data⟩ (by simp) rfl).2.1
                  have e7 : f 7 = .bool false := (hd ⟨7, .data⟩ (by simp) rfl).2.1
                  clear hd ho
                  have hH : Holds w (hs ++ ([] ++ R)) w1 := hH
                  subst hI
                  unfold wpOp
                  refine Or.inl ?_
                  simp only [e3, e7]
                  unfold Oper.wp
                  go_simp
                  exact OwnBy.mk _ _ _ rfl (rfl) (⟨rfl, rfl⟩) (hH)
                | 9, _ =>
                  obtain rfl := Option.some.inj ho
                  have e8 : f 8 = .bool false := (hd ⟨8, .data⟩ (by simp) rfl).2.1
                  clear hd ho
                  have hH : Holds w (hs ++ ([] ++ R)) w1 := hH
                  subst hI
                  unfold wpOp
                  refine Or.inl ?_
                  simp only [e8]
                  unfold Oper.wp
                  go_simp
                  exact OwnBy.mk _ _ _ rfl (rfl) (⟨rfl, rfl⟩) (hH)
                | 10, _ =>
                  obtain rfl := Option.some.inj ho
                  have e9 : f 9 = .bool false := (hd ⟨9, .guard⟩ (by simp) rfl).2.1
                  clear hd ho
                  have hH : Holds w (hs ++ ([] ++ R)) w1 := hH
                  subst hI
                  unfold wpOp
                  simp only [e9]
                  refine Or.inl ?_
                  unfold Oper.wp
                  go_simp
                  exact OwnBy.mk _ _ _ rfl (rfl) (⟨rfl, rfl⟩) (hH)
                | 11, _ =>
                  obtain rfl := Option.some.inj ho
                  have e9 : f 9 = .bool false := (hd ⟨9, .guard⟩ (by simp) rfl).2.1
                  clear hd ho
                  have hH : Holds w (hs ++ ([] ++ R)) w1 := hH
                  subst hI
                  unfold wpOp
                  simp only [e9]
                  refine Or.inl ?_
                  unfold Oper.wp
                  go_simp
                  exact OwnBy.mk _ _ _ rfl (rfl) (⟨rfl, rfl⟩) (hH)
                | 12, _ =>
                  obtain rfl := Option.some.inj ho
                  have e10 : f 10 = .bool q := (hd ⟨10, .data⟩ (by simp) rfl).2.1
                  have e11 : f 11 = .bool q := (hd ⟨11, .data⟩ (by simp) rfl).2.1
                  have e9 : f 9 = .bool false := (hd ⟨9, .guard⟩ (by simp) rfl).2.1
                  clear hd ho
                  have hH : Holds w (hs ++ ([] ++ R)) w1 := hH
                  subst hI
                  unfold wpOp
                  simp only [e10, e11, e9]
                  refine Or.inl ?_
                  unfold Oper.wp
                  go_simp
                  exact OwnBy.mk _ _ _ rfl (rfl) (⟨rfl, rfl⟩) (hH)
                | 13, _ =>
                  obtain rfl := Option.some.inj ho
                  have e9 : f 9 = .bool false := (hd ⟨9, .data⟩ (by simp) rfl).2.1
                  have e12 : f 12 = .bool false := (hd ⟨12, .data⟩ (by simp) rfl).2.1
                  clear hd ho
                  have hH : Holds w (hs ++ ([] ++ R)) w1 := hH
                  subst hI
                  unfold wpOp
                  refine Or.inl ?_
                  simp only [e9, e12]
                  unfold Oper.wp
                  go_simp
                  exact OwnBy.mk _ _ _ rfl (rfl) (⟨rfl, rfl⟩) (hH)
                | 14, _ =>
                  obtain rfl := Option.some.inj ho
                  have e13 : f 13 = .bool false := (hd ⟨13, .data⟩ (by simp) rfl).2.1
                  clear hd ho
                  have hH : Holds w (hs ++ ([] ++ R)) w1 := hH
                  subst hI
                  unfold wpOp
                  refine Or.inl ?_
                  simp only [e13]
                  unfold Oper.wp
                  go_simp
                  exact OwnBy.mk _ _ _ rfl (rfl) (⟨rfl, rfl⟩) (hH)
                | 15, _ =>
                  obtain rfl := Option.some.inj ho
                  have e14 : f 14 = .bool false := (hd ⟨14, .guard⟩ (by simp) rfl).2.1
                  clear hd ho
                  have hH : Holds w (hs ++ ([] ++ R)) w1 := hH
                  subst hI
                  unfold wpOp
                  simp only [e14]
                  refine Or.inl ?_
                  unfold Oper.wp
                  go_simp
                  exact OwnBy.mk _ _ _ rfl (rfl) (⟨rfl, rfl⟩) (hH)
                | 16, _ =>
                  obtain rfl := Option.some.inj ho
                  have e15 : f 15 = .pointer (some ⟨u3.heap.size, 0, none⟩) := (hd ⟨15, .data⟩ (by simp) rfl).2.1
                  have e14 : f 14 = .bool false := (hd ⟨14, .guard⟩ (by simp) rfl).2.1
                  clear hd ho
                  have hH : Holds w (hs ++ ([] ++ R)) w1 := hH
                  subst hI
                  unfold wpOp
                  simp only [e15, e14]
                  refine Or.inl ?_
                  unfold Oper.wp
                  have hX : Holds w ((u3.heap.size, Obj.cells (vC z) 30) :: (h2 ++ (hr2 ++ ((u4.heap.size, Obj.cells (sC z.t z.n) 24) :: (u2.heap.size, Obj.cells (oC y) 49) :: (u1.heap.size, Obj.cells (vC y) 30) :: (xb, Obj.cells (aC pp tt nn ss bb) 55) :: (kb, Obj.cells kz 47) :: (w.heap.size, Obj.cells (sC a m) 24) :: [])) ++ R)) w1 := hH.perm (by classical rw [List.perm_iff_count]; intro a; simp only [List.count_append, List.count_cons, List.count_nil]; omega)
                  have q0 : w1.cell? ⟨u3.heap.size, 0, none⟩ = some (.int .i64 z.t) := hX.cell 0
                  have q1 : w1.cell? ⟨u3.heap.size, 1, none⟩ = some (.int .u8 z.n) := hX.cell 1
                  go_simp
                  exact OwnBy.mk _ _ _ rfl (rfl) (⟨rfl, rfl⟩) (hH)
                | 17, _ =>
                  obtain rfl := Option.some.inj ho
                  have e14 : f 14 = .bool false := (hd ⟨14, .guard⟩ (by simp) rfl).2.1
                  clear hd ho
                  have hH : Holds w (hs ++ ([] ++ R)) w1 := hH
                  subst hI
                  unfold wpOp
                  simp only [e14]
                  refine Or.inl ?_
                  unfold Oper.wp
                  have hX : Holds w ((u4.heap.size, Obj.cells (sC z.t z.n) 24) :: (h2 ++ (hr2 ++ ((u3.heap.size, Obj.cells (vC z) 30) :: (u2.heap.size, Obj.cells (oC y) 49) :: (u1.heap.size, Obj.cells (vC y) 30) :: (xb, Obj.cells (aC pp tt nn ss bb) 55) :: (kb, Obj.cells kz 47) :: (w.heap.size, Obj.cells (sC a m) 24) :: [])) ++ R)) w1 := hH.perm (by classical rw [List.perm_iff_count]; intro a; simp only [List.count_append, List.count_cons, List.count_nil]; omega)
                  refine wpL (.tmp 16) u4.heap.size rfl rfl hX.get (ldSr hX.get) ?_
                  exact OwnBy.mk _ _ _ rfl (rfl) (⟨rfl, rfl⟩) (hH)
                | 18, _ =>
                  obtain rfl := Option.some.inj ho
                  have e16 : f 16 = Value.agg (sC z.t z.n) := (hd ⟨16, .data⟩ (by simp) rfl).2.1
                  have e17 : f 17 = Value.agg (sC z.t z.n) := (hd ⟨17, .data⟩ (by simp) rfl).2.1
                  have e14 : f 14 = .bool false := (hd ⟨14, .guard⟩ (by simp) rfl).2.1
                  clear hd ho
                  have hH : Holds w (hs ++ ([] ++ R)) w1 := hH
                  subst hI
                  unfold wpOp
                  simp only [e16, e17, e14]
                  refine Or.inl ?_
                  unfold Oper.wp
                  refine wpV (.bool false) (ne24 z.t z.n w1 _ (.tmp 130) (.tmp 131) rfl rfl rfl) ?_
                  exact OwnBy.mk _ _ _ rfl (rfl) (⟨rfl, rfl⟩) (hH)
                | 19, _ =>
                  obtain rfl := Option.some.inj ho
                  have e14 : f 14 = .bool false := (hd ⟨14, .data⟩ (by simp) rfl).2.1
                  have e18 : f 18 = .bool false := (hd ⟨18, .data⟩ (by simp) rfl).2.1
                  clear hd ho
                  have hH : Holds w (hs ++ ([] ++ R)) w1 := hH
                  subst hI
                  unfold wpOp
                  refine Or.inl ?_
                  simp only [e14, e18]
                  unfold Oper.wp
                  go_simp
                  exact OwnBy.mk _ _ _ rfl (rfl) (⟨rfl, rfl⟩) (hH)
                | 20, _ =>
                  obtain rfl := Option.some.inj ho
                  have e19 : f 19 = .bool false := (hd ⟨19, .data⟩ (by simp) rfl).2.1
                  clear hd ho
                  have hH : Holds w (hs ++ ([] ++ R)) w1 := hH
                  subst hI
                  unfold wpOp
                  refine Or.inl ?_
                  simp only [e19]
                  unfold Oper.wp
                  go_simp
                  exact OwnBy.mk _ _ _ rfl (rfl) (⟨rfl, rfl⟩) (hH)
                | 21, _ =>
                  obtain rfl := Option.some.inj ho
                  have e20 : f 20 = .bool false := (hd ⟨20, .guard⟩ (by simp) rfl).2.1
                  clear hd ho
                  have hH : Holds w (hs ++ ([] ++ R)) w1 := hH
                  subst hI
                  unfold wpOp
                  simp only [e20]
                  refine Or.inl ?_
                  unfold Oper.wp
                  go_simp
                  exact OwnBy.mk _ _ _ rfl (rfl) (⟨rfl, rfl⟩) (hH)
                | 22, _ =>
                  obtain rfl := Option.some.inj ho
                  have e20 : f 20 = .bool false := (hd ⟨20, .guard⟩ (by simp) rfl).2.1
                  clear hd ho
                  have hH : Holds w (hs ++ ([] ++ R)) w1 := hH
                  subst hI
                  unfold wpOp
                  simp only [e20]
                  refine Or.inl ?_
                  unfold Oper.wp
                  have hX : Holds w ((w.heap.size, Obj.cells (sC a m) 24) :: (h2 ++ (hr2 ++ ((u4.heap.size, Obj.cells (sC z.t z.n) 24) :: (u3.heap.size, Obj.cells (vC z) 30) :: (u2.heap.size, Obj.cells (oC y) 49) :: (u1.heap.size, Obj.cells (vC y) 30) :: (xb, Obj.cells (aC pp tt nn ss bb) 55) :: (kb, Obj.cells kz 47) :: [])) ++ R)) w1 := hH.perm (by classical rw [List.perm_iff_count]; intro a; simp only [List.count_append, List.count_cons, List.count_nil]; omega)
                  refine wpL (.tmp 3) w.heap.size rfl rfl hX.get (ldSr hX.get) ?_
                  exact OwnBy.mk _ _ _ rfl (rfl) (⟨rfl, rfl⟩) (hH)
                | 23, _ =>
                  obtain rfl := Option.some.inj ho
                  have e21 : f 21 = .pointer (some ⟨g, 0, none⟩) := (hd ⟨21, .data⟩ (by simp) rfl).2.1
                  have e22 : f 22 = Value.agg (sC a m) := (hd ⟨22, .data⟩ (by simp) rfl).2.1
                  have e20 : f 20 = .bool false := (hd ⟨20, .guard⟩ (by simp) rfl).2.1
                  clear hd ho
                  have hH : Holds w (hs ++ ([] ++ R)) w1 := hH
                  subst hI
                  unfold wpOp
                  simp only [e21, e22, e20]
                  refine Or.inl ?_
                  unfold Oper.wp
                  go_simp
                  refine (HSI.out w1 _ (hH.perm (k := h2 ++ (hr2 ++ ((u4.heap.size, Obj.cells (sC z.t z.n) 24) :: (u3.heap.size, .cells (vC z) 30) :: (u2.heap.size, .cells (oC y) 49) :: (u1.heap.size, .cells (vC y) 30) :: ((xb, Obj.cells (aC pp tt nn ss bb) 55) :: ((kb, Obj.cells kz 47) :: (w.heap.size, .cells (sC a m) 24) :: []))) ++ R)) (by classical rw [List.perm_iff_count]; intro a; simp only [List.count_append, List.count_cons, List.count_nil]; omega))).mono ?_
                  rintro e w3 ⟨rfl, hb⟩
                  exact OwnBy.mk _ _ _ rfl (rfl) (⟨rfl, rfl⟩) (hH.grow hb)
                | 24, _ =>
                  obtain rfl := Option.some.inj ho
                  have e20 : f 20 = .bool false := (hd ⟨20, .guard⟩ (by simp) rfl).2.1
                  clear hd ho
                  have hH : Holds w (hs ++ ([] ++ R)) w1 := hH
                  subst hI
                  unfold wpOp
                  simp only [e20]
                  refine Or.inl ?_
                  unfold Oper.wp
                  go_simp
                  exact OwnBy.mk _ _ _ rfl (rfl) (⟨rfl, rfl⟩) (hH)
                | 25, _ =>
                  obtain rfl := Option.some.inj ho
                  have e23 : f 23 = .int .i64 ((M.length : Int) - (U : Int)) := (hd ⟨23, .data⟩ (by simp) rfl).2.1
                  have e24 : f 24 = .int .i64 ((M.length : Int) - (U : Int)) := (hd ⟨24, .data⟩ (by simp) rfl).2.1
                  have e20 : f 20 = .bool false := (hd ⟨20, .guard⟩ (by simp) rfl).2.1
                  clear hd ho
                  have hH : Holds w (hs ++ ([] ++ R)) w1 := hH
                  subst hI
                  unfold wpOp
                  simp only [e23, e24, e20]
                  refine Or.inl ?_
                  unfold Oper.wp
                  go_simp
                  exact OwnBy.mk _ _ _ rfl (rfl) (⟨rfl, rfl⟩) (hH)
                | 26, _ =>
                  obtain rfl := Option.some.inj ho
                  have e20 : f 20 = .bool false := (hd ⟨20, .data⟩ (by simp) rfl).2.1
                  have e25 : f 25 = .bool false := (hd ⟨25, .data⟩ (by simp) rfl).2.1
                  clear hd ho
                  have hH : Holds w (hs ++ ([] ++ R)) w1 := hH
                  subst hI
                  unfold wpOp
                  refine Or.inl ?_
                  simp only [e20, e25]
                  unfold Oper.wp
                  go_simp
                  exact OwnBy.mk _ _ _ rfl (rfl) (⟨rfl, rfl⟩) (hH)
                | 27, _ =>
                  obtain rfl := Option.some.inj ho
                  have e26 : f 26 = .bool false := (hd ⟨26, .data⟩ (by simp) rfl).2.1
                  clear hd ho
                  have hH : Holds w (hs ++ ([] ++ R)) w1 := hH
                  subst hI
                  unfold wpOp
                  refine Or.inl ?_
                  simp only [e26]
                  unfold Oper.wp
                  go_simp
                  exact OwnBy.mk _ _ _ rfl (rfl) (⟨rfl, rfl⟩) (hH)
                | 28, _ =>
                  obtain rfl := Option.some.inj ho
                  have e27 : f 27 = .bool false := (hd ⟨27, .guard⟩ (by simp) rfl).2.1
                  clear hd ho
                  have hH : Holds w (hs ++ ([] ++ R)) w1 := hH
                  subst hI
                  unfold wpOp
                  simp only [e27]
                  refine Or.inl ?_
                  unfold Oper.wp
                  go_simp
                  exact OwnBy.mk _ _ _ rfl (rfl) (⟨rfl, rfl⟩) (hH)
                | 29, _ =>
                  obtain rfl := Option.some.inj ho
                  have e28 : f 28 = .pointer (some ⟨g, 0, none⟩) := (hd ⟨28, .data⟩ (by simp) rfl).2.1
                  have e27 : f 27 = .bool false := (hd ⟨27, .guard⟩ (by simp) rfl).2.1
                  clear hd ho
                  have hH : Holds w (hs ++ ([] ++ R)) w1 := hH
                  subst hI
                  unfold wpOp
                  simp only [e28, e27]
                  refine Or.inl ?_
                  unfold Oper.wp
                  go_simp
                  refine (len_calls g M h2 (hr2 ++ ((u4.heap.size, Obj.cells (sC z.t z.n) 24) :: (u3.heap.size, .cells (vC z) 30) :: (u2.heap.size, .cells (oC y) 49) :: (u1.heap.size, .cells (vC y) 30) :: ((xb, Obj.cells (aC pp tt nn ss bb) 55) :: ((kb, Obj.cells kz 47) :: (w.heap.size, .cells (sC a m) 24) :: []))) ++ R) w w1 HC.out (hH.perm (by classical rw [List.perm_iff_count]; intro a; simp only [List.count_append, List.count_cons, List.count_nil]; omega))).mono ?_
                  rintro e w3 ⟨rfl, rfl⟩
                  exact OwnBy.mk _ _ _ rfl (rfl) (⟨rfl, rfl⟩) (hH)
                | 30, _ =>
                  obtain rfl := Option.some.inj ho
                  have e27 : f 27 = .bool false := (hd ⟨27, .guard⟩ (by simp) rfl).2.1
                  clear hd ho
                  have hH : Holds w (hs ++ ([] ++ R)) w1 := hH
                  subst hI
                  unfold wpOp
                  simp only [e27]
                  refine Or.inl ?_
                  unfold Oper.wp
                  go_simp
                  exact OwnBy.mk _ _ _ rfl (rfl) (⟨rfl, rfl⟩) (hH)
                | 31, _ =>
                  obtain rfl := Option.some.inj ho
                  have e30 : f 30 = .pointer (some ⟨r, 0, none⟩) := (hd ⟨30, .data⟩ (by simp) rfl).2.1
                  have e27 : f 27 = .bool false := (hd ⟨27, .guard⟩ (by simp) rfl).2.1
                  clear hd ho
                  have hH : Holds w (hs ++ ([] ++ R)) w1 := hH
                  subst hI
                  unfold wpOp
                  simp only [e30, e27]
                  refine Or.inl ?_
                  unfold Oper.wp
                  go_simp
                  exact OwnBy.mk _ _ _ rfl (rfl) (⟨rfl, rfl⟩) (hH)
                | 32, _ =>
                  obtain rfl := Option.some.inj ho
                  have e31 : f 31 = .pointer (some ⟨r, 0, none⟩) := (hd ⟨31, .data⟩ (by simp) rfl).2.1
                  have e27 : f 27 = .bool false := (hd ⟨27, .guard⟩ (by simp) rfl).2.1
                  clear hd ho
                  have hH : Holds w (hs ++ ([] ++ R)) w1 := hH
                  subst hI
                  unfold wpOp
                  simp only [e31, e27]
                  refine Or.inl ?_
                  unfold Oper.wp
                  go_simp
                  exact OwnBy.mk _ _ _ rfl (rfl) (⟨rfl, rfl⟩) (hH)
                | 33, _ =>
                  obtain rfl := Option.some.inj ho
                  have e32 : f 32 = .pointer (some ⟨r, 0, none⟩) := (hd ⟨32, .data⟩ (by simp) rfl).2.1
                  have e27 : f 27 = .bool false := (hd ⟨27, .guard⟩ (by simp) rfl).2.1
                  clear hd ho
                  have hH : Holds w (hs ++ ([] ++ R)) w1 := hH
                  subst hI
                  unfold wpOp
                  simp only [e32, e27]
                  refine Or.inl ?_
                  unfold Oper.wp
                  have q := (HRH.out w1 _ (hH.perm (k := hr2 ++ (h2 ++ ((u4.heap.size, Obj.cells (sC z.t z.n) 24) :: (u3.heap.size, .cells (vC z) 30) :: (u2.heap.size, .cells (oC y) 49) :: (u1.heap.size, .cells (vC y) 30) :: ((xb, Obj.cells (aC pp tt nn ss bb) 55) :: ((kb, Obj.cells kz 47) :: (w.heap.size, .cells (sC a m) 24) :: []))) ++ R)) (by classical rw [List.perm_iff_count]; intro a; simp only [List.count_append, List.count_cons, List.count_nil]; omega))).1
                  go_simp
                  exact OwnBy.mk _ _ _ rfl (rfl) (⟨rfl, rfl⟩) (hH)
                | 34, _ =>
                  obtain rfl := Option.some.inj ho
                  have e33 : f 33 = .slice AR M.length cR := (hd ⟨33, .data⟩ (by simp) rfl).2.1
                  have e27 : f 27 = .bool false := (hd ⟨27, .guard⟩ (by simp) rfl).2.1
                  clear hd ho
                  have hH : Holds w (hs ++ ([] ++ R)) w1 := hH
                  subst hI
                  unfold wpOp
                  simp only [e33, e27]
                  refine Or.inl ?_
                  unfold Oper.wp
                  go_simp
                  exact OwnBy.mk _ _ _ rfl (rfl) (⟨rfl, rfl⟩) (hH)
                | 35, _ =>
                  obtain rfl := Option.some.inj ho
                  have e29 : f 29 = .int .i64 M.length := (hd ⟨29, .data⟩ (by simp) rfl).2.1
                  have e34 : f 34 = .int .i64 M.length := (hd ⟨34, .data⟩ (by simp) rfl).2.1
                  have e27 : f 27 = .bool false := (hd ⟨27, .guard⟩ (by simp) rfl).2.1
                  clear hd ho
                  have hH : Holds w (hs ++ ([] ++ R)) w1 := hH
                  subst hI
                  unfold wpOp
                  simp only [e29, e34, e27]
                  refine Or.inl ?_
                  unfold Oper.wp
                  go_simp
                  exact OwnBy.mk _ _ _ rfl (rfl) (⟨rfl, rfl⟩) (hH)
                | 36, _ =>
                  obtain rfl := Option.some.inj ho
                  have e27 : f 27 = .bool false := (hd ⟨27, .data⟩ (by simp) rfl).2.1
                  have e35 : f 35 = .bool false := (hd ⟨35, .data⟩ (by simp) rfl).2.1
                  clear hd ho
                  have hH : Holds w (hs ++ ([] ++ R)) w1 := hH
                  subst hI
                  unfold wpOp
                  refine Or.inl ?_
                  simp only [e27, e35]
                  unfold Oper.wp
                  go_simp
                  exact OwnBy.mk _ _ _ rfl (rfl) (⟨rfl, rfl⟩) (hH)
                | 37, _ =>
                  obtain rfl := Option.some.inj ho
                  have e36 : f 36 = .bool false := (hd ⟨36, .data⟩ (by simp) rfl).2.1
                  clear hd ho
                  have hH : Holds w (hs ++ ([] ++ R)) w1 := hH
                  subst hI
                  unfold wpOp
                  refine Or.inl ?_
                  simp only [e36]
                  unfold Oper.wp
                  go_simp
                  exact OwnBy.mk _ _ _ rfl (rfl) (⟨rfl, rfl⟩) (hH)
                | 38, _ =>
                  obtain rfl := Option.some.inj ho
                  have e37 : f 37 = .bool false := (hd ⟨37, .guard⟩ (by simp) rfl).2.1
                  clear hd ho
                  have hH : Holds w (hs ++ ([] ++ R)) w1 := hH
                  subst hI
                  unfold wpOp
                  simp only [e37]
                  refine Or.inl ?_
                  unfold Oper.wp
                  go_simp
                  exact OwnBy.mk _ _ _ rfl (rfl) (⟨rfl, rfl⟩) (hH)
                | 39, _ =>
                  obtain rfl := Option.some.inj ho
                  have e38 : f 38 = .pointer (some ⟨g, 0, none⟩) := (hd ⟨38, .data⟩ (by simp) rfl).2.1
                  have e37 : f 37 = .bool false := (hd ⟨37, .guard⟩ (by simp) rfl).2.1
                  clear hd ho
                  have hH : Holds w (hs ++ ([] ++ R)) w1 := hH
                  subst hI
                  unfold wpOp
                  simp only [e38, e37]
                  refine Or.inl ?_
                  unfold Oper.wp
                  go_simp
                  refine (all_calls g M h2 (hr2 ++ ((u4.heap.size, Obj.cells (sC z.t z.n) 24) :: (u3.heap.size, .cells (vC z) 30) :: (u2.heap.size, .cells (oC y) 49) :: (u1.heap.size, .cells (vC y) 30) :: ((xb, Obj.cells (aC pp tt nn ss bb) 55) :: ((kb, Obj.cells kz 47) :: (w.heap.size, .cells (sC a m) 24) :: []))) ++ R) w w1 HC.out (hH.perm (by classical rw [List.perm_iff_count]; intro a; simp only [List.count_append, List.count_cons, List.count_nil]; omega))).mono ?_
                  rintro e w3 ⟨v3, rfl, hv3, hR3, hH3⟩
                  exact OwnBy.mk _ hv3 _ rfl rfl hR3 (hH3.perm (by classical rw [List.perm_iff_count]; intro a; simp only [List.count_append, List.count_cons, List.count_nil]; omega))
                | 40, _ =>
                  obtain rfl := Option.some.inj ho
                  have e39 := (hd ⟨39, .data⟩ (by simp) rfl).2
                  have e37 : f 37 = .bool false := (hd ⟨37, .guard⟩ (by simp) rfl).2.1
                  clear hd ho
                  have hH : Holds w (hs ++ ((Hf 39 ++ ([])) ++ R)) w1 := hH
                  simp only [List.append_nil, List.append_assoc] at hH
                  subst hI
                  unfold wpOp
                  simp only [e37]
                  refine Or.inl ?_
                  unfold Oper.wp
                  obtain ⟨AA, gA, cA, hfa, hAA, hra⟩ := row_rd2 e39
                  rw [hfa]
                  go_simp
                  refine (vers_calls AA gA cA M w w1 (Hf 39 ++ ((h2 ++ (hr2 ++ ((u4.heap.size, Obj.cells (sC z.t z.n) 24) :: (u3.heap.size, .cells (vC z) 30) :: (u2.heap.size, .cells (oC y) 49) :: (u1.heap.size, .cells (vC y) 30) :: ((xb, Obj.cells (aC pp tt nn ss bb) 55) :: ((kb, Obj.cells kz 47) :: (w.heap.size, .cells (sC a m) 24) :: []))))) ++ R)) hAA (by omega) (fun w2 H2 => hra w _ w2 H2) (hH.perm (by classical rw [List.perm_iff_count]; intro a; simp only [List.count_append, List.count_cons, List.count_nil]; omega))).mono ?_
                  rintro e w3 ⟨v3, rfl, hv3, hR3, hH3⟩
                  exact OwnBy.mk _ hv3 _ rfl rfl hR3 ((hH3.perm (k := Hf 39 ++ ((h2 ++ (hr2 ++ ((u4.heap.size, Obj.cells (sC z.t z.n) 24) :: (u3.heap.size, .cells (vC z) 30) :: (u2.heap.size, .cells (oC y) 49) :: (u1.heap.size, .cells (vC y) 30) :: ((xb, Obj.cells (aC pp tt nn ss bb) 55) :: ((kb, Obj.cells kz 47) :: (w.heap.size, .cells (sC a m) 24) :: []))))) ++ (hv3 ++ R))) (by classical rw [List.perm_iff_count]; intro a; simp only [List.count_append, List.count_cons, List.count_nil]; omega)).right)
                | 41, _ =>
                  obtain rfl := Option.some.inj ho
                  have e40 := (hd ⟨40, .data⟩ (by simp) rfl).2
                  have e37 : f 37 = .bool false := (hd ⟨37, .guard⟩ (by simp) rfl).2.1
                  clear hd ho
                  have hH : Holds w (hs ++ ((Hf 40 ++ ([])) ++ R)) w1 := hH
                  simp only [List.append_nil, List.append_assoc] at hH
                  subst hI
                  unfold wpOp
                  simp only [e37]
                  refine Or.inl ?_
                  unfold Oper.wp
                  obtain ⟨A40, b40, c40, hf40, _, _⟩ := ro_row e40
                  rw [hf40] at e40
                  rw [hf40]
                  go_simp
                  exact OwnBy.mk _ (Hf 40) _ rfl rfl ⟨_, rfl, e40⟩ hH
                | 42, _ =>
                  obtain rfl := Option.some.inj ho
                  have e41 := (hd ⟨41, .data⟩ (by simp) rfl).2
                  obtain ⟨u41, e41, r41⟩ := e41
                  have e37 : f 37 = .bool false := (hd ⟨37, .guard⟩ (by simp) rfl).2.1
                  clear hd ho
                  have hH : Holds w (hs ++ ((Hf 41 ++ ([])) ++ R)) w1 := hH
                  simp only [List.append_nil, List.append_assoc] at hH
                  subst hI
                  unfold wpOp
                  simp only [e41, e37]
                  refine Or.inl ?_
                  unfold Oper.wp
                  obtain ⟨A40, b40, c40, rfl, _, _⟩ := ro_row r41
                  go_simp
                  exact OwnBy.mk _ ((w1.heap.size, .cells #[.slice A40 M.length c40] 43) :: Hf 41) _ rfl rfl (BoxR.mk r41) ((hH.alloc (.cells #[.slice A40 M.length c40] 43)).perm (by classical rw [List.perm_iff_count]; intro a; simp only [List.count_append, List.count_cons, List.count_nil]; omega))
                | 43, _ =>
                  obtain rfl := Option.some.inj ho
                  have e37 : f 37 = .bool false := (hd ⟨37, .guard⟩ (by simp) rfl).2.1
                  clear hd ho
                  have hH : Holds w (hs ++ ([] ++ R)) w1 := hH
                  subst hI
                  unfold wpOp
                  simp only [e37]
                  refine Or.inl ?_
                  unfold Oper.wp
                  go_simp
                  exact OwnBy.mk _ _ _ rfl (rfl) (⟨rfl, rfl⟩) (hH)
                | 44, _ =>
                  obtain rfl := Option.some.inj ho
                  have e42 := (hd ⟨42, .data⟩ (by simp) rfl).2
                  obtain ⟨b42, u42, hq42, e42, r42, q42⟩ := e42
                  have e43 : f 43 = .pointer (some ⟨r, 0, none⟩) := (hd ⟨43, .data⟩ (by simp) rfl).2.1
                  have e37 : f 37 = .bool false := (hd ⟨37, .guard⟩ (by simp) rfl).2.1
                  clear hd ho
                  have hH : Holds w (hs ++ ((Hf 42 ++ ([])) ++ R)) w1 := hH
                  simp only [q42, List.append_nil, List.append_assoc] at hH
                  subst hI
                  unfold wpOp
                  simp only [e42, e43, e37]
                  refine Or.inl ?_
                  unfold Oper.wp
                  obtain ⟨A40, b40, c40, rfl, e40, ro40⟩ := ro_row r42
                  have hX : Holds w ((b42, .cells #[.slice A40 M.length c40] 43) :: (hq42 ++ ((h2 ++ (hr2 ++ ((u4.heap.size, Obj.cells (sC z.t z.n) 24) :: (u3.heap.size, .cells (vC z) 30) :: (u2.heap.size, .cells (oC y) 49) :: (u1.heap.size, .cells (vC y) 30) :: ((xb, Obj.cells (aC pp tt nn ss bb) 55) :: ((kb, Obj.cells kz 47) :: (w.heap.size, .cells (sC a m) 24) :: []))))) ++ R))) w1 := hH.perm (by classical rw [List.perm_iff_count]; intro a; simp only [List.count_append, List.count_cons, List.count_nil]; omega)
                  obtain ⟨hc2, hro2⟩ := HRH.out w1 _ (hH.perm (k := hr2 ++ (h2 ++ ((u4.heap.size, Obj.cells (sC z.t z.n) 24) :: (u3.heap.size, .cells (vC z) 30) :: (u2.heap.size, .cells (oC y) 49) :: (u1.heap.size, .cells (vC y) 30) :: ((xb, Obj.cells (aC pp tt nn ss bb) 55) :: ((kb, Obj.cells kz 47) :: (w.heap.size, .cells (sC a m) 24) :: []))) ++ ((b42, .cells #[.slice A40 M.length c40] 43) :: (hq42 ++ R)))) (by classical rw [List.perm_iff_count]; intro a; simp only [List.count_append, List.count_cons, List.count_nil]; omega))
                  have hro1 := ro40 w ((b42, .cells #[.slice A40 M.length c40] 43) :: ((h2 ++ (hr2 ++ ((u4.heap.size, Obj.cells (sC z.t z.n) 24) :: (u3.heap.size, .cells (vC z) 30) :: (u2.heap.size, .cells (oC y) 49) :: (u1.heap.size, .cells (vC y) 30) :: ((xb, Obj.cells (aC pp tt nn ss bb) 55) :: ((kb, Obj.cells kz 47) :: (w.heap.size, .cells (sC a m) 24) :: []))))) ++ R)) w1 (hX.perm (by classical rw [List.perm_iff_count]; intro a; simp only [List.count_append, List.count_cons, List.count_nil]; omega))
                  have hcl := same_calls b42 r b40 bR c40 cR A40 AR M w1 (hX.cell 0) hc2 e40 eR hro1 hro2 (by omega)
                  clear hc2 hro2 hro1
                  go_simp
                  refine hcl.mono ?_
                  rintro e w3 ⟨rfl, hb⟩
                  exact OwnBy.mk _ [] _ rfl rfl ⟨rfl, rfl⟩ (hX.tail.grow hb).right
                | 45, _ =>
                  obtain rfl := Option.some.inj ho
                  have e44 : f 44 = .bool true := (hd ⟨44, .data⟩ (by simp) rfl).2.1
                  have e37 : f 37 = .bool false := (hd ⟨37, .guard⟩ (by simp) rfl).2.1
                  clear hd ho
                  have hH : Holds w (hs ++ ([] ++ R)) w1 := hH
                  subst hI
                  unfold wpOp
                  simp only [e44, e37]
                  refine Or.inl ?_
                  unfold Oper.wp
                  go_simp
                  exact OwnBy.mk _ _ _ rfl (rfl) (⟨rfl, rfl⟩) (hH)
                | 46, _ =>
                  obtain rfl := Option.some.inj ho
                  have e37 : f 37 = .bool false := (hd ⟨37, .data⟩ (by simp) rfl).2.1
                  have e45 : f 45 = .bool false := (hd ⟨45, .data⟩ (by simp) rfl).2.1
                  clear hd ho
                  have hH : Holds w (hs ++ ([] ++ R)) w1 := hH
                  subst hI
                  unfold wpOp
                  refine Or.inl ?_
                  simp only [e37, e45]
                  unfold Oper.wp
                  go_simp
                  exact OwnBy.mk _ _ _ rfl (rfl) (⟨rfl, rfl⟩) (hH)
                | _ + 47, h47 => exact absurd h47 (by omega)
              · intro Ls f Hf hs w1 hI hL hV hH
                have e0 : f 0 = .bool p := (hV 0 (by decide)).1
                have e1 : f 1 = .bool p := (hV 1 (by decide)).1
                have e2 : f 2 = .bool false := (hV 2 (by decide)).1
                have e3 : f 3 = .bool false := (hV 3 (by decide)).1
                have e4 : f 4 = Value.agg (vC y) := (hV 4 (by decide)).1
                have e5 : f 5 = Value.agg (oC y) := (hV 5 (by decide)).1
                have e6 : f 6 = Value.agg (oC y) := (hV 6 (by decide)).1
                have e7 : f 7 = .bool false := (hV 7 (by decide)).1
                have e8 : f 8 = .bool false := (hV 8 (by decide)).1
                have e9 : f 9 = .bool false := (hV 9 (by decide)).1
                have e10 : f 10 = .bool q := (hV 10 (by decide)).1
                have e11 : f 11 = .bool q := (hV 11 (by decide)).1
                have e12 : f 12 = .bool false := (hV 12 (by decide)).1
                have e13 : f 13 = .bool false := (hV 13 (by decide)).1
                have e14 : f 14 = .bool false := (hV 14 (by decide)).1
                have e15 : f 15 = .pointer (some ⟨u3.heap.size, 0, none⟩) := (hV 15 (by decide)).1
                have e16 : f 16 = Value.agg (sC z.t z.n) := (hV 16 (by decide)).1
                have e17 : f 17 = Value.agg (sC z.t z.n) := (hV 17 (by decide)).1
                have e18 : f 18 = .bool false := (hV 18 (by decide)).1
                have e19 : f 19 = .bool false := (hV 19 (by decide)).1
                have e20 : f 20 = .bool false := (hV 20 (by decide)).1
                have e21 : f 21 = .pointer (some ⟨g, 0, none⟩) := (hV 21 (by decide)).1
                have e22 : f 22 = Value.agg (sC a m) := (hV 22 (by decide)).1
                have e23 : f 23 = .int .i64 ((M.length : Int) - (U : Int)) := (hV 23 (by decide)).1
                have e24 : f 24 = .int .i64 ((M.length : Int) - (U : Int)) := (hV 24 (by decide)).1
                have e25 : f 25 = .bool false := (hV 25 (by decide)).1
                have e26 : f 26 = .bool false := (hV 26 (by decide)).1
                have e27 : f 27 = .bool false := (hV 27 (by decide)).1
                have e28 : f 28 = .pointer (some ⟨g, 0, none⟩) := (hV 28 (by decide)).1
                have e29 : f 29 = .int .i64 M.length := (hV 29 (by decide)).1
                have e30 : f 30 = .pointer (some ⟨r, 0, none⟩) := (hV 30 (by decide)).1
                have e31 : f 31 = .pointer (some ⟨r, 0, none⟩) := (hV 31 (by decide)).1
                have e32 : f 32 = .pointer (some ⟨r, 0, none⟩) := (hV 32 (by decide)).1
                have e33 : f 33 = .slice AR M.length cR := (hV 33 (by decide)).1
                have e34 : f 34 = .int .i64 M.length := (hV 34 (by decide)).1
                have e35 : f 35 = .bool false := (hV 35 (by decide)).1
                have e36 : f 36 = .bool false := (hV 36 (by decide)).1
                have e37 : f 37 = .bool false := (hV 37 (by decide)).1
                have e38 : f 38 = .pointer (some ⟨g, 0, none⟩) := (hV 38 (by decide)).1
                have e39 := hV 39 (by decide)
                have e40 := hV 40 (by decide)
                have e41 := hV 41 (by decide)
                obtain ⟨u41, e41, r41⟩ := e41
                have e42 := hV 42 (by decide)
                obtain ⟨b42, u42, hq42, e42, r42, q42⟩ := e42
                have e43 : f 43 = .pointer (some ⟨r, 0, none⟩) := (hV 43 (by decide)).1
                have e44 : f 44 = .bool true := (hV 44 (by decide)).1
                have e45 : f 45 = .bool false := (hV 45 (by decide)).1
                have e46 : f 46 = .bool false := (hV 46 (by decide)).1
                clear hV
                have hH : Holds w (hs ++ []) w1 := hH
                simp only [fill, List.take_succ_cons, List.take_zero, List.drop_succ_cons, List.drop_zero, Act.put, List.setIfInBounds_toArray, List.set_cons_zero, List.set_cons_succ, e0, e1, e2, e3, e4, e5, e6, e7, e8, e9, e10, e11, e12, e13, e14, e15, e16, e17, e18, e19, e20, e21, e22, e23, e24, e25, e26, e27, e28, e29, e30, e31, e32, e33, e34, e35, e36, e37, e38, e41, e42, e43, e44, e45, e46]
                subst hI
                have HHe := Lib.hid (show Holds w (h2 ++ (hr2 ++ ((u4.heap.size, Obj.cells (sC z.t z.n) 24) :: (u3.heap.size, .cells (vC z) 30) :: (u2.heap.size, .cells (oC y) 49) :: (u1.heap.size, .cells (vC y) 30) :: ((xb, Obj.cells (aC pp tt nn ss bb) 55) :: ((kb, Obj.cells kz 47) :: (w.heap.size, .cells (sC a m) 24) :: []))))) w1 from by simpa using hH)
                clear hH hL
                go_wp2_with fail
                go_roundw
                case rel => exact ⟨k + 1, M, h2, hr2, by omega, by go_num, HC.out, HR.out, (HHe.out.perm (k := (u4.heap.size, Obj.cells (sC z.t z.n) 24) :: (u3.heap.size, .cells (vC z) 30) :: (u2.heap.size, .cells (oC y) 49) :: (u1.heap.size, .cells (vC y) 30) ::  (xb, Obj.cells (aC pp tt nn ss bb) 55) :: (h2 ++ (hr2 ++ ((kb, Obj.cells kz 47) :: (w.heap.size, .cells (sC a m) 24) :: [])))) (by classical rw [List.perm_iff_count]; intro a; simp only [List.count_append, List.count_cons, List.count_nil]; omega)).tail.tail.tail.tail.tail⟩
                case measure => simp [intOf] <;> omega
  
      · have hp0' : (pp == 0) = false := by rw [beq_eq_false_iff_ne]; exact hp0
        clear hp0
        go_wp2_with (with_reducible refine stA (.tmp 9) (.tmp 38) wr.heap.size pp tt nn ss bb rfl rfl g1 ?_)
        rw [← HW5.out, ← HXB.out]
        clear r0 r3 q0 q1 q2 q3 q4 g1 HW5 HXB HRr
        refine wp_region_own 11 (fun _ => []) (by kernel_rfl) (by kernel_rfl) (by kernel_rfl) (by kernel_rfl) (Nat.le_of_ble_eq_true (by kernel_rfl)) w (fun Ls hs => Both g r 4 9 (L.drop (trimN L tt nn)) L ((xb, Obj.cells (aC pp tt nn ss bb) 55) :: ((kb, Obj.cells kz 47) :: (w.heap.size, .cells (sC a m) 24) :: [])) Ls hs) (fun i v h => match i with | 0 => v = .pointer (some ⟨g, 0, none⟩) ∧ h = [] | 1 => v = .pointer (some ⟨xb, 1, none⟩) ∧ h = [] | 2 => v = .pointer (some ⟨xb, 1, none⟩) ∧ h = [] | 3 => v = Value.agg (sC tt nn) ∧ h = [] | 4 => v = .int .i64 (trimN L tt nn) ∧ h = [] | 5 => v = .pointer (some ⟨r, 0, none⟩) ∧ h = [] | 6 => v = .pointer (some ⟨xb, 1, none⟩) ∧ h = [] | 7 => v = .pointer (some ⟨xb, 1, none⟩) ∧ h = [] | 8 => v = Value.agg (sC tt nn) ∧ h = [] | 9 => v = .int .i64 (trimN L tt nn) ∧ h = [] | 10 => v = .bool false ∧ h = [] | _ => True) ((h ++ (hr ++ ((xb, Obj.cells (aC pp tt nn ss bb) 55) :: ((kb, Obj.cells kz 47) :: (w.heap.size, .cells (sC a m) 24) :: []))))) (Both.mk HC0.out HR0.out) (HH0.out.drew) ?_ ?_
        · intro i o hi ho Ls f Hf hs R w1 hI hL hd hH
          simp only [fill, List.take_succ_cons, List.take_zero, Act.put, List.setIfInBounds_toArray, List.set_cons_zero, List.set_cons_succ]
          match i, hi with
          | 0, _ =>
            obtain rfl := Option.some.inj ho
            clear hd ho
            have hH : Holds w (hs ++ ([] ++ R)) w1 := hH
            obtain ⟨h, hr, hC, hR, rfl⟩ := hI
            unfold wpOp
            refine Or.inl ?_
            unfold Oper.wp
            go_simp
            exact OwnBy.mk _ _ _ rfl (Both.mk hC hR) (⟨rfl, rfl⟩) (hH)
          | 1, _ =>
            obtain rfl := Option.some.inj ho
            clear hd ho
            have hH : Holds w (hs ++ ([] ++ R)) w1 := hH
            obtain ⟨h, hr, hC, hR, rfl⟩ := hI
            unfold wpOp
            refine Or.inl ?_
            unfold Oper.wp
            go_simp
            exact OwnBy.mk _ _ _ rfl (Both.mk hC hR) (⟨rfl, rfl⟩) (hH)
          | 2, _ =>
            obtain rfl := Option.some.inj ho
            have e1 : f 1 = .pointer (some ⟨xb, 1, none⟩) := (hd ⟨1, .data⟩ (by simp) rfl).2.1
            clear hd ho
            have hH : Holds w (hs ++ ([] ++ R)) w1 := hH
            obtain ⟨h, hr, hC, hR, rfl⟩ := hI
            unfold wpOp
            refine Or.inl ?_
            simp only [e1]
            unfold Oper.wp
            go_simp
            exact OwnBy.mk _ _ _ rfl (Both.mk hC hR) (⟨rfl, rfl⟩) (hH)
          | 3, _ =>
            obtain rfl := Option.some.inj ho
            have e2 : f 2 = .pointer (some ⟨xb, 1, none⟩) := (hd ⟨2, .data⟩ (by simp) rfl).2.1
            clear hd ho
            have hH : Holds w (hs ++ ([] ++ R)) w1 := hH
            obtain ⟨h, hr, hC, hR, rfl⟩ := hI
            unfold wpOp
            refine Or.inl ?_
            simp only [e2]
            unfold Oper.wp
            have hX : Holds w ((xb, Obj.cells (aC pp tt nn ss bb) 55) :: (h ++ hr ++ ((kb, Obj.cells kz 47) :: (w.heap.size, .cells (sC a m) 24) :: []) ++ R)) w1 := hH.perm (by classical rw [List.perm_iff_count]; intro a; simp only [List.count_append, List.count_cons, List.count_nil]; omega)
            have q1 : w1.cell? ⟨xb, 1, none⟩ = some (.int .i64 tt) := hX.cell 1
            have q2 : w1.cell? ⟨xb, 2, none⟩ = some (.int .u8 nn) := hX.cell 2
            have q3 : w1.cell? ⟨xb, 3, none⟩ = some (.string ss) := hX.cell 3
            have q4 : w1.cell? ⟨xb, 4, none⟩ = some (.bool bb) := hX.cell 4
            go_simp
            exact OwnBy.mk _ _ _ rfl (Both.mk hC hR) (⟨rfl, rfl⟩) (hH)
          | 4, _ =>
            obtain rfl := Option.some.inj ho
            have e0 : f 0 = .pointer (some ⟨g, 0, none⟩) := (hd ⟨0, .data⟩ (by simp) rfl).2.1
            have e3 : f 3 = Value.agg (sC tt nn) := (hd ⟨3, .data⟩ (by simp) rfl).2.1
            clear hd ho
            have hH : Holds w (hs ++ ([] ++ R)) w1 := hH
            obtain ⟨h, hr, hC, hR, rfl⟩ := hI
            unfold wpOp
            refine Or.inl ?_
            simp only [e0, e3]
            unfold Oper.wp
            rw [hL, if_neg (by decide)] at hC
            have hHp : Holds w (h ++ (hr ++ ((xb, Obj.cells (aC pp tt nn ss bb) 55) :: ((kb, Obj.cells kz 47) :: (w.heap.size, .cells (sC a m) 24) :: [])) ++ R)) w1 := hH.perm (by classical rw [List.perm_iff_count]; intro a; simp only [List.count_append, List.count_cons, List.count_nil]; omega)
            go_simp
            refine (trim_calls g L tt nn h _ w w1 hC hHp).mono ?_
            rintro e w3 ⟨rfl, h3, hC3, hH3⟩
            exact OwnBy.mk _ [] _ rfl (Both.mk hC3 hR) ⟨rfl, rfl⟩ (hH3.perm (by classical rw [List.perm_iff_count]; intro a; simp only [List.count_append, List.count_cons, List.count_nil]; omega))
          | 5, _ =>
            obtain rfl := Option.some.inj ho
            clear hd ho
            have hH : Holds w (hs ++ ([] ++ R)) w1 := hH
            obtain ⟨h, hr, hC, hR, rfl⟩ := hI
            unfold wpOp
            refine Or.inl ?_
            unfold Oper.wp
            go_simp
            exact OwnBy.mk _ _ _ rfl (Both.mk hC hR) (⟨rfl, rfl⟩) (hH)
          | 6, _ =>
            obtain rfl := Option.some.inj ho
            clear hd ho
            have hH : Holds w (hs ++ ([] ++ R)) w1 := hH
            obtain ⟨h, hr, hC, hR, rfl⟩ := hI
            unfold wpOp
            refine Or.inl ?_
            unfold Oper.wp
            go_simp
            exact OwnBy.mk _ _ _ rfl (Both.mk hC hR) (⟨rfl, rfl⟩) (hH)
          | 7, _ =>
            obtain rfl := Option.some.inj ho
            have e6 : f 6 = .pointer (some ⟨xb, 1, none⟩) := (hd ⟨6, .data⟩ (by simp) rfl).2.1
            clear hd ho
            have hH : Holds w (hs ++ ([] ++ R)) w1 := hH
            obtain ⟨h, hr, hC, hR, rfl⟩ := hI
            unfold wpOp
            refine Or.inl ?_
            simp only [e6]
            unfold Oper.wp
            go_simp
            exact OwnBy.mk _ _ _ rfl (Both.mk hC hR) (⟨rfl, rfl⟩) (hH)
          | 8, _ =>
            obtain rfl := Option.some.inj ho
            have e7 : f 7 = .pointer (some ⟨xb, 1, none⟩) := (hd ⟨7, .data⟩ (by simp) rfl).2.1
            clear hd ho
            have hH : Holds w (hs ++ ([] ++ R)) w1 := hH
            obtain ⟨h, hr, hC, hR, rfl⟩ := hI
            unfold wpOp
            refine Or.inl ?_
            simp only [e7]
            unfold Oper.wp
            have hX : Holds w ((xb, Obj.cells (aC pp tt nn ss bb) 55) :: (h ++ hr ++ ((kb, Obj.cells kz 47) :: (w.heap.size, .cells (sC a m) 24) :: []) ++ R)) w1 := hH.perm (by classical rw [List.perm_iff_count]; intro a; simp only [List.count_append, List.count_cons, List.count_nil]; omega)
            have q1 : w1.cell? ⟨xb, 1, none⟩ = some (.int .i64 tt) := hX.cell 1
            have q2 : w1.cell? ⟨xb, 2, none⟩ = some (.int .u8 nn) := hX.cell 2
            have q3 : w1.cell? ⟨xb, 3, none⟩ = some (.string ss) := hX.cell 3
            have q4 : w1.cell? ⟨xb, 4, none⟩ = some (.bool bb) := hX.cell 4
            go_simp
            exact OwnBy.mk _ _ _ rfl (Both.mk hC hR) (⟨rfl, rfl⟩) (hH)
          | 9, _ =>
            obtain rfl := Option.some.inj ho
            have e5 : f 5 = .pointer (some ⟨r, 0, none⟩) := (hd ⟨5, .data⟩ (by simp) rfl).2.1
            have e8 : f 8 = Value.agg (sC tt nn) := (hd ⟨8, .data⟩ (by simp) rfl).2.1
            clear hd ho
            have hH : Holds w (hs ++ ([] ++ R)) w1 := hH
            obtain ⟨h, hr, hC, hR, rfl⟩ := hI
            unfold wpOp
            refine Or.inl ?_
            simp only [e5, e8]
            unfold Oper.wp
            rw [hL, if_neg (by decide)] at hR
            have hHp : Holds w (hr ++ (h ++ ((xb, Obj.cells (aC pp tt nn ss bb) 55) :: ((kb, Obj.cells kz 47) :: (w.heap.size, .cells (sC a m) 24) :: [])) ++ R)) w1 := hH.perm (by classical rw [List.perm_iff_count]; intro a; simp only [List.count_append, List.count_cons, List.count_nil]; omega)
            go_simp
            refine (rtrim_calls r L tt nn hr _ w w1 hR hHp).mono ?_
            rintro e w3 ⟨rfl, h3, hC3, hH3⟩
            exact OwnBy.mk _ [] _ rfl (Both.mk hC hC3) ⟨rfl, rfl⟩ (hH3.perm (by classical rw [List.perm_iff_count]; intro a; simp only [List.count_append, List.count_cons, List.count_nil]; omega))
          | 10, _ =>
            obtain rfl := Option.some.inj ho
            have e4 : f 4 = .int .i64 (trimN L tt nn) := (hd ⟨4, .data⟩ (by simp) rfl).2.1
            have e9 : f 9 = .int .i64 (trimN L tt nn) := (hd ⟨9, .data⟩ (by simp) rfl).2.1
            clear hd ho
            have hH : Holds w (hs ++ ([] ++ R)) w1 := hH
            obtain ⟨h, hr, hC, hR, rfl⟩ := hI
            unfold wpOp
            refine Or.inl ?_
            simp only [e4, e9]
            unfold Oper.wp
            go_simp
            exact OwnBy.mk _ _ _ rfl (Both.mk hC hR) (⟨rfl, rfl⟩) (hH)
        · intro Ls f Hf hs w1 hI hL hV hH
          have e0 : f 0 = .pointer (some ⟨g, 0, none⟩) := (hV 0 (by decide)).1
          have e1 : f 1 = .pointer (some ⟨xb, 1, none⟩) := (hV 1 (by decide)).1
          have e2 : f 2 = .pointer (some ⟨xb, 1, none⟩) := (hV 2 (by decide)).1
          have e3 : f 3 = Value.agg (sC tt nn) := (hV 3 (by decide)).1
          have e4 : f 4 = .int .i64 (trimN L tt nn) := (hV 4 (by decide)).1
          have e5 : f 5 = .pointer (some ⟨r, 0, none⟩) := (hV 5 (by decide)).1
          have e6 : f 6 = .pointer (some ⟨xb, 1, none⟩) := (hV 6 (by decide)).1
          have e7 : f 7 = .pointer (some ⟨xb, 1, none⟩) := (hV 7 (by decide)).1
          have e8 : f 8 = Value.agg (sC tt nn) := (hV 8 (by decide)).1
          have e9 : f 9 = .int .i64 (trimN L tt nn) := (hV 9 (by decide)).1
          have e10 : f 10 = .bool false := (hV 10 (by decide)).1
          clear hV
          have hH : Holds w (hs ++ []) w1 := hH
          simp only [fill, List.take_succ_cons, List.take_zero, List.drop_succ_cons, List.drop_zero, Act.put, List.setIfInBounds_toArray, List.set_cons_zero, List.set_cons_succ, e0, e1, e2, e3, e4, e5, e6, e7, e8, e9, e10]
          obtain ⟨h2, hr2, hC2, hR2, rfl⟩ := hI
          rw [hL 4 (by decide), if_pos rfl] at hC2
          rw [hL 9 (by decide), if_pos rfl] at hR2
          obtain ⟨M, hM⟩ : ∃ M, M = (L.drop (trimN L tt nn)) := ⟨_, rfl⟩
          rw [← hM] at hC2 hR2
          have HC := Lib.hid hC2; have HR := Lib.hid hR2
          have HH := Lib.hid (show Holds w (h2 ++ (hr2 ++ ((xb, Obj.cells (aC pp tt nn ss bb) 55) :: ((kb, Obj.cells kz 47) :: (w.heap.size, .cells (sC a m) 24) :: [])))) w1 from by simpa using hH)
          clear hM hC2 hR2 hH hL e0 e1 e2 e3 e4 e5 e6 e7 e8 e9 e10
          obtain ⟨hri, hl50⟩ := isC_rise HC.out
          have HRI := Lib.hid hri
          clear hri
          have HS0 := Lib.hid (show Holds w ((w.heap.size, .cells (sC a m) 24) :: (h2 ++ (hr2 ++ ((xb, Obj.cells (aC pp tt nn ss bb) 55) :: (kb, .cells kz 47) :: [])))) w1 from HH.out.perm (by classical rw [List.perm_iff_count]; intro a; simp only [List.count_append, List.count_cons, List.count_nil]; omega))
          have q0 : w1.cell? ⟨w.heap.size, 0, none⟩ = some (.int .i64 a) := HS0.out.cell 0
          have q1 : w1.cell? ⟨w.heap.size, 1, none⟩ = some (.int .u8 m) := HS0.out.cell 1
          have HA := Lib.hid (fun w' (F : Hp) (H : Holds w (h2 ++ F) w') => at_calls g M a m h2 F w w' HC.out H)
          have HRA := Lib.hid (fun w' (F : Hp) (H : Holds w (hr2 ++ F) w') => rat_calls r M a m hr2 F w w' HR.out H)
          have HN := Lib.hid (fun w' (F : Hp) (H : Holds w (h2 ++ F) w') => newest_calls g M h2 F w w' HC.out H)
          have HRN := Lib.hid (fun w' (F : Hp) (H : Holds w (hr2 ++ F) w') => rnewest_calls r M hr2 F w w' HR.out H)
          have HSI := Lib.hid (fun w' (F : Hp) (H : Holds w (h2 ++ F) w') => since_calls g M a m h2 F w w' HC.out H)
          have HUI := Lib.hid (fun (k : Nat) (x : Ver) (hk : M[k]? = some x) => until_iff (t := a) (n := m) HRI.out hk)
          have hU := until_le M a m
          obtain ⟨U, hUe⟩ : ∃ U, U = untilN M a m := ⟨_, rfl⟩
          rw [← hUe] at HSI HUI hU
          obtain ⟨y, hy⟩ : ∃ y, y = (verAt M a m).getD v0 := ⟨_, rfl⟩
          obtain ⟨p, hp⟩ : ∃ p, p = (verAt M a m).isSome := ⟨_, rfl⟩
          rw [← hy, ← hp] at HA HRA
          obtain ⟨z, hz⟩ : ∃ z, z = (newest M).getD v0 := ⟨_, rfl⟩
          obtain ⟨q, hq⟩ : ∃ q, q = (newest M).isSome := ⟨_, rfl⟩
          rw [← hz, ← hq] at HN HRN
          clear hUe hy hp hz hq HS0
          go_wp2_with fail
          refine (HA.out w1 _ HH.out).mono ?_
          rintro e u1 ⟨rfl, hb⟩
          have k1 := (HH.out.grow hb).alloc (.cells (vC v0) 30)
          have K1 := Lib.hid ((k1.turn (row_grown _ u1.heap.size (vC y)) (setRow_heap _ _ _ _ _ _ k1.get)).perm (k := h2 ++ (hr2 ++ ((u1.heap.size, .cells (vC y) 30) :: ((xb, Obj.cells (aC pp tt nn ss bb) 55) :: ((kb, Obj.cells kz 47) :: (w.heap.size, .cells (sC a m) 24) :: []))))) (by classical rw [List.perm_iff_count]; intro a; simp only [List.count_append, List.count_cons, List.count_nil]; omega))
          have g1 : (u1.alloc (.cells #[.int .i64 0, .int .u8 0, .string ⟨#[]⟩, .bool false] 30)).heap[u1.heap.size]? = some (.cells (vC v0) 30 (0, 0)) := k1.get
          have p0 : ((u1.alloc (.cells #[.int .i64 0, .int .u8 0, .string ⟨#[]⟩, .bool false] 30)).setRow u1.heap.size (vC y)).cell? ⟨w.heap.size, 0, none⟩ = some (.int .i64 a) := (K1.out.perm (k := (w.heap.size, .cells (sC a m) 24) :: (h2 ++ (hr2 ++ ((u1.heap.size, .cells (vC y) 30) :: (xb, Obj.cells (aC pp tt nn ss bb) 55) :: (kb, .cells kz 47) :: [])))) (by classical rw [List.perm_iff_count]; intro a; simp only [List.count_append, List.count_cons, List.count_nil]; omega)).cell 0
          have p1 : ((u1.alloc (.cells #[.int .i64 0, .int .u8 0, .string ⟨#[]⟩, .bool false] 30)).setRow u1.heap.size (vC y)).cell? ⟨w.heap.size, 1, none⟩ = some (.int .u8 m) := (K1.out.perm (k := (w.heap.size, .cells (sC a m) 24) :: (h2 ++ (hr2 ++ ((u1.heap.size, .cells (vC y) 30) :: (xb, Obj.cells (aC pp tt nn ss bb) 55) :: (kb, .cells kz 47) :: [])))) (by classical rw [List.perm_iff_count]; intro a; simp only [List.count_append, List.count_cons, List.count_nil]; omega)).cell 1
          have HK1 := Lib.hid (show ((u1.alloc (.cells #[.int .i64 0, .int .u8 0, .string ⟨#[]⟩, .bool false] 30)).setRow u1.heap.size (vC y)).rangeAt kb 0 kz.toList from range_own (K1.out.perm (k := (kb, .cells kz 47) :: (h2 ++ (hr2 ++ ((u1.heap.size, .cells (vC y) 30) :: (xb, Obj.cells (aC pp tt nn ss bb) 55) :: (w.heap.size, .cells (sC a m) 24) :: [])))) (by classical rw [List.perm_iff_count]; intro a; simp only [List.count_append, List.count_cons, List.count_nil]; omega)))
          clear hb k1 q0 q1
          go_wp2_with (first | (with_reducible refine stV (.tmp 10) (.tmp 72) u1.heap.size y v0 rfl rfl g1 ?_) | (with_reducible refine ldKm (.tmp 7) kb 0 rfl HK1.out ?_))
          refine (HRA.out _ _ (K1.out.perm (k := hr2 ++ (h2 ++ ((u1.heap.size, .cells (vC y) 30) :: ((xb, Obj.cells (aC pp tt nn ss bb) 55) :: ((kb, Obj.cells kz 47) :: (w.heap.size, .cells (sC a m) 24) :: []))))) (by classical rw [List.perm_iff_count]; intro a; simp only [List.count_append, List.count_cons, List.count_nil]; omega))).mono ?_
          rintro e u2 ⟨rfl, hb⟩
          have k2 := (K1.out.grow hb).alloc (.cells (oC v0) 49)
          have K2 := Lib.hid ((k2.turn (row_grown _ u2.heap.size (oC y)) (setRow_heap _ _ _ _ _ _ k2.get)).perm (k := h2 ++ (hr2 ++ ((u2.heap.size, .cells (oC y) 49) :: (u1.heap.size, .cells (vC y) 30) :: ((xb, Obj.cells (aC pp tt nn ss bb) 55) :: ((kb, Obj.cells kz 47) :: (w.heap.size, .cells (sC a m) 24) :: []))))) (by classical rw [List.perm_iff_count]; intro a; simp only [List.count_append, List.count_cons, List.count_nil]; omega))
          have g2 : (u2.alloc (.cells #[.int .u8 0, .int .u8 0, .int .u8 0, .int .u8 0, .int .u8 0, .int .u8 0, .int .u8 0, .int .u8 0, .int .u8 0, .int .u8 0, .int .u8 0, .int .u8 0, .int .u8 0, .int .u8 0, .int .u8 0, .int .u8 0, .int .i64 0, .int .u8 0, .string ⟨#[]⟩, .bool false] 49)).heap[u2.heap.size]? = some (.cells (oC v0) 49 (0, 0)) := k2.get
          clear hb k2 p0 p1 g1
          go_wp2_with (with_reducible refine stO (.tmp 12) (.tmp 79) u2.heap.size y v0 rfl rfl g2 ?_)
          refine (HN.out _ _ K2.out).mono ?_
          rintro e u3 ⟨rfl, hb⟩
          have k3 := (K2.out.grow hb).alloc (.cells (vC v0) 30)
          have K3 := Lib.hid ((k3.turn (row_grown _ u3.heap.size (vC z)) (setRow_heap _ _ _ _ _ _ k3.get)).perm (k := h2 ++ (hr2 ++ ((u3.heap.size, .cells (vC z) 30) :: (u2.heap.size, .cells (oC y) 49) :: (u1.heap.size, .cells (vC y) 30) :: ((xb, Obj.cells (aC pp tt nn ss bb) 55) :: ((kb, Obj.cells kz 47) :: (w.heap.size, .cells (sC a m) 24) :: []))))) (by classical rw [List.perm_iff_count]; intro a; simp only [List.count_append, List.count_cons, List.count_nil]; omega))
          have g3 : (u3.alloc (.cells #[.int .i64 0, .int .u8 0, .string ⟨#[]⟩, .bool false] 30)).heap[u3.heap.size]? = some (.cells (vC v0) 30 (0, 0)) := k3.get
          have HK3 := Lib.hid (show ((u3.alloc (.cells #[.int .i64 0, .int .u8 0, .string ⟨#[]⟩, .bool false] 30)).setRow u3.heap.size (vC z)).rangeAt kb 0 kz.toList from range_own (K3.out.perm (k := (kb, .cells kz 47) :: (h2 ++ (hr2 ++ ((u3.heap.size, .cells (vC z) 30) :: (u2.heap.size, .cells (oC y) 49) :: (u1.heap.size, .cells (vC y) 30) :: (xb, Obj.cells (aC pp tt nn ss bb) 55) :: (w.heap.size, .cells (sC a m) 24) :: [])))) (by classical rw [List.perm_iff_count]; intro a; simp only [List.count_append, List.count_cons, List.count_nil]; omega)))
          clear hb k3 g2
          go_wp2_with (first | (with_reducible refine stV (.tmp 14) (.tmp 84) u3.heap.size z v0 rfl rfl g3 ?_) | (with_reducible refine ldKm (.tmp 7) kb 0 rfl HK3.out ?_))
          refine (HRN.out _ _ (K3.out.perm (k := hr2 ++ (h2 ++ ((u3.heap.size, .cells (vC z) 30) :: (u2.heap.size, .cells (oC y) 49) :: (u1.heap.size, .cells (vC y) 30) :: ((xb, Obj.cells (aC pp tt nn ss bb) 55) :: ((kb, Obj.cells kz 47) :: (w.heap.size, .cells (sC a m) 24) :: []))))) (by classical rw [List.perm_iff_count]; intro a; simp only [List.count_append, List.count_cons, List.count_nil]; omega))).mono ?_
          rintro e u4 ⟨rfl, hb⟩
          have k4 := (K3.out.grow hb).alloc (.cells (sC 0 0) 24)
          have K4 := Lib.hid ((k4.turn (row_grown _ u4.heap.size (sC z.t z.n)) (setRow_heap _ _ _ _ _ _ k4.get)).perm (k := h2 ++ (hr2 ++ ((u4.heap.size, Obj.cells (sC z.t z.n) 24) :: (u3.heap.size, .cells (vC z) 30) :: (u2.heap.size, .cells (oC y) 49) :: (u1.heap.size, .cells (vC y) 30) :: ((xb, Obj.cells (aC pp tt nn ss bb) 55) :: ((kb, Obj.cells kz 47) :: (w.heap.size, .cells (sC a m) 24) :: []))))) (by classical rw [List.perm_iff_count]; intro a; simp only [List.count_append, List.count_cons, List.count_nil]; omega))
          have g4 : (u4.alloc (.cells #[.int .i64 0, .int .u8 0] 24)).heap[u4.heap.size]? = some (.cells (sC 0 0) 24 (0, 0)) := k4.get
          clear hb k4 g3
          go_wp2_with (with_reducible refine stS (.tmp 16) (.tmp 90) u4.heap.size z.t z.n 0 0 rfl rfl g4 ?_)
          obtain ⟨AR, bR, cR, eR, hrows⟩ := isR_rows HR.out
          have HROWS := Lib.hid (fun w1 (F : Hp) (H : Holds w (hr2 ++ F) w1) => hrows w w1 F H)
          have hrd := fun w' (hb : Below ((u4.alloc (.cells #[.int .i64 0, .int .u8 0] 24)).setRow u4.heap.size (sC z.t z.n)).heap.size _ w') => hrows w w' (h2 ++ ((u4.heap.size, Obj.cells (sC z.t z.n) 24) :: (u3.heap.size, .cells (vC z) 30) :: (u2.heap.size, .cells (oC y) 49) :: (u1.heap.size, .cells (vC y) 30) :: ((xb, Obj.cells (aC pp tt nn ss bb) 55) :: ((kb, Obj.cells kz 47) :: (w.heap.size, .cells (sC a m) 24) :: [])))) ((K4.out.perm (k := hr2 ++ (h2 ++ ((u4.heap.size, Obj.cells (sC z.t z.n) 24) :: (u3.heap.size, .cells (vC z) 30) :: (u2.heap.size, .cells (oC y) 49) :: (u1.heap.size, .cells (vC y) 30) :: ((xb, Obj.cells (aC pp tt nn ss bb) 55) :: ((kb, Obj.cells kz 47) :: (w.heap.size, .cells (sC a m) 24) :: []))))) (by classical rw [List.perm_iff_count]; intro a; simp only [List.count_append, List.count_cons, List.count_nil]; omega)).grow hb)
          clear hrows
          -- (F := h2 ++ ((u4.heap.size, Obj.cells (sC z.t z.n) 24) :: (u3.heap.size, .cells (vC z) 30) :: (u2.heap.size, .cells (oC y) 49) :: (u1.heap.size, .cells (vC y) 30) :: ((xb, Obj.cells (aC pp tt nn ss bb) 55) :: ((kb, Obj.cells kz 47) :: (w.heap.size, .cells (sC a m) 24) :: [])))) HR.out (K4.out.perm (by classical rw [List.perm_iff_count]; intro a; simp only [List.count_append, List.count_cons, List.count_nil]; omega))
          obtain ⟨W4, hW4⟩ : ∃ W4, W4 = (u4.alloc (.cells #[.int .i64 0, .int .u8 0] 24)).setRow u4.heap.size (sC z.t z.n) := ⟨_, rfl⟩
          have hk4 : Holds w (h2 ++ (hr2 ++ ((u4.heap.size, Obj.cells (sC z.t z.n) 24) :: (u3.heap.size, .cells (vC z) 30) :: (u2.heap.size, .cells (oC y) 49) :: (u1.heap.size, .cells (vC y) 30) :: ((xb, Obj.cells (aC pp tt nn ss bb) 55) :: ((kb, Obj.cells kz 47) :: (w.heap.size, .cells (sC a m) 24) :: []))))) W4 := by rw [hW4]; exact K4.out
          have HRD := Lib.hid (show ∀ w', Below W4.heap.size W4 w' → w'.cell? ⟨r, 0, none⟩ = some (.slice AR M.length cR) ∧ Ro bR M w' by rw [hW4]; exact hrd)
          have K5 := Lib.hid hk4
          have HW4 := Lib.hid hW4
          clear hk4 hrd hW4 K4
          rw [← HW4.out]
          go_loopw [18, 19] (fun c j wr2 => ∃ k2 : Nat, k2 ≤ M.length ∧ j = .int .i64 k2 ∧ c = .int .i64 ((k2 - U : Nat) : Int) ∧ Below W4.heap.size W4 wr2) (fun _ j _ => M.length - (intOf j).toNat)
          case atStart => exact ⟨0, by omega, rfl, by simp, Below.refl _ _⟩
          case round =>
            obtain ⟨k2, hk2, rfl, rfl, hB⟩ := hrel
            have c0 := (HRD.out _ hB).1
            have HB2 := Lib.hid hB
            clear hB
            by_cases hk2l : k2 < M.length
            · obtain ⟨x, hx⟩ : ∃ x, M[k2]? = some x := ⟨_, List.getElem?_eq_getElem hk2l⟩
              have hui := HUI.out k2 x hx
              obtain rfl := eR (by omega)
              have HCC := Lib.hid (fun w' (hb : Below wr.heap.size wr w') => (HRD.out w' (HB2.out.trans (hb.mono HB2.out.size))).1)
              have HOO := Lib.hid (fun w' (hb : Below wr.heap.size wr w') => show w'.rangeAt bR (k2 * 20) (oC x).toList from (HRD.out w' (HB2.out.trans (hb.mono HB2.out.size))).2.at_ hx)
              have HSS := Lib.hid (fun w' (hb : Below wr.heap.size wr w') => by
                have h := (K5.out.grow (HB2.out.trans (hb.mono HB2.out.size))).perm (k := (w.heap.size, .cells (sC a m) 24) :: (h2 ++ (hr2 ++ ((u4.heap.size, Obj.cells (sC z.t z.n) 24) :: (u3.heap.size, .cells (vC z) 30) :: (u2.heap.size, .cells (oC y) 49) :: (u1.heap.size, .cells (vC y) 30) :: (xb, Obj.cells (aC pp tt nn ss bb) 55) :: (kb, .cells kz 47) :: [])))) (by classical rw [List.perm_iff_count]; intro a; simp only [List.count_append, List.count_cons, List.count_nil]; omega)
                exact (⟨h.cell 0, h.cell 1⟩ : w'.cell? ⟨w.heap.size, 0, none⟩ = some (.int .i64 a) ∧ w'.cell? ⟨w.heap.size, 1, none⟩ = some (.int .u8 m)))
              have hki : (k2 : Int) < (M.length : Int) := by omega
              clear hx
              by_cases hle : cs x.t x.n a m ≤ 0
              · have hkU : k2 < U := hui.mp hle
                have hgt : ¬ 0 < cs x.t x.n a m := by omega
                clear hui
                go_wp2_with fail
                refine region_quiet_lit (C := fun w' => Below wr.heap.size wr w') (by kernel_rfl) (by kernel_rfl) (Below.refl _ _).drew ?_
                go_big_quiet_step (exact fun _ => rfl)
                go_big_quiet_step (exact fun _ => rfl)
                go_big_quiet_step (exact fun _ => rfl)
                refine BigFrame.wpQuiet_want rfl (fun K hK => ?_)
                refine quiet_val (.slice (some ⟨bR, 0, none⟩) M.length cR) (fun w2 hw => by have q := HCC.out w2 hw; simp [go_sem, q]) (hK _ ?_)
                clear hK K
                simp only [Act.put, List.setIfInBounds_toArray, List.set_cons_zero, List.set_cons_succ]
                go_big_quiet_step (exact fun _ => rfl)
                go_big_quiet_step (exact fun _ => rfl)
                go_big_quiet_step (exact fun _ => rfl)
                refine BigFrame.wpQuiet_want rfl (fun K hK => ?_)
                refine quiet_val (.agg (sC x.t x.n)) (fun w2 hw => by obtain ⟨q0, q1, _, _⟩ := stamp_of (HOO.out w2 hw); simp [go_sem, q0, q1, sC]) (hK _ ?_)
                clear hK K
                simp only [Act.put, List.setIfInBounds_toArray, List.set_cons_zero, List.set_cons_succ]
                refine BigFrame.wpQuiet_want rfl (fun K hK => ?_)
                refine quiet_val (.agg (sC a m)) (fun w2 hw => by obtain ⟨q0, q1⟩ := HSS.out w2 hw; simp [go_sem, q0, q1, sC]) (hK _ ?_)
                clear hK K
                simp only [Act.put, List.setIfInBounds_toArray, List.set_cons_zero, List.set_cons_succ]
                refine BigFrame.wpQuiet_want rfl (fun K hK => ?_)
                refine quiet_call 9 #[.agg (sC x.t x.n), .agg (sC a m)] (.int .i64 (cs x.t x.n a m)) (fun w2 => by simp [go_sem]) (fun w2 hw => (rcmp_calls x.t x.n a m w2).mono fun e w3 hh => ⟨hh.1, hw.trans (hh.2.mono hw.size)⟩) (hK _ ?_)
                clear hK K
                simp only [Act.put, List.setIfInBounds_toArray, List.set_cons_zero, List.set_cons_succ]
                go_big_quiet_step (exact fun _ => rfl)
                refine wpQuiet_nil ?_
                intro w4 hw4
                have HB3 := Lib.hid (HB2.out.trans (hw4.mono HB2.out.size))
                clear hw4
                go_wp2_with fail
                go_roundw
                case rel => exact ⟨k2 + 1, by omega, by go_num, by rw [show k2 + 1 - U = k2 - U by omega], HB3.out⟩
                case measure => simp [intOf] <;> omega
              · have hkU : ¬ k2 < U := fun h => hle (hui.mpr h)
                have hgt : 0 < cs x.t x.n a m := by omega
                clear hui
                go_wp2_with fail
                refine region_quiet_lit (C := fun w' => Below wr.heap.size wr w') (by kernel_rfl) (by kernel_rfl) (Below.refl _ _).drew ?_
                go_big_quiet_step (exact fun _ => rfl)
                go_big_quiet_step (exact fun _ => rfl)
                go_big_quiet_step (exact fun _ => rfl)
                refine BigFrame.wpQuiet_want rfl (fun K hK => ?_)
                refine quiet_val (.slice (some ⟨bR, 0, none⟩) M.length cR) (fun w2 hw => by have q := HCC.out w2 hw; simp [go_sem, q]) (hK _ ?_)
                clear hK K
                simp only [Act.put, List.setIfInBounds_toArray, List.set_cons_zero, List.set_cons_succ]
                go_big_quiet_step (exact fun _ => rfl)
                go_big_quiet_step (exact fun _ => rfl)
                go_big_quiet_step (exact fun _ => rfl)
                refine BigFrame.wpQuiet_want rfl (fun K hK => ?_)
                refine quiet_val (.agg (sC x.t x.n)) (fun w2 hw => by obtain ⟨q0, q1, _, _⟩ := stamp_of (HOO.out w2 hw); simp [go_sem, q0, q1, sC]) (hK _ ?_)
                clear hK K
                simp only [Act.put, List.setIfInBounds_toArray, List.set_cons_zero, List.set_cons_succ]
                refine BigFrame.wpQuiet_want rfl (fun K hK => ?_)
                refine quiet_val (.agg (sC a m)) (fun w2 hw => by obtain ⟨q0, q1⟩ := HSS.out w2 hw; simp [go_sem, q0, q1, sC]) (hK _ ?_)
                clear hK K
                simp only [Act.put, List.setIfInBounds_toArray, List.set_cons_zero, List.set_cons_succ]
                refine BigFrame.wpQuiet_want rfl (fun K hK => ?_)
                refine quiet_call 9 #[.agg (sC x.t x.n), .agg (sC a m)] (.int .i64 (cs x.t x.n a m)) (fun w2 => by simp [go_sem]) (fun w2 hw => (rcmp_calls x.t x.n a m w2).mono fun e w3 hh => ⟨hh.1, hw.trans (hh.2.mono hw.size)⟩) (hK _ ?_)
                clear hK K
                simp only [Act.put, List.setIfInBounds_toArray, List.set_cons_zero, List.set_cons_succ]
                go_big_quiet_step (exact fun _ => rfl)
                refine wpQuiet_nil ?_
                intro w4 hw4
                have HB3 := Lib.hid (HB2.out.trans (hw4.mono HB2.out.size))
                clear hw4
                go_wp2_with fail
                go_roundw
                case rel => exact ⟨k2 + 1, by omega, by go_num, by go_num, HB3.out⟩
                case measure => simp [intOf] <;> omega
            · obtain rfl : k2 = M.length := by omega
              have hsi : ((M.length - U : Nat) : Int) = (M.length : Int) - (U : Int) := by omega
              rw [hsi]
              have K6 := Lib.hid (K5.out.grow HB2.out)
              clear hsi
              go_wp2_with fail
              have HRH := Lib.hid (fun w1 (F : Hp) (H : Holds w (hr2 ++ F) w1) => HROWS.out w1 F H)
              refine wp_region_own 47 (fun k => match k with | 40 => [39] | 41 => [40] | 42 => [41] | 44 => [42] | _ => []) (by kernel_rfl) (by kernel_rfl) (by kernel_rfl) (by kernel_rfl) (Nat.le_of_ble_eq_true (by kernel_rfl)) w (fun Ls hs => hs = (h2 ++ (hr2 ++ ((u4.heap.size, Obj.cells (sC z.t z.n) 24) :: (u3.heap.size, .cells (vC z) 30) :: (u2.heap.size, .cells (oC y) 49) :: (u1.heap.size, .cells (vC y) 30) :: ((xb, Obj.cells (aC pp tt nn ss bb) 55) :: ((kb, Obj.cells kz 47) :: (w.heap.size, .cells (sC a m) 24) :: [])))))) (fun i v h => match i with | 0 => v = .bool p ∧ h = [] | 1 => v = .bool p ∧ h = [] | 2 => v = .bool false ∧ h = [] | 3 => v = .bool false ∧ h = [] | 4 => v = Value.agg (vC y) ∧ h = [] | 5 => v = Value.agg (oC y) ∧ h = [] | 6 => v = Value.agg (oC y) ∧ h = [] | 7 => v = .bool false ∧ h = [] | 8 => v = .bool false ∧ h = [] | 9 => v = .bool false ∧ h = [] | 10 => v = .bool q ∧ h = [] | 11 => v = .bool q ∧ h = [] | 12 => v = .bool false ∧ h = [] | 13 => v = .bool false ∧ h = [] | 14 => v = .bool false ∧ h = [] | 15 => v = .pointer (some ⟨u3.heap.size, 0, none⟩) ∧ h = [] | 16 => v = Value.agg (sC z.t z.n) ∧ h = [] | 17 => v = Value.agg (sC z.t z.n) ∧ h = [] | 18 => v = .bool false ∧ h = [] | 19 => v = .bool false ∧ h = [] | 20 => v = .bool false ∧ h = [] | 21 => v = .pointer (some ⟨g, 0, none⟩) ∧ h = [] | 22 => v = Value.agg (sC a m) ∧ h = [] | 23 => v = .int .i64 ((M.length : Int) - (U : Int)) ∧ h = [] | 24 => v = .int .i64 ((M.length : Int) - (U : Int)) ∧ h = [] | 25 => v = .bool false ∧ h = [] | 26 => v = .bool false ∧ h = [] | 27 => v = .bool false ∧ h = [] | 28 => v = .pointer (some ⟨g, 0, none⟩) ∧ h = [] | 29 => v = .int .i64 M.length ∧ h = [] | 30 => v = .pointer (some ⟨r, 0, none⟩) ∧ h = [] | 31 => v = .pointer (some ⟨r, 0, none⟩) ∧ h = [] | 32 => v = .pointer (some ⟨r, 0, none⟩) ∧ h = [] | 33 => v = .slice AR M.length cR ∧ h = [] | 34 => v = .int .i64 M.length ∧ h = [] | 35 => v = .bool false ∧ h = [] | 36 => v = .bool false ∧ h = [] | 37 => v = .bool false ∧ h = [] | 38 => v = .pointer (some ⟨g, 0, none⟩) ∧ h = [] | 39 => RowB 30 4 v M.length (verV M) h | 40 => RowB 49 20 v M.length (oV M) h | 41 => ∃ u, v = .agg #[u] ∧ RowB 49 20 u M.length (oV M) h | 42 => BoxR M v h | 43 => v = .pointer (some ⟨r, 0, none⟩) ∧ h = [] | 44 => v = .bool true ∧ h = [] | 45 => v = .bool false ∧ h = [] | 46 => v = .bool false ∧ h = [] | _ => True) ((h2 ++ (hr2 ++ ((u4.heap.size, Obj.cells (sC z.t z.n) 24) :: (u3.heap.size, .cells (vC z) 30) :: (u2.heap.size, .cells (oC y) 49) :: (u1.heap.size, .cells (vC y) 30) :: ((xb, Obj.cells (aC pp tt nn ss bb) 55) :: ((kb, Obj.cells kz 47) :: (w.heap.size, .cells (sC a m) 24) :: [])))))) (rfl) (K6.out.drew) ?_ ?_
              · intro i o hi ho Ls f Hf hs R w1 hI hL hd hH
                simp only [fill, List.take_succ_cons, List.take_zero, Act.put, List.setIfInBounds_toArray, List.set_cons_zero, List.set_cons_succ]
                match i, hi with
                | 0, _ =>
                  obtain rfl := Option.some.inj ho
                  clear hd ho
                  have hH : Holds w (hs ++ ([] ++ R)) w1 := hH
                  subst hI
                  unfold wpOp
                  refine Or.inl ?_
                  unfold Oper.wp
                  go_simp
                  exact OwnBy.mk _ _ _ rfl (rfl) (⟨rfl, rfl⟩) (hH)
                | 1, _ =>
                  obtain rfl := Option.some.inj ho
                  clear hd ho
                  have hH : Holds w (hs ++ ([] ++ R)) w1 := hH
                  subst hI
                  unfold wpOp
                  refine Or.inl ?_
                  unfold Oper.wp
                  go_simp
                  exact OwnBy.mk _ _ _ rfl (rfl) (⟨rfl, rfl⟩) (hH)
                | 2, _ =>
                  obtain rfl := Option.some.inj ho
                  have e0 : f 0 = .bool p := (hd ⟨0, .data⟩ (by simp) rfl).2.1
                  have e1 : f 1 = .bool p := (hd ⟨1, .data⟩ (by simp) rfl).2.1
                  clear hd ho
                  have hH : Holds w (hs ++ ([] ++ R)) w1 := hH
                  subst hI
                  unfold wpOp
                  refine Or.inl ?_
                  simp only [e0, e1]
                  unfold Oper.wp
                  go_simp
                  exact OwnBy.mk _ _ _ rfl (rfl) (⟨rfl, rfl⟩) (hH)
                | 3, _ =>
                  obtain rfl := Option.some.inj ho
                  have e2 : f 2 = .bool false := (hd ⟨2, .data⟩ (by simp) rfl).2.1
                  clear hd ho
                  have hH : Holds w (hs ++ ([] ++ R)) w1 := hH
                  subst hI
                  unfold wpOp
                  refine Or.inl ?_
                  simp only [e2]
                  unfold Oper.wp
                  go_simp
                  exact OwnBy.mk _ _ _ rfl (rfl) (⟨rfl, rfl⟩) (hH)
                | 4, _ =>
                  obtain rfl := Option.some.inj ho
                  have e3 : f 3 = .bool false := (hd ⟨3, .guard⟩ (by simp) rfl).2.1
                  clear hd ho
                  have hH : Holds w (hs ++ ([] ++ R)) w1 := hH
                  subst hI
                  unfold wpOp
                  simp only [e3]
                  refine Or.inl ?_
                  unfold Oper.wp
                  have hX : Holds w ((u1.heap.size, Obj.cells (vC y) 30) :: (h2 ++ (hr2 ++ ((u4.heap.size, Obj.cells (sC z.t z.n) 24) :: (u3.heap.size, Obj.cells (vC z) 30) :: (u2.heap.size, Obj.cells (oC y) 49) :: (xb, Obj.cells (aC pp tt nn ss bb) 55) :: (kb, Obj.cells kz 47) :: (w.heap.size, Obj.cells (sC a m) 24) :: [])) ++ R)) w1 := hH.perm (by classical rw [List.perm_iff_count]; intro a; simp only [List.count_append, List.count_cons, List.count_nil]; omega)
                  refine wpL (.tmp 10) u1.heap.size rfl rfl hX.get (ldVr hX.get) ?_
                  exact OwnBy.mk _ _ _ rfl (rfl) (⟨rfl, rfl⟩) (hH)
                | 5, _ =>
                  obtain rfl := Option.some.inj ho
                  have e4 : f 4 = Value.agg (vC y) := (hd ⟨4, .data⟩ (by simp) rfl).2.1
                  have e3 : f 3 = .bool false := (hd ⟨3, .guard⟩ (by simp) rfl).2.1
                  clear hd ho
                  have hH : Holds w (hs ++ ([] ++ R)) w1 := hH
                  subst hI
                  unfold wpOp
                  simp only [e4, e3]
                  refine Or.inl ?_
                  unfold Oper.wp
                  go_simp
                  refine (one_calls y w1).mono ?_
                  rintro e w3 ⟨rfl, hb⟩
                  exact OwnBy.mk _ _ _ rfl (rfl) (⟨rfl, rfl⟩) (hH.grow hb)
                | 6, _ =>
                  obtain rfl := Option.some.inj ho
                  have e3 : f 3 = .bool false := (hd ⟨3, .guard⟩ (by simp) rfl).2.1
                  clear hd ho
                  have hH : Holds w (hs ++ ([] ++ R)) w1 := hH
                  subst hI
                  unfold wpOp
                  simp only [e3]
                  refine Or.inl ?_
                  unfold Oper.wp
                  have hX : Holds w ((u2.heap.size, Obj.cells (oC y) 49) :: (h2 ++ (hr2 ++ ((u4.heap.size, Obj.cells (sC z.t z.n) 24) :: (u3.heap.size, Obj.cells (vC z) 30) :: (u1.heap.size, Obj.cells (vC y) 30) :: (xb, Obj.cells (aC pp tt nn ss bb) 55) :: (kb, Obj.cells kz 47) :: (w.heap.size, Obj.cells (sC a m) 24) :: [])) ++ R)) w1 := hH.perm (by classical rw [List.perm_iff_count]; intro a; simp only [List.count_append, List.count_cons, List.count_nil]; omega)
                  refine wpL (.tmp 12) u2.heap.size rfl rfl hX.get (ldOr hX.get) ?_
                  exact OwnBy.mk _ _ _ rfl (rfl) (⟨rfl, rfl⟩) (hH)
                | 7, _ =>
                  obtain rfl := Option.some.inj ho
                  have e5 : f 5 = Value.agg (oC y) := (hd ⟨5, .data⟩ (by simp) rfl).2.1
                  have e6 : f 6 = Value.agg (oC y) := (hd ⟨6, .data⟩ (by simp) rfl).2.1
                  have e3 : f 3 = .bool false := (hd ⟨3, .guard⟩ (by simp) rfl).2.1
                  clear hd ho
                  have hH : Holds w (hs ++ ([] ++ R)) w1 := hH
                  subst hI
                  unfold wpOp
                  simp only [e5, e6, e3]
                  refine Or.inl ?_
                  unfold Oper.wp
                  refine wpV (.bool false) (ne49 y w1 _ (.tmp 119) (.tmp 120) rfl rfl rfl) ?_
                  exact OwnBy.mk _ _ _ rfl (rfl) (⟨rfl, rfl⟩) (hH)
                | 8, _ =>
                  obtain rfl := Option.some.inj ho
                  have e3 : f 3 = .bool false := (hd ⟨3, .data⟩ (by simp) rfl).2.1
                  have e7 : f 7 = .bool false := (hd ⟨7, .data⟩ (by simp) rfl).2.1
                  clear hd ho
                  have hH : Holds w (hs ++ ([] ++ R)) w1 := hH
                  subst hI
                  unfold wpOp
                  refine Or.inl ?_
                  simp only [e3, e7]
                  unfold Oper.wp
                  go_simp
                  exact OwnBy.mk _ _ _ rfl (rfl) (⟨rfl, rfl⟩) (hH)
                | 9, _ =>
                  obtain rfl := Option.some.inj ho
                  have e8 : f 8 = .bool false := (hd ⟨8, .data⟩ (by simp) rfl).2.1
                  clear hd ho
                  have hH : Holds w (hs ++ ([] ++ R)) w1 := hH
                  subst hI
                  unfold wpOp
                  refine Or.inl ?_
                  simp only [e8]
                  unfold Oper.wp
                  go_simp
                  exact OwnBy.mk _ _ _ rfl (rfl) (⟨rfl, rfl⟩) (hH)
                | 10, _ =>
                  obtain rfl := Option.some.inj ho
                  have e9 : f 9 = .bool false := (hd ⟨9, .guard⟩ (by simp) rfl).2.1
                  clear hd ho
                  have hH : Holds w (hs ++ ([] ++ R)) w1 := hH
                  subst hI
                  unfold wpOp
                  simp only [e9]
                  refine Or.inl ?_
                  unfold Oper.wp
                  go_simp
                  exact OwnBy.mk _ _ _ rfl (rfl) (⟨rfl, rfl⟩) (hH)
                | 11, _ =>
                  obtain rfl := Option.some.inj ho
                  have e9 : f 9 = .bool false := (hd ⟨9, .guard⟩ (by simp) rfl).2.1
                  clear hd ho
                  have hH : Holds w (hs ++ ([] ++ R)) w1 := hH
                  subst hI
                  unfold wpOp
                  simp only [e9]
                  refine Or.inl ?_
                  unfold Oper.wp
                  go_simp
                  exact OwnBy.mk _ _ _ rfl (rfl) (⟨rfl, rfl⟩) (hH)
                | 12, _ =>
                  obtain rfl := Option.some.inj ho
                  have e10 : f 10 = .bool q := (hd ⟨10, .data⟩ (by simp) rfl).2.1
                  have e11 : f 11 = .bool q := (hd ⟨11, .data⟩ (by simp) rfl).2.1
                  have e9 : f 9 = .bool false := (hd ⟨9, .guard⟩ (by simp) rfl).2.1
                  clear hd ho
                  have hH : Holds w (hs ++ ([] ++ R)) w1 := hH
                  subst hI
                  unfold wpOp
                  simp only [e10, e11, e9]
                  refine Or.inl ?_
                  unfold Oper.wp
                  go_simp
                  exact OwnBy.mk _ _ _ rfl (rfl) (⟨rfl, rfl⟩) (hH)
                | 13, _ =>
                  obtain rfl := Option.some.inj ho
                  have e9 : f 9 = .bool false := (hd ⟨9, .data⟩ (by simp) rfl).2.1
                  have e12 : f 12 = .bool false := (hd ⟨12, .data⟩ (by simp) rfl).2.1
                  clear hd ho
                  have hH : Holds w (hs ++ ([] ++ R)) w1 := hH
                  subst hI
                  unfold wpOp
                  refine Or.inl ?_
                  simp only [e9, e12]
                  unfold Oper.wp
                  go_simp
                  exact OwnBy.mk _ _ _ rfl (rfl) (⟨rfl, rfl⟩) (hH)
                | 14, _ =>
                  obtain rfl := Option.some.inj ho
                  have e13 : f 13 = .bool false := (hd ⟨13, .data⟩ (by simp) rfl).2.1
                  clear hd ho
                  have hH : Holds w (hs ++ ([] ++ R)) w1 := hH
                  subst hI
                  unfold wpOp
                  refine Or.inl ?_
                  simp only [e13]
                  unfold Oper.wp
                  go_simp
                  exact OwnBy.mk _ _ _ rfl (rfl) (⟨rfl, rfl⟩) (hH)
                | 15, _ =>
                  obtain rfl := Option.some.inj ho
                  have e14 : f 14 = .bool false := (hd ⟨14, .guard⟩ (by simp) rfl).2.1
                  clear hd ho
                  have hH : Holds w (hs ++ ([] ++ R)) w1 := hH
                  subst hI
                  unfold wpOp
                  simp only [e14]
                  refine Or.inl ?_
                  unfold Oper.wp
                  go_simp
                  exact OwnBy.mk _ _ _ rfl (rfl) (⟨rfl, rfl⟩) (hH)
                | 16, _ =>
                  obtain rfl := Option.some.inj ho
                  have e15 : f 15 = .pointer (some ⟨u3.heap.size, 0, none⟩) := (hd ⟨15, .data⟩ (by simp) rfl).2.1
                  have e14 : f 14 = .bool false := (hd ⟨14, .guard⟩ (by simp) rfl).2.1
                  clear hd ho
                  have hH : Holds w (hs ++ ([] ++ R)) w1 := hH
                  subst hI
                  unfold wpOp
                  simp only [e15, e14]
                  refine Or.inl ?_
                  unfold Oper.wp
                  have hX : Holds w ((u3.heap.size, Obj.cells (vC z) 30) :: (h2 ++ (hr2 ++ ((u4.heap.size, Obj.cells (sC z.t z.n) 24) :: (u2.heap.size, Obj.cells (oC y) 49) :: (u1.heap.size, Obj.cells (vC y) 30) :: (xb, Obj.cells (aC pp tt nn ss bb) 55) :: (kb, Obj.cells kz 47) :: (w.heap.size, Obj.cells (sC a m) 24) :: [])) ++ R)) w1 := hH.perm (by classical rw [List.perm_iff_count]; intro a; simp only [List.count_append, List.count_cons, List.count_nil]; omega)
                  have q0 : w1.cell? ⟨u3.heap.size, 0, none⟩ = some (.int .i64 z.t) := hX.cell 0
                  have q1 : w1.cell? ⟨u3.heap.size, 1, none⟩ = some (.int .u8 z.n) := hX.cell 1
                  go_simp
                  exact OwnBy.mk _ _ _ rfl (rfl) (⟨rfl, rfl⟩) (hH)
                | 17, _ =>
                  obtain rfl := Option.some.inj ho
                  have e14 : f 14 = .bool false := (hd ⟨14, .guard⟩ (by simp) rfl).2.1
                  clear hd ho
                  have hH : Holds w (hs ++ ([] ++ R)) w1 := hH
                  subst hI
                  unfold wpOp
                  simp only [e14]
                  refine Or.inl ?_
                  unfold Oper.wp
                  have hX : Holds w ((u4.heap.size, Obj.cells (sC z.t z.n) 24) :: (h2 ++ (hr2 ++ ((u3.heap.size, Obj.cells (vC z) 30) :: (u2.heap.size, Obj.cells (oC y) 49) :: (u1.heap.size, Obj.cells (vC y) 30) :: (xb, Obj.cells (aC pp tt nn ss bb) 55) :: (kb, Obj.cells kz 47) :: (w.heap.size, Obj.cells (sC a m) 24) :: [])) ++ R)) w1 := hH.perm (by classical rw [List.perm_iff_count]; intro a; simp only [List.count_append, List.count_cons, List.count_nil]; omega)
                  refine wpL (.tmp 16) u4.heap.size rfl rfl hX.get (ldSr hX.get) ?_
                  exact OwnBy.mk _ _ _ rfl (rfl) (⟨rfl, rfl⟩) (hH)
                | 18, _ =>
                  obtain rfl := Option.some.inj ho
                  have e16 : f 16 = Value.agg (sC z.t z.n) := (hd ⟨16, .data⟩ (by simp) rfl).2.1
                  have e17 : f 17 = Value.agg (sC z.t z.n) := (hd ⟨17, .data⟩ (by simp) rfl).2.1
                  have e14 : f 14 = .bool false := (hd ⟨14, .guard⟩ (by simp) rfl).2.1
                  clear hd ho
                  have hH : Holds w (hs ++ ([] ++ R)) w1 := hH
                  subst hI
                  unfold wpOp
                  simp only [e16, e17, e14]
                  refine Or.inl ?_
                  unfold Oper.wp
                  refine wpV (.bool false) (ne24 z.t z.n w1 _ (.tmp 130) (.tmp 131) rfl rfl rfl) ?_
                  exact OwnBy.mk _ _ _ rfl (rfl) (⟨rfl, rfl⟩) (hH)
                | 19, _ =>
                  obtain rfl := Option.some.inj ho
                  have e14 : f 14 = .bool false := (hd ⟨14, .data⟩ (by simp) rfl).2.1
                  have e18 : f 18 = .bool false := (hd ⟨18, .data⟩ (by simp) rfl).2.1
                  clear hd ho
                  have hH : Holds w (hs ++ ([] ++ R)) w1 := hH
                  subst hI
                  unfold wpOp
                  refine Or.inl ?_
                  simp only [e14, e18]
                  unfold Oper.wp
                  go_simp
                  exact OwnBy.mk _ _ _ rfl (rfl) (⟨rfl, rfl⟩) (hH)
                | 20, _ =>
                  obtain rfl := Option.some.inj ho
                  have e19 : f 19 = .bool false := (hd ⟨19, .data⟩ (by simp) rfl).2.1
                  clear hd ho
                  have hH : Holds w (hs ++ ([] ++ R)) w1 := hH
                  subst hI
                  unfold wpOp
                  refine Or.inl ?_
                  simp only [e19]
                  unfold Oper.wp
                  go_simp
                  exact OwnBy.mk _ _ _ rfl (rfl) (⟨rfl, rfl⟩) (hH)
                | 21, _ =>
                  obtain rfl := Option.some.inj ho
                  have e20 : f 20 = .bool false := (hd ⟨20, .guard⟩ (by simp) rfl).2.1
                  clear hd ho
                  have hH : Holds w (hs ++ ([] ++ R)) w1 := hH
                  subst hI
                  unfold wpOp
                  simp only [e20]
                  refine Or.inl ?_
                  unfold Oper.wp
                  go_simp
                  exact OwnBy.mk _ _ _ rfl (rfl) (⟨rfl, rfl⟩) (hH)
                | 22, _ =>
                  obtain rfl := Option.some.inj ho
                  have e20 : f 20 = .bool false := (hd ⟨20, .guard⟩ (by simp) rfl).2.1
                  clear hd ho
                  have hH : Holds w (hs ++ ([] ++ R)) w1 := hH
                  subst hI
                  unfold wpOp
                  simp only [e20]
                  refine Or.inl ?_
                  unfold Oper.wp
                  have hX : Holds w ((w.heap.size, Obj.cells (sC a m) 24) :: (h2 ++ (hr2 ++ ((u4.heap.size, Obj.cells (sC z.t z.n) 24) :: (u3.heap.size, Obj.cells (vC z) 30) :: (u2.heap.size, Obj.cells (oC y) 49) :: (u1.heap.size, Obj.cells (vC y) 30) :: (xb, Obj.cells (aC pp tt nn ss bb) 55) :: (kb, Obj.cells kz 47) :: [])) ++ R)) w1 := hH.perm (by classical rw [List.perm_iff_count]; intro a; simp only [List.count_append, List.count_cons, List.count_nil]; omega)
                  refine wpL (.tmp 3) w.heap.size rfl rfl hX.get (ldSr hX.get) ?_
                  exact OwnBy.mk _ _ _ rfl (rfl) (⟨rfl, rfl⟩) (hH)
                | 23, _ =>
                  obtain rfl := Option.some.inj ho
                  have e21 : f 21 = .pointer (some ⟨g, 0, none⟩) := (hd ⟨21, .data⟩ (by simp) rfl).2.1
                  have e22 : f 22 = Value.agg (sC a m) := (hd ⟨22, .data⟩ (by simp) rfl).2.1
                  have e20 : f 20 = .bool false := (hd ⟨20, .guard⟩ (by simp) rfl).2.1
                  clear hd ho
                  have hH : Holds w (hs ++ ([] ++ R)) w1 := hH
                  subst hI
                  unfold wpOp
                  simp only [e21, e22, e20]
                  refine Or.inl ?_
                  unfold Oper.wp
                  go_simp
                  refine (HSI.out w1 _ (hH.perm (k := h2 ++ (hr2 ++ ((u4.heap.size, Obj.cells (sC z.t z.n) 24) :: (u3.heap.size, .cells (vC z) 30) :: (u2.heap.size, .cells (oC y) 49) :: (u1.heap.size, .cells (vC y) 30) :: ((xb, Obj.cells (aC pp tt nn ss bb) 55) :: ((kb, Obj.cells kz 47) :: (w.heap.size, .cells (sC a m) 24) :: []))) ++ R)) (by classical rw [List.perm_iff_count]; intro a; simp only [List.count_append, List.count_cons, List.count_nil]; omega))).mono ?_
                  rintro e w3 ⟨rfl, hb⟩
                  exact OwnBy.mk _ _ _ rfl (rfl) (⟨rfl, rfl⟩) (hH.grow hb)
                | 24, _ =>
                  obtain rfl := Option.some.inj ho
                  have e20 : f 20 = .bool false := (hd ⟨20, .guard⟩ (by simp) rfl).2.1
                  clear hd ho
                  have hH : Holds w (hs ++ ([] ++ R)) w1 := hH
                  subst hI
                  unfold wpOp
                  simp only [e20]
                  refine Or.inl ?_
                  unfold Oper.wp
                  go_simp
                  exact OwnBy.mk _ _ _ rfl (rfl) (⟨rfl, rfl⟩) (hH)
                | 25, _ =>
                  obtain rfl := Option.some.inj ho
                  have e23 : f 23 = .int .i64 ((M.length : Int) - (U : Int)) := (hd ⟨23, .data⟩ (by simp) rfl).2.1
                  have e24 : f 24 = .int .i64 ((M.length : Int) - (U : Int)) := (hd ⟨24, .data⟩ (by simp) rfl).2.1
                  have e20 : f 20 = .bool false := (hd ⟨20, .guard⟩ (by simp) rfl).2.1
                  clear hd ho
                  have hH : Holds w (hs ++ ([] ++ R)) w1 := hH
                  subst hI
                  unfold wpOp
                  simp only [e23, e24, e20]
                  refine Or.inl ?_
                  unfold Oper.wp
                  go_simp
                  exact OwnBy.mk _ _ _ rfl (rfl) (⟨rfl, rfl⟩) (hH)
                | 26, _ =>
                  obtain rfl := Option.some.inj ho
                  have e20 : f 20 = .bool false := (hd ⟨20, .data⟩ (by simp) rfl).2.1
                  have e25 : f 25 = .bool false := (hd ⟨25, .data⟩ (by simp) rfl).2.1
                  clear hd ho
                  have hH : Holds w (hs ++ ([] ++ R)) w1 := hH
                  subst hI
                  unfold wpOp
                  refine Or.inl ?_
                  simp only [e20, e25]
                  unfold Oper.wp
                  go_simp
                  exact OwnBy.mk _ _ _ rfl (rfl) (⟨rfl, rfl⟩) (hH)
                | 27, _ =>
                  obtain rfl := Option.some.inj ho
                  have e26 : f 26 = .bool false := (hd ⟨26, .data⟩ (by simp) rfl).2.1
                  clear hd ho
                  have hH : Holds w (hs ++ ([] ++ R)) w1 := hH
                  subst hI
                  unfold wpOp
                  refine Or.inl ?_
                  simp only [e26]
                  unfold Oper.wp
                  go_simp
                  exact OwnBy.mk _ _ _ rfl (rfl) (⟨rfl, rfl⟩) (hH)
                | 28, _ =>
                  obtain rfl := Option.some.inj ho
                  have e27 : f 27 = .bool false := (hd ⟨27, .guard⟩ (by simp) rfl).2.1
                  clear hd ho
                  have hH : Holds w (hs ++ ([] ++ R)) w1 := hH
                  subst hI
                  unfold wpOp
                  simp only [e27]
                  refine Or.inl ?_
                  unfold Oper.wp
                  go_simp
                  exact OwnBy.mk _ _ _ rfl (rfl) (⟨rfl, rfl⟩) (hH)
                | 29, _ =>
                  obtain rfl := Option.some.inj ho
                  have e28 : f 28 = .pointer (some ⟨g, 0, none⟩) := (hd ⟨28, .data⟩ (by simp) rfl).2.1
                  have e27 : f 27 = .bool false := (hd ⟨27, .guard⟩ (by simp) rfl).2.1
                  clear hd ho
                  have hH : Holds w (hs ++ ([] ++ R)) w1 := hH
                  subst hI
                  unfold wpOp
                  simp only [e28, e27]
                  refine Or.inl ?_
                  unfold Oper.wp
                  go_simp
                  refine (len_calls g M h2 (hr2 ++ ((u4.heap.size, Obj.cells (sC z.t z.n) 24) :: (u3.heap.size, .cells (vC z) 30) :: (u2.heap.size, .cells (oC y) 49) :: (u1.heap.size, .cells (vC y) 30) :: ((xb, Obj.cells (aC pp tt nn ss bb) 55) :: ((kb, Obj.cells kz 47) :: (w.heap.size, .cells (sC a m) 24) :: []))) ++ R) w w1 HC.out (hH.perm (by classical rw [List.perm_iff_count]; intro a; simp only [List.count_append, List.count_cons, List.count_nil]; omega))).mono ?_
                  rintro e w3 ⟨rfl, rfl⟩
                  exact OwnBy.mk _ _ _ rfl (rfl) (⟨rfl, rfl⟩) (hH)
                | 30, _ =>
                  obtain rfl := Option.some.inj ho
                  have e27 : f 27 = .bool false := (hd ⟨27, .guard⟩ (by simp) rfl).2.1
                  clear hd ho
                  have hH : Holds w (hs ++ ([] ++ R)) w1 := hH
                  subst hI
                  unfold wpOp
                  simp only [e27]
                  refine Or.inl ?_
                  unfold Oper.wp
                  go_simp
                  exact OwnBy.mk _ _ _ rfl (rfl) (⟨rfl, rfl⟩) (hH)
                | 31, _ =>
                  obtain rfl := Option.some.inj ho
                  have e30 : f 30 = .pointer (some ⟨r, 0, none⟩) := (hd ⟨30, .data⟩ (by simp) rfl).2.1
                  have e27 : f 27 = .bool false := (hd ⟨27, .guard⟩ (by simp) rfl).2.1
                  clear hd ho
                  have hH : Holds w (hs ++ ([] ++ R)) w1 := hH
                  subst hI
                  unfold wpOp
                  simp only [e30, e27]
                  refine Or.inl ?_
                  unfold Oper.wp
                  go_simp
                  exact OwnBy.mk _ _ _ rfl (rfl) (⟨rfl, rfl⟩) (hH)
                | 32, _ =>
                  obtain rfl := Option.some.inj ho
                  have e31 : f 31 = .pointer (some ⟨r, 0, none⟩) := (hd ⟨31, .data⟩ (by simp) rfl).2.1
                  have e27 : f 27 = .bool false := (hd ⟨27, .guard⟩ (by simp) rfl).2.1
                  clear hd ho
                  have hH : Holds w (hs ++ ([] ++ R)) w1 := hH
                  subst hI
                  unfold wpOp
                  simp only [e31, e27]
                  refine Or.inl ?_
                  unfold Oper.wp
                  go_simp
                  exact OwnBy.mk _ _ _ rfl (rfl) (⟨rfl, rfl⟩) (hH)
                | 33, _ =>
                  obtain rfl := Option.some.inj ho
                  have e32 : f 32 = .pointer (some ⟨r, 0, none⟩) := (hd ⟨32, .data⟩ (by simp) rfl).2.1
                  have e27 : f 27 = .bool false := (hd ⟨27, .guard⟩ (by simp) rfl).2.1
                  clear hd ho
                  have hH : Holds w (hs ++ ([] ++ R)) w1 := hH
                  subst hI
                  unfold wpOp
                  simp only [e32, e27]
                  refine Or.inl ?_
                  unfold Oper.wp
                  have q := (HRH.out w1 _ (hH.perm (k := hr2 ++ (h2 ++ ((u4.heap.size, Obj.cells (sC z.t z.n) 24) :: (u3.heap.size, .cells (vC z) 30) :: (u2.heap.size, .cells (oC y) 49) :: (u1.heap.size, .cells (vC y) 30) :: ((xb, Obj.cells (aC pp tt nn ss bb) 55) :: ((kb, Obj.cells kz 47) :: (w.heap.size, .cells (sC a m) 24) :: []))) ++ R)) (by classical rw [List.perm_iff_count]; intro a; simp only [List.count_append, List.count_cons, List.count_nil]; omega))).1
                  go_simp
                  exact OwnBy.mk _ _ _ rfl (rfl) (⟨rfl, rfl⟩) (hH)
                | 34, _ =>
                  obtain rfl := Option.some.inj ho
                  have e33 : f 33 = .slice AR M.length cR := (hd ⟨33, .data⟩ (by simp) rfl).2.1
                  have e27 : f 27 = .bool false := (hd ⟨27, .guard⟩ (by simp) rfl).2.1
                  clear hd ho
                  have hH : Holds w (hs ++ ([] ++ R)) w1 := hH
                  subst hI
                  unfold wpOp
                  simp only [e33, e27]
                  refine Or.inl ?_
                  unfold Oper.wp
                  go_simp
                  exact OwnBy.mk _ _ _ rfl (rfl) (⟨rfl, rfl⟩) (hH)
                | 35, _ =>
                  obtain rfl := Option.some.inj ho
                  have e29 : f 29 = .int .i64 M.length := (hd ⟨29, .data⟩ (by simp) rfl).2.1
                  have e34 : f 34 = .int .i64 M.length := (hd ⟨34, .data⟩ (by simp) rfl).2.1
                  have e27 : f 27 = .bool false := (hd ⟨27, .guard⟩ (by simp) rfl).2.1
                  clear hd ho
                  have hH : Holds w (hs ++ ([] ++ R)) w1 := hH
                  subst hI
                  unfold wpOp
                  simp only [e29, e34, e27]
                  refine Or.inl ?_
                  unfold Oper.wp
                  go_simp
                  exact OwnBy.mk _ _ _ rfl (rfl) (⟨rfl, rfl⟩) (hH)
                | 36, _ =>
                  obtain rfl := Option.some.inj ho
                  have e27 : f 27 = .bool false := (hd ⟨27, .data⟩ (by simp) rfl).2.1
                  have e35 : f 35 = .bool false := (hd ⟨35, .data⟩ (by simp) rfl).2.1
                  clear hd ho
                  have hH : Holds w (hs ++ ([] ++ R)) w1 := hH
                  subst hI
                  unfold wpOp
                  refine Or.inl ?_
                  simp only [e27, e35]
                  unfold Oper.wp
                  go_simp
                  exact OwnBy.mk _ _ _ rfl (rfl) (⟨rfl, rfl⟩) (hH)
                | 37, _ =>
                  obtain rfl := Option.some.inj ho
                  have e36 : f 36 = .bool false := (hd ⟨36, .data⟩ (by simp) rfl).2.1
                  clear hd ho
                  have hH : Holds w (hs ++ ([] ++ R)) w1 := hH
                  subst hI
                  unfold wpOp
                  refine Or.inl ?_
                  simp only [e36]
                  unfold Oper.wp
                  go_simp
                  exact OwnBy.mk _ _ _ rfl (rfl) (⟨rfl, rfl⟩) (hH)
                | 38, _ =>
                  obtain rfl := Option.some.inj ho
                  have e37 : f 37 = .bool false := (hd ⟨37, .guard⟩ (by simp) rfl).2.1
                  clear hd ho
                  have hH : Holds w (hs ++ ([] ++ R)) w1 := hH
                  subst hI
                  unfold wpOp
                  simp only [e37]
                  refine Or.inl ?_
                  unfold Oper.wp
                  go_simp
                  exact OwnBy.mk _ _ _ rfl (rfl) (⟨rfl, rfl⟩) (hH)
                | 39, _ =>
                  obtain rfl := Option.some.inj ho
                  have e38 : f 38 = .pointer (some ⟨g, 0, none⟩) := (hd ⟨38, .data⟩ (by simp) rfl).2.1
                  have e37 : f 37 = .bool false := (hd ⟨37, .guard⟩ (by simp) rfl).2.1
                  clear hd ho
                  have hH : Holds w (hs ++ ([] ++ R)) w1 := hH
                  subst hI
                  unfold wpOp
                  simp only [e38, e37]
                  refine Or.inl ?_
                  unfold Oper.wp
                  go_simp
                  refine (all_calls g M h2 (hr2 ++ ((u4.heap.size, Obj.cells (sC z.t z.n) 24) :: (u3.heap.size, .cells (vC z) 30) :: (u2.heap.size, .cells (oC y) 49) :: (u1.heap.size, .cells (vC y) 30) :: ((xb, Obj.cells (aC pp tt nn ss bb) 55) :: ((kb, Obj.cells kz 47) :: (w.heap.size, .cells (sC a m) 24) :: []))) ++ R) w w1 HC.out (hH.perm (by classical rw [List.perm_iff_count]; intro a; simp only [List.count_append, List.count_cons, List.count_nil]; omega))).mono ?_
                  rintro e w3 ⟨v3, rfl, hv3, hR3, hH3⟩
                  exact OwnBy.mk _ hv3 _ rfl rfl hR3 (hH3.perm (by classical rw [List.perm_iff_count]; intro a; simp only [List.count_append, List.count_cons, List.count_nil]; omega))
                | 40, _ =>
                  obtain rfl := Option.some.inj ho
                  have e39 := (hd ⟨39, .data⟩ (by simp) rfl).2
                  have e37 : f 37 = .bool false := (hd ⟨37, .guard⟩ (by simp) rfl).2.1
                  clear hd ho
                  have hH : Holds w (hs ++ ((Hf 39 ++ ([])) ++ R)) w1 := hH
                  simp only [List.append_nil, List.append_assoc] at hH
                  subst hI
                  unfold wpOp
                  simp only [e37]
                  refine Or.inl ?_
                  unfold Oper.wp
                  obtain ⟨AA, gA, cA, hfa, hAA, hra⟩ := row_rd2 e39
                  rw [hfa]
                  go_simp
                  refine (vers_calls AA gA cA M w w1 (Hf 39 ++ ((h2 ++ (hr2 ++ ((u4.heap.size, Obj.cells (sC z.t z.n) 24) :: (u3.heap.size, .cells (vC z) 30) :: (u2.heap.size, .cells (oC y) 49) :: (u1.heap.size, .cells (vC y) 30) :: ((xb, Obj.cells (aC pp tt nn ss bb) 55) :: ((kb, Obj.cells kz 47) :: (w.heap.size, .cells (sC a m) 24) :: []))))) ++ R)) hAA (by omega) (fun w2 H2 => hra w _ w2 H2) (hH.perm (by classical rw [List.perm_iff_count]; intro a; simp only [List.count_append, List.count_cons, List.count_nil]; omega))).mono ?_
                  rintro e w3 ⟨v3, rfl, hv3, hR3, hH3⟩
                  exact OwnBy.mk _ hv3 _ rfl rfl hR3 ((hH3.perm (k := Hf 39 ++ ((h2 ++ (hr2 ++ ((u4.heap.size, Obj.cells (sC z.t z.n) 24) :: (u3.heap.size, .cells (vC z) 30) :: (u2.heap.size, .cells (oC y) 49) :: (u1.heap.size, .cells (vC y) 30) :: ((xb, Obj.cells (aC pp tt nn ss bb) 55) :: ((kb, Obj.cells kz 47) :: (w.heap.size, .cells (sC a m) 24) :: []))))) ++ (hv3 ++ R))) (by classical rw [List.perm_iff_count]; intro a; simp only [List.count_append, List.count_cons, List.count_nil]; omega)).right)
                | 41, _ =>
                  obtain rfl := Option.some.inj ho
                  have e40 := (hd ⟨40, .data⟩ (by simp) rfl).2
                  have e37 : f 37 = .bool false := (hd ⟨37, .guard⟩ (by simp) rfl).2.1
                  clear hd ho
                  have hH : Holds w (hs ++ ((Hf 40 ++ ([])) ++ R)) w1 := hH
                  simp only [List.append_nil, List.append_assoc] at hH
                  subst hI
                  unfold wpOp
                  simp only [e37]
                  refine Or.inl ?_
                  unfold Oper.wp
                  obtain ⟨A40, b40, c40, hf40, _, _⟩ := ro_row e40
                  rw [hf40] at e40
                  rw [hf40]
                  go_simp
                  exact OwnBy.mk _ (Hf 40) _ rfl rfl ⟨_, rfl, e40⟩ hH
                | 42, _ =>
                  obtain rfl := Option.some.inj ho
                  have e41 := (hd ⟨41, .data⟩ (by simp) rfl).2
                  obtain ⟨u41, e41, r41⟩ := e41
                  have e37 : f 37 = .bool false := (hd ⟨37, .guard⟩ (by simp) rfl).2.1
                  clear hd ho
                  have hH : Holds w (hs ++ ((Hf 41 ++ ([])) ++ R)) w1 := hH
                  simp only [List.append_nil, List.append_assoc] at hH
                  subst hI
                  unfold wpOp
                  simp only [e41, e37]
                  refine Or.inl ?_
                  unfold Oper.wp
                  obtain ⟨A40, b40, c40, rfl, _, _⟩ := ro_row r41
                  go_simp
                  exact OwnBy.mk _ ((w1.heap.size, .cells #[.slice A40 M.length c40] 43) :: Hf 41) _ rfl rfl (BoxR.mk r41) ((hH.alloc (.cells #[.slice A40 M.length c40] 43)).perm (by classical rw [List.perm_iff_count]; intro a; simp only [List.count_append, List.count_cons, List.count_nil]; omega))
                | 43, _ =>
                  obtain rfl := Option.some.inj ho
                  have e37 : f 37 = .bool false := (hd ⟨37, .guard⟩ (by simp) rfl).2.1
                  clear hd ho
                  have hH : Holds w (hs ++ ([] ++ R)) w1 := hH
                  subst hI
                  unfold wpOp
                  simp only [e37]
                  refine Or.inl ?_
                  unfold Oper.wp
                  go_simp
                  exact OwnBy.mk _ _ _ rfl (rfl) (⟨rfl, rfl⟩) (hH)
                | 44, _ =>
                  obtain rfl := Option.some.inj ho
                  have e42 := (hd ⟨42, .data⟩ (by simp) rfl).2
                  obtain ⟨b42, u42, hq42, e42, r42, q42⟩ := e42
                  have e43 : f 43 = .pointer (some ⟨r, 0, none⟩) := (hd ⟨43, .data⟩ (by simp) rfl).2.1
                  have e37 : f 37 = .bool false := (hd ⟨37, .guard⟩ (by simp) rfl).2.1
                  clear hd ho
                  have hH : Holds w (hs ++ ((Hf 42 ++ ([])) ++ R)) w1 := hH
                  simp only [q42, List.append_nil, List.append_assoc] at hH
                  subst hI
                  unfold wpOp
                  simp only [e42, e43, e37]
                  refine Or.inl ?_
                  unfold Oper.wp
                  obtain ⟨A40, b40, c40, rfl, e40, ro40⟩ := ro_row r42
                  have hX : Holds w ((b42, .cells #[.slice A40 M.length c40] 43) :: (hq42 ++ ((h2 ++ (hr2 ++ ((u4.heap.size, Obj.cells (sC z.t z.n) 24) :: (u3.heap.size, .cells (vC z) 30) :: (u2.heap.size, .cells (oC y) 49) :: (u1.heap.size, .cells (vC y) 30) :: ((xb, Obj.cells (aC pp tt nn ss bb) 55) :: ((kb, Obj.cells kz 47) :: (w.heap.size, .cells (sC a m) 24) :: []))))) ++ R))) w1 := hH.perm (by classical rw [List.perm_iff_count]; intro a; simp only [List.count_append, List.count_cons, List.count_nil]; omega)
                  obtain ⟨hc2, hro2⟩ := HRH.out w1 _ (hH.perm (k := hr2 ++ (h2 ++ ((u4.heap.size, Obj.cells (sC z.t z.n) 24) :: (u3.heap.size, .cells (vC z) 30) :: (u2.heap.size, .cells (oC y) 49) :: (u1.heap.size, .cells (vC y) 30) :: ((xb, Obj.cells (aC pp tt nn ss bb) 55) :: ((kb, Obj.cells kz 47) :: (w.heap.size, .cells (sC a m) 24) :: []))) ++ ((b42, .cells #[.slice A40 M.length c40] 43) :: (hq42 ++ R)))) (by classical rw [List.perm_iff_count]; intro a; simp only [List.count_append, List.count_cons, List.count_nil]; omega))
                  have hro1 := ro40 w ((b42, .cells #[.slice A40 M.length c40] 43) :: ((h2 ++ (hr2 ++ ((u4.heap.size, Obj.cells (sC z.t z.n) 24) :: (u3.heap.size, .cells (vC z) 30) :: (u2.heap.size, .cells (oC y) 49) :: (u1.heap.size, .cells (vC y) 30) :: ((xb, Obj.cells (aC pp tt nn ss bb) 55) :: ((kb, Obj.cells kz 47) :: (w.heap.size, .cells (sC a m) 24) :: []))))) ++ R)) w1 (hX.perm (by classical rw [List.perm_iff_count]; intro a; simp only [List.count_append, List.count_cons, List.count_nil]; omega))
                  have hcl := same_calls b42 r b40 bR c40 cR A40 AR M w1 (hX.cell 0) hc2 e40 eR hro1 hro2 (by omega)
                  clear hc2 hro2 hro1
                  go_simp
                  refine hcl.mono ?_
                  rintro e w3 ⟨rfl, hb⟩
                  exact OwnBy.mk _ [] _ rfl rfl ⟨rfl, rfl⟩ (hX.tail.grow hb).right
                | 45, _ =>
                  obtain rfl := Option.some.inj ho
                  have e44 : f 44 = .bool true := (hd ⟨44, .data⟩ (by simp) rfl).2.1
                  have e37 : f 37 = .bool false := (hd ⟨37, .guard⟩ (by simp) rfl).2.1
                  clear hd ho
                  have hH : Holds w (hs ++ ([] ++ R)) w1 := hH
                  subst hI
                  unfold wpOp
                  simp only [e44, e37]
                  refine Or.inl ?_
                  unfold Oper.wp
                  go_simp
                  exact OwnBy.mk _ _ _ rfl (rfl) (⟨rfl, rfl⟩) (hH)
                | 46, _ =>
                  obtain rfl := Option.some.inj ho
                  have e37 : f 37 = .bool false := (hd ⟨37, .data⟩ (by simp) rfl).2.1
                  have e45 : f 45 = .bool false := (hd ⟨45, .data⟩ (by simp) rfl).2.1
                  clear hd ho
                  have hH : Holds w (hs ++ ([] ++ R)) w1 := hH
                  subst hI
                  unfold wpOp
                  refine Or.inl ?_
                  simp only [e37, e45]
                  unfold Oper.wp
                  go_simp
                  exact OwnBy.mk _ _ _ rfl (rfl) (⟨rfl, rfl⟩) (hH)
                | _ + 47, h47 => exact absurd h47 (by omega)
              · intro Ls f Hf hs w1 hI hL hV hH
                have e0 : f 0 = .bool p := (hV 0 (by decide)).1
                have e1 : f 1 = .bool p := (hV 1 (by decide)).1
                have e2 : f 2 = .bool false := (hV 2 (by decide)).1
                have e3 : f 3 = .bool false := (hV 3 (by decide)).1
                have e4 : f 4 = Value.agg (vC y) := (hV 4 (by decide)).1
                have e5 : f 5 = Value.agg (oC y) := (hV 5 (by decide)).1
                have e6 : f 6 = Value.agg (oC y) := (hV 6 (by decide)).1
                have e7 : f 7 = .bool false := (hV 7 (by decide)).1
                have e8 : f 8 = .bool false := (hV 8 (by decide)).1
                have e9 : f 9 = .bool false := (hV 9 (by decide)).1
                have e10 : f 10 = .bool q := (hV 10 (by decide)).1
                have e11 : f 11 = .bool q := (hV 11 (by decide)).1
                have e12 : f 12 = .bool false := (hV 12 (by decide)).1
                have e13 : f 13 = .bool false := (hV 13 (by decide)).1
                have e14 : f 14 = .bool false := (hV 14 (by decide)).1
                have e15 : f 15 = .pointer (some ⟨u3.heap.size, 0, none⟩) := (hV 15 (by decide)).1
                have e16 : f 16 = Value.agg (sC z.t z.n) := (hV 16 (by decide)).1
                have e17 : f 17 = Value.agg (sC z.t z.n) := (hV 17 (by decide)).1
                have e18 : f 18 = .bool false := (hV 18 (by decide)).1
                have e19 : f 19 = .bool false := (hV 19 (by decide)).1
                have e20 : f 20 = .bool false := (hV 20 (by decide)).1
                have e21 : f 21 = .pointer (some ⟨g, 0, none⟩) := (hV 21 (by decide)).1
                have e22 : f 22 = Value.agg (sC a m) := (hV 22 (by decide)).1
                have e23 : f 23 = .int .i64 ((M.length : Int) - (U : Int)) := (hV 23 (by decide)).1
                have e24 : f 24 = .int .i64 ((M.length : Int) - (U : Int)) := (hV 24 (by decide)).1
                have e25 : f 25 = .bool false := (hV 25 (by decide)).1
                have e26 : f 26 = .bool false := (hV 26 (by decide)).1
                have e27 : f 27 = .bool false := (hV 27 (by decide)).1
                have e28 : f 28 = .pointer (some ⟨g, 0, none⟩) := (hV 28 (by decide)).1
                have e29 : f 29 = .int .i64 M.length := (hV 29 (by decide)).1
                have e30 : f 30 = .pointer (some ⟨r, 0, none⟩) := (hV 30 (by decide)).1
                have e31 : f 31 = .pointer (some ⟨r, 0, none⟩) := (hV 31 (by decide)).1
                have e32 : f 32 = .pointer (some ⟨r, 0, none⟩) := (hV 32 (by decide)).1
                have e33 : f 33 = .slice AR M.length cR := (hV 33 (by decide)).1
                have e34 : f 34 = .int .i64 M.length := (hV 34 (by decide)).1
                have e35 : f 35 = .bool false := (hV 35 (by decide)).1
                have e36 : f 36 = .bool false := (hV 36 (by decide)).1
                have e37 : f 37 = .bool false := (hV 37 (by decide)).1
                have e38 : f 38 = .pointer (some ⟨g, 0, none⟩) := (hV 38 (by decide)).1
                have e39 := hV 39 (by decide)
                have e40 := hV 40 (by decide)
                have e41 := hV 41 (by decide)
                obtain ⟨u41, e41, r41⟩ := e41
                have e42 := hV 42 (by decide)
                obtain ⟨b42, u42, hq42, e42, r42, q42⟩ := e42
                have e43 : f 43 = .pointer (some ⟨r, 0, none⟩) := (hV 43 (by decide)).1
                have e44 : f 44 = .bool true := (hV 44 (by decide)).1
                have e45 : f 45 = .bool false := (hV 45 (by decide)).1
                have e46 : f 46 = .bool false := (hV 46 (by decide)).1
                clear hV
                have hH : Holds w (hs ++ []) w1 := hH
                simp only [fill, List.take_succ_cons, List.take_zero, List.drop_succ_cons, List.drop_zero, Act.put, List.setIfInBounds_toArray, List.set_cons_zero, List.set_cons_succ, e0, e1, e2, e3, e4, e5, e6, e7, e8, e9, e10, e11, e12, e13, e14, e15, e16, e17, e18, e19, e20, e21, e22, e23, e24, e25, e26, e27, e28, e29, e30, e31, e32, e33, e34, e35, e36, e37, e38, e41, e42, e43, e44, e45, e46]
                subst hI
                have HHe := Lib.hid (show Holds w (h2 ++ (hr2 ++ ((u4.heap.size, Obj.cells (sC z.t z.n) 24) :: (u3.heap.size, .cells (vC z) 30) :: (u2.heap.size, .cells (oC y) 49) :: (u1.heap.size, .cells (vC y) 30) :: ((xb, Obj.cells (aC pp tt nn ss bb) 55) :: ((kb, Obj.cells kz 47) :: (w.heap.size, .cells (sC a m) 24) :: []))))) w1 from by simpa using hH)
                clear hH hL
                go_wp2_with fail
                go_roundw
                case rel => exact ⟨k + 1, M, h2, hr2, by omega, by go_num, HC.out, HR.out, (HHe.out.perm (k := (u4.heap.size, Obj.cells (sC z.t z.n) 24) :: (u3.heap.size, .cells (vC z) 30) :: (u2.heap.size, .cells (oC y) 49) :: (u1.heap.size, .cells (vC y) 30) ::  (xb, Obj.cells (aC pp tt nn ss bb) 55) :: (h2 ++ (hr2 ++ ((kb, Obj.cells kz 47) :: (w.heap.size, .cells (sC a m) 24) :: [])))) (by classical rw [List.perm_iff_count]; intro a; simp only [List.count_append, List.count_cons, List.count_nil]; omega)).tail.tail.tail.tail.tail⟩
                case measure => simp [intOf] <;> omega
  
    · obtain rfl : k = l.length := by omega
      have hbel := Lib.hid HHr.out.below
      go_wp2_with fail
      go_ret
      exact ⟨rfl, hbel.out⟩
end Go.Proofs.Ytgkigcobaimccaa
