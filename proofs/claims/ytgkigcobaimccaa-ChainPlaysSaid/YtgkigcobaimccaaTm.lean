/- ChainTrims' walk. No condition. -/
import Derived.Test.YtgkigcobaimccaaSe
import Derived.ChangeKeysEq
namespace Go.Proofs.Ytgkigcobaimccaa
open Go.RowKit Go.Proofs.Ytgkigcobaimccaa.Sp Go.Proofs.Ytgkigcobaimccaa.K Go.Proofs.YtgkigcobaimccaaW.PrintWords
set_option linter.unusedVariables false
set_option linter.unusedSimpArgs false
def oC (x : Ver) : Array Value := #[.int .u8 0, .int .u8 0, .int .u8 0, .int .u8 0, .int .u8 0, .int .u8 0, .int .u8 0, .int .u8 0, .int .u8 0, .int .u8 0, .int .u8 0, .int .u8 0, .int .u8 0, .int .u8 0, .int .u8 0, .int .u8 0, .int .i64 x.t, .int .u8 x.n, .string x.val, .bool x.gone]
theorem info49 (x : Ver) : (Try.prog.info? 49).map (·.size) = some (oC x).size := by kernel_rfl
theorem stO {ops : Array Oper} {rest : List Oper} {dst : Option Tmp} {ty : TypeId} {pos : String} {af : Array Edge} {a : Act} {w : World} {Q : Exit → Act → World → Prop} (x y : Operand) (g : Nat) (v v' : Ver)
    (hx : a.eval x = .pointer (some ⟨g, 0, none⟩)) (hy : a.eval y = .agg (oC v)) (hg : w.heap[g]? = some (.cells (oC v') 49 (0, 0)))
    (hh : wpList Try.prog ops Q rest (a.put dst undef) (w.setRow g (oC v))) : wpList Try.prog ops Q ({ dst := dst, op := .store 49 x y, type := ty, pos := pos, after := af, guard := none } :: rest) a w :=
  wpList_store_row rfl 49 x y rfl g (oC v) hx hy 49 (oC v') hg (info49 v) rfl (by simp [oC, Value.oneCell']) hh
theorem one_calls (x : Ver) (w : World) : Calls Try.prog 19 #[.agg (vC x)] w fun e w' => e = .returned (.agg (oC x)) ∧ Below w.heap.size w w' := by
  have H0 := (Holds.nil w).alloc2 (.cells (vC x) 30) (.cells (oC ⟨0, 0, ⟨#[]⟩, false⟩) 49)
  have q0 : ((w.alloc (.cells (vC x) 30)).alloc (.cells #[.int .u8 0, .int .u8 0, .int .u8 0, .int .u8 0, .int .u8 0, .int .u8 0, .int .u8 0, .int .u8 0, .int .u8 0, .int .u8 0, .int .u8 0, .int .u8 0, .int .u8 0, .int .u8 0, .int .u8 0, .int .u8 0, .int .i64 0, .int .u8 0, .string ⟨#[]⟩, .bool false] 49)).cell? ⟨w.heap.size, 0, none⟩ = some (.int .i64 x.t) := H0.tail.cell 0
  have q1 : ((w.alloc (.cells (vC x) 30)).alloc (.cells #[.int .u8 0, .int .u8 0, .int .u8 0, .int .u8 0, .int .u8 0, .int .u8 0, .int .u8 0, .int .u8 0, .int .u8 0, .int .u8 0, .int .u8 0, .int .u8 0, .int .u8 0, .int .u8 0, .int .u8 0, .int .u8 0, .int .i64 0, .int .u8 0, .string ⟨#[]⟩, .bool false] 49)).cell? ⟨w.heap.size, 1, none⟩ = some (.int .u8 x.n) := H0.tail.cell 1
  have q2 : ((w.alloc (.cells (vC x) 30)).alloc (.cells #[.int .u8 0, .int .u8 0, .int .u8 0, .int .u8 0, .int .u8 0, .int .u8 0, .int .u8 0, .int .u8 0, .int .u8 0, .int .u8 0, .int .u8 0, .int .u8 0, .int .u8 0, .int .u8 0, .int .u8 0, .int .u8 0, .int .i64 0, .int .u8 0, .string ⟨#[]⟩, .bool false] 49)).cell? ⟨w.heap.size, 2, none⟩ = some (.string x.val) := H0.tail.cell 2
  have q3 : ((w.alloc (.cells (vC x) 30)).alloc (.cells #[.int .u8 0, .int .u8 0, .int .u8 0, .int .u8 0, .int .u8 0, .int .u8 0, .int .u8 0, .int .u8 0, .int .u8 0, .int .u8 0, .int .u8 0, .int .u8 0, .int .u8 0, .int .u8 0, .int .u8 0, .int .u8 0, .int .i64 0, .int .u8 0, .string ⟨#[]⟩, .bool false] 49)).cell? ⟨w.heap.size, 3, none⟩ = some (.bool x.gone) := H0.tail.cell 3
  have g1 : ((w.alloc (.cells (vC x) 30)).alloc (.cells #[.int .u8 0, .int .u8 0, .int .u8 0, .int .u8 0, .int .u8 0, .int .u8 0, .int .u8 0, .int .u8 0, .int .u8 0, .int .u8 0, .int .u8 0, .int .u8 0, .int .u8 0, .int .u8 0, .int .u8 0, .int .u8 0, .int .i64 0, .int .u8 0, .string ⟨#[]⟩, .bool false] 49)).heap[w.heap.size + 1]? = some (.cells (oC ⟨0, 0, ⟨#[]⟩, false⟩) 49 (0, 0)) := H0.get
  have HB := Lib.hid (H0.below.grown (row_grown _ (w.heap.size + 1) (oC x)) H0.below.size (by rintro k hk; injection hk with hk; omega))
  have G2 := Lib.hid (show (((w.alloc (.cells (vC x) 30)).alloc (.cells #[.int .u8 0, .int .u8 0, .int .u8 0, .int .u8 0, .int .u8 0, .int .u8 0, .int .u8 0, .int .u8 0, .int .u8 0, .int .u8 0, .int .u8 0, .int .u8 0, .int .u8 0, .int .u8 0, .int .u8 0, .int .u8 0, .int .i64 0, .int .u8 0, .string ⟨#[]⟩, .bool false] 49)).setRow (w.heap.size + 1) (oC x)).heap[w.heap.size + 1]? = some (.cells (oC x) 49 (0, 0)) from setRow_heap _ _ _ _ _ _ g1)
  clear H0
  go_enter Try.func19, Try.ntmps19
  go_wp2_with (with_reducible refine stO (.tmp 2) (.tmp 9) (w.heap.size + 1) x ⟨0, 0, ⟨#[]⟩, false⟩ rfl rfl g1 ?_)
  exact bodyPost_ret (v := .agg (oC x)) (results_cell_row Try.results19 _ _ (w.heap.size + 1) 49 _ (0, 0) _ rfl G2.out Try.underlying49 rfl (info49 x)) rfl ⟨rfl, HB.out⟩
theorem info5b : ∃ i, Try.prog.info? 5 = some i := by
  have h : (Try.prog.info? 5).isSome = true := by kernel_rfl
  exact Option.isSome_iff_exists.mp h
def kz : Array Value := #[.int .u8 0, .int .u8 0, .int .u8 0, .int .u8 0, .int .u8 0, .int .u8 0, .int .u8 0, .int .u8 0, .int .u8 0, .int .u8 0, .int .u8 0, .int .u8 0, .int .u8 0, .int .u8 0, .int .u8 0, .int .u8 0]
theorem eq_key (w : World) : (Op.equalIn 9999 47 (.agg kz) (.agg kz)).run Try.prog w = .ok true w := by
  obtain ⟨i, hi⟩ := info5b
  rw [show (9999 : Nat) = 9998 + 1 from rfl, run_equalIn_array w 9998 kz kz Try.underlying47 hi]
  kernel_rfl
theorem eq_same (x : Ver) (w : World) : (binOp .eql 49 (.agg (oC x)) (.agg (oC x))).run Try.prog w = .ok (.bool true) w := by
  have h := eq_key w
  unfold kz at h
  simp [go_sem, oC, h]
theorem eq_gone (x : Ver) (hx : x.gone = true) (w : World) : (binOp .eql 49 (.agg (oC x)) (.agg (oC v0))).run Try.prog w = .ok (.bool false) w := by
  have h := eq_key w
  unfold kz at h
  simp [go_sem, oC, v0, hx, h]
theorem eq_opA (x : Ver) (w : World) : (execOp (fun o => match o with | .tmp 74 => .agg (oC x) | .tmp 76 => .agg (oC x) | _ => undef) { dst := some 77, op := .binOp .eql 49 (.tmp 74) (.tmp 76) 49, type := 4, pos := "", after := #[], guard := none }).run Try.prog w = .ok (.value (.bool true)) w := by
  have h := eq_key w
  unfold kz at h
  simp [go_sem, oC, h]
theorem eq_opB (x : Ver) (hx : x.gone = true) (w : World) : (execOp (fun o => match o with | .tmp 74 => .agg (oC x) | .tmp 76 => .agg (oC v0) | _ => undef) { dst := some 77, op := .binOp .eql 49 (.tmp 74) (.tmp 76) 49, type := 4, pos := "", after := #[], guard := none }).run Try.prog w = .ok (.value (.bool false)) w := by
  have h := eq_key w
  unfold kz at h
  simp [go_sem, oC, v0, hx, h]
def RelT (w : World) (g N : Nat) (a m b n : Int) (i : Value) (wr : World) : Prop :=
  ∃ (k : Nat) (L : List Ver) (h : Hp), k ≤ N ∧ i = .int .i64 k ∧ IsC g L h ∧ Holds w (h ++ ([] ++ F2 w a m b n)) wr
set_option maxRecDepth 100000 in
set_option maxHeartbeats 8000000 in
theorem trims_walk (A : Option Addr) (cap : Nat) (l : List S30) (a m b n : Int) (w : World) (hcap : l.length ≤ cap) (hl : Kd.C k30 w A l.length l) :
    Calls Try.prog 5 #[.slice A l.length cap, .agg (sC a m), .agg (sC b n)] w fun e w' => e = .returned (.bool true) ∧ Below w.heap.size w w' := by
  have hF := (Holds.nil w).alloc2 (.cells (sC a m) 24) (.cells (sC b n) 24)
  have HF := Lib.hid (show Holds w ([] ++ ([] ++ F2 w a m b n)) ((w.alloc (.cells (sC a m) 24)).alloc (.cells (sC b n) 24)) from hF)
  clear hF
  by_cases c1 : (40 : Int) < (l.length : Int)
  · go_enter Try.func5, Try.ntmps5
    go_wp2_with fail
    refine (awake_calls _).mono ?_
    rintro e w1 ⟨rfl, hb⟩
    have HB := Lib.hid (HF.out.grow hb).below
    clear hb
    go_wp2_with fail
    go_ret
    exact ⟨rfl, HB.out⟩
  go_enter Try.func5, Try.ntmps5
  go_wp2_with fail
  refine (awake_calls _).mono ?_
  rintro e w1 ⟨rfl, hb⟩
  have HHb := Lib.hid (HF.out.grow hb)
  clear hb
  go_wp2_with fail
  refine (new_calls w _ _ HHb.out).mono ?_
  rintro e w3 ⟨g, rfl, h0, hI, hH⟩
  have HI0 := Lib.hid hI; have HH0 := Lib.hid hH
  clear hI hH
  go_wp2_with fail
  go_loopw [8] (fun i wr => RelT w g l.length a m b n i wr) (fun i _ => l.length - (intOf i).toNat)
  case atStart => exact ⟨0, [], h0, by omega, rfl, HI0.out, HH0.out⟩
  case round =>
    obtain ⟨k, L, h, hk, rfl, hI, hH⟩ := hrel
    have HI1 := Lib.hid hI; have HH1 := Lib.hid hH
    clear hI hH HI0 HH0
    by_cases hlt : k < l.length
    · obtain ⟨ad, rfl, q0, q1, q2, q3⟩ := at_T30 (Kd.C_below hl HH1.out.below) (k : Int) (by omega) (by omega)
      generalize rd_T30 l (k : Int) = x at q0 q1 q2 q3
      rw [Int.toNat_natCast] at q0 q1 q2 q3
      by_cases hs : 300 < (x.f1.size : Int)
      · go_wp2_with fail
        go_ret
        exact ⟨rfl, HH1.out.below⟩
      go_wp2_with fail
      refine (put_calls g L (toV x) h _ w wr HI1.out HH1.out).mono ?_
      rintro e x2 ⟨he, h3, hI, hH⟩
      subst he
      have HI3 := Lib.hid hI; have HH3 := Lib.hid hH
      clear hI hH q0 q1 q2 q3
      go_wp2_with fail
      go_roundw
      case rel => exact ⟨k + 1, _, h3, by omega, by go_num, HI3.out, HH3.out⟩
      case measure => simp [intOf]; omega
    · obtain rfl : k = l.length := by omega
      obtain ⟨hri, hLl⟩ : Rise L ∧ L.length ≤ 50 := by obtain ⟨_, _, _, _, h1, h2⟩ := HI1.out; exact ⟨h1, h2⟩
      obtain ⟨x, hx⟩ : ∃ x, x = (verAt L b n).getD v0 := ⟨_, rfl⟩
      obtain ⟨p, hp⟩ : ∃ p, p = (verAt L b n).isSome := ⟨_, rfl⟩
      obtain ⟨K, hK⟩ : ∃ K, K = trimN L a m := ⟨_, rfl⟩
      obtain ⟨y, hy⟩ : ∃ y, y = (verAt (L.drop K) b n).getD v0 := ⟨_, rfl⟩
      obtain ⟨q, hq⟩ : ∃ q, q = (verAt (L.drop K) b n).isSome := ⟨_, rfl⟩
      have hKl : K ≤ L.length := by have := trim_le L a m; have := until_le L a m; omega
      have HTA := Lib.hid (show trimN (L.drop K) a m = 0 by rw [hK]; exact trim_again hri a m)
      have HSE := Lib.hid (fun hab : cs a m b n ≤ 0 => trim_seen hri (b := b) (n := n) hab)
      have HX := Lib.hid hx; have HP := Lib.hid hp; have HY := Lib.hid hy; have HQ := Lib.hid hq; have HK := Lib.hid hK
      have hD : ((L.length - K : Nat) : Int) = (L.length : Int) - (K : Int) := by omega
      have hDw : IntKind.i64.wrap ((L.length : Int) - (K : Int)) = (L.length : Int) - (K : Int) := by rw [IntKind.wrap_i64]; omega
      clear hx hp hK hy hq hri
      have HHE0 := HH1
      obtain ⟨_, ⟨r0, r1⟩⟩ := F2.at_ HHE0.out
      go_wp2_with fail
      refine (at_calls g L b n h _ w _ HI1.out HHE0.out).mono ?_
      rintro e u1 ⟨he, hb⟩
      rw [← HX.out, ← HP.out] at he
      subst he
      have hH := HHE0.out.grow hb
      have hH2 := hH.alloc (.cells #[.int .i64 0, .int .u8 0, .string ⟨#[]⟩, .bool false] 30)
      have g1 : (u1.alloc (.cells #[.int .i64 0, .int .u8 0, .string ⟨#[]⟩, .bool false] 30)).heap[u1.heap.size]? = some (.cells (vC v0) 30 (0, 0)) := hH2.get
      have hH3 := hH2.turn (row_grown _ u1.heap.size (vC x)) (setRow_heap _ _ _ _ _ _ g1)
      have hH4 := hH3.perm (k := h ++ (((u1.heap.size, .cells (vC x) 30) :: []) ++ F2 w a m b n)) (by classical rw [List.perm_iff_count]; intro a; simp only [List.count_append, List.count_cons, List.count_nil]; omega)
      have HHE1 := Lib.hid hH4
      clear hb hH hH2 hH3 hH4
      clear r0 r1
      go_wp2_with (with_reducible refine stV (.tmp 9) (.tmp 44) u1.heap.size x v0 rfl rfl g1 ?_)
      refine (len_calls g L h _ w _ HI1.out HHE1.out).mono ?_
      rintro e u2 ⟨rfl, rfl⟩
      obtain ⟨⟨r0, r1⟩, _⟩ := F2.at_ HHE1.out
      go_wp2_with fail
      refine (trim_calls g L a m h _ w _ HI1.out HHE1.out).mono ?_
      rintro e u2 ⟨he, h2, hI, hH⟩
      rw [← HK.out] at he hI
      subst he
      have HI2 := Lib.hid hI; have HHE1 := Lib.hid hH
      obtain ⟨_, ⟨r2, r3⟩⟩ := F2.at_ HHE1.out
      clear hI hH r0 r1 g1
      go_wp2_with fail
      refine (at_calls g (L.drop K) b n h2 _ w _ HI2.out HHE1.out).mono ?_
      rintro e u3 ⟨he, hb⟩
      rw [← HY.out, ← HQ.out] at he
      subst he
      have hH := HHE1.out.grow hb
      have hH2 := hH.alloc (.cells #[.int .i64 0, .int .u8 0, .string ⟨#[]⟩, .bool false] 30)
      have g3 : (u3.alloc (.cells #[.int .i64 0, .int .u8 0, .string ⟨#[]⟩, .bool false] 30)).heap[u3.heap.size]? = some (.cells (vC v0) 30 (0, 0)) := hH2.get
      have hH3 := hH2.turn (row_grown _ u3.heap.size (vC y)) (setRow_heap _ _ _ _ _ _ g3)
      have hH4 := hH3.perm (k := h2 ++ (((u3.heap.size, .cells (vC y) 30) :: [(u1.heap.size, .cells (vC x) 30)]) ++ F2 w a m b n)) (by classical rw [List.perm_iff_count]; intro a; simp only [List.count_append, List.count_cons, List.count_nil]; omega)
      have HHE2 := Lib.hid hH4
      clear hb hH hH2 hH3 hH4
      clear r2 r3
      go_wp2_with (with_reducible refine stV (.tmp 13) (.tmp 55) u3.heap.size y v0 rfl rfl g3 ?_)
      have HLN := len_calls g (L.drop K) h2 _ w _ HI2.out HHE2.out
      rw [List.length_drop] at HLN
      refine HLN.mono ?_
      rintro e u4 ⟨rfl, rfl⟩
      obtain ⟨⟨r0, r1⟩, _⟩ := F2.at_ HHE2.out
      clear HLN
      go_wp2_with fail
      refine (trim_calls g (L.drop K) a m h2 _ w _ HI2.out HHE2.out).mono ?_
      rintro e u5 ⟨he, h5, hI, hH⟩
      rw [HTA.out] at he
      subst he
      have HHE3 := Lib.hid hH
      obtain ⟨⟨r2, r3⟩, ⟨r4, r5⟩⟩ := F2.at_ HHE3.out
      obtain ⟨z, hz⟩ : ∃ z, cs b n a m = z := ⟨_, rfl⟩
      have HZ := Lib.hid hz
      have HCC := Lib.hid (show Calls Try.prog 9 #[.agg (sC b n), .agg (sC a m)] u5 _ from rcmp_calls b n a m u5)
      rw [hz] at HCC
      clear hI hH r0 r1 g3 hz
      by_cases hz0 : z < 0
      · go_wp2_with fail
        refine HCC.out.mono ?_
        rintro e u6 ⟨rfl, hb⟩
        have HB := Lib.hid (HHE3.out.grow hb).below
        clear hb r2 r3 r4 r5
        go_wp2_with fail
        go_ret
        exact ⟨rfl, HB.out⟩
      · have hab : cs a m b n ≤ 0 := by
          have hz1 := HZ.out
          have h1 := cs_lt b n a m
          rw [hz1] at h1
          rw [cs_le]
          have h2 : ¬ (b < a ∨ (b = a ∧ n < m)) := fun h => hz0 (h1.mpr h)
          omega
        have hse := HSE.out hab
        rw [← HK.out] at hse
        rcases hse with hse | ⟨hse, y0, hy0, hgone⟩
        · have hyx : y = x := by rw [HY.out, HX.out, hse]
          have hqp : q = p := by rw [HQ.out, HP.out, hse]
          subst hyx
          subst hqp
          clear hse hab
          go_wp2_with fail
          refine HCC.out.mono ?_
          rintro e u6 ⟨rfl, hb⟩
          have HHE4 := Lib.hid (HHE3.out.grow hb)
          clear hb r2 r3 r4 r5
          have hdz : decide (z < 0) = false := decide_eq_false (by omega)
          go_wp2_with fail
          have HYB := Lib.hid (fun w' (hb : Below u6.heap.size u6 w') => show w'.cell? ⟨u3.heap.size, 0, none⟩ = some (.int .i64 y.t) ∧ w'.cell? ⟨u3.heap.size, 1, none⟩ = some (.int .u8 y.n) ∧ w'.cell? ⟨u3.heap.size, 2, none⟩ = some (.string y.val) ∧ w'.cell? ⟨u3.heap.size, 3, none⟩ = some (.bool y.gone) by
            have h1 : Holds w ((u3.heap.size, .cells (vC y) 30) :: _) w' := (HHE4.out.grow hb).right
            exact ⟨h1.cell 0, h1.cell 1, h1.cell 2, h1.cell 3⟩)
          have HXB := Lib.hid (fun w' (hb : Below u6.heap.size u6 w') => show w'.cell? ⟨u1.heap.size, 0, none⟩ = some (.int .i64 y.t) ∧ w'.cell? ⟨u1.heap.size, 1, none⟩ = some (.int .u8 y.n) ∧ w'.cell? ⟨u1.heap.size, 2, none⟩ = some (.string y.val) ∧ w'.cell? ⟨u1.heap.size, 3, none⟩ = some (.bool y.gone) by
            have h1 : Holds w ((u1.heap.size, .cells (vC y) 30) :: _) w' := (HHE4.out.grow hb).right.tail
            exact ⟨h1.cell 0, h1.cell 1, h1.cell 2, h1.cell 3⟩)
          refine region_quiet_lit (C := fun w' => Below u6.heap.size u6 w') (by kernel_rfl) (by kernel_rfl) (Below.refl _ _).drew ?_
          refine BigFrame.wpQuiet_want rfl (fun K hK => ?_)
          refine quiet_val (.agg (vC y)) (fun w2 hw => by obtain ⟨p0, p1, p2, p3⟩ := HXB.out w2 hw; simp [go_sem, p0, p1, p2, p3, vC, sC]) (hK _ ?_)
          clear hK K
          simp only [Act.put, List.setIfInBounds_toArray, List.set_cons_zero, List.set_cons_succ]
          refine BigFrame.wpQuiet_want rfl (fun K hK => ?_)
          refine quiet_call 19 #[.agg (vC y)] (.agg (oC y)) (fun w2 => by simp [go_sem]) (fun w2 hw => (one_calls y w2).mono fun e w3 hh => ⟨hh.1, hw.trans (hh.2.mono hw.size)⟩) (hK _ ?_)
          clear hK K
          simp only [Act.put, List.setIfInBounds_toArray, List.set_cons_zero, List.set_cons_succ]
          refine BigFrame.wpQuiet_want rfl (fun K hK => ?_)
          refine quiet_val (.agg (vC y)) (fun w2 hw => by obtain ⟨p0, p1, p2, p3⟩ := HYB.out w2 hw; simp [go_sem, p0, p1, p2, p3, vC, sC]) (hK _ ?_)
          clear hK K
          simp only [Act.put, List.setIfInBounds_toArray, List.set_cons_zero, List.set_cons_succ]
          refine BigFrame.wpQuiet_want rfl (fun K hK => ?_)
          refine quiet_call 19 #[.agg (vC y)] (.agg (oC y)) (fun w2 => by simp [go_sem]) (fun w2 hw => (one_calls y w2).mono fun e w3 hh => ⟨hh.1, hw.trans (hh.2.mono hw.size)⟩) (hK _ ?_)
          clear hK K
          simp only [Act.put, List.setIfInBounds_toArray, List.set_cons_zero, List.set_cons_succ]
          refine BigFrame.wpQuiet_want rfl (fun K hK => ?_)
          refine quiet_val (.bool true) (fun w2 hw => eq_opA y w2) (hK _ ?_)
          clear hK K
          simp only [Act.put, List.setIfInBounds_toArray, List.set_cons_zero, List.set_cons_succ]
          go_big_quiet_step (exact fun _ => rfl)
          go_big_quiet_step (exact fun _ => rfl)
          go_big_quiet_step (exact fun _ => rfl)
          go_big_quiet_step (exact fun _ => rfl)
          go_big_quiet_step (exact fun _ => rfl)
          go_big_quiet_step (exact fun _ => rfl)
          go_big_quiet_skip
          go_big_quiet_skip
          go_big_quiet_skip
          go_big_quiet_skip
          go_big_quiet_skip
          go_big_quiet_skip
          go_big_quiet_skip
          go_big_quiet_skip
          go_big_quiet_skip
          go_big_quiet_step (exact fun _ => rfl)
          go_big_quiet_step (exact fun _ => rfl)
          refine wpQuiet_nil ?_
          intro w5 hw5
          have HB := Lib.hid (HHE4.out.grow hw5).below
          clear hw5
          go_wp2_with fail
          go_ret
          exact ⟨rfl, HB.out⟩
        · have hyv : y = v0 := by rw [HY.out, hse]; rfl
          have hqf : q = false := by rw [HQ.out, hse]; rfl
          have hxg : x.gone = true := by rw [HX.out, hy0]; exact hgone
          have hpt : p = true := by rw [HP.out, hy0]; rfl
          subst hyv
          subst hqf
          subst hpt
          clear hse hab hy0 hgone
          go_wp2_with fail
          refine HCC.out.mono ?_
          rintro e u6 ⟨rfl, hb⟩
          have HHE4 := Lib.hid (HHE3.out.grow hb)
          clear hb r2 r3 r4 r5
          have hdz : decide (z < 0) = false := decide_eq_false (by omega)
          go_wp2_with fail
          have HYB := Lib.hid (fun w' (hb : Below u6.heap.size u6 w') => show w'.cell? ⟨u3.heap.size, 0, none⟩ = some (.int .i64 v0.t) ∧ w'.cell? ⟨u3.heap.size, 1, none⟩ = some (.int .u8 v0.n) ∧ w'.cell? ⟨u3.heap.size, 2, none⟩ = some (.string v0.val) ∧ w'.cell? ⟨u3.heap.size, 3, none⟩ = some (.bool v0.gone) by
            have h1 : Holds w ((u3.heap.size, .cells (vC v0) 30) :: _) w' := (HHE4.out.grow hb).right
            exact ⟨h1.cell 0, h1.cell 1, h1.cell 2, h1.cell 3⟩)
          have HXB := Lib.hid (fun w' (hb : Below u6.heap.size u6 w') => show w'.cell? ⟨u1.heap.size, 0, none⟩ = some (.int .i64 x.t) ∧ w'.cell? ⟨u1.heap.size, 1, none⟩ = some (.int .u8 x.n) ∧ w'.cell? ⟨u1.heap.size, 2, none⟩ = some (.string x.val) ∧ w'.cell? ⟨u1.heap.size, 3, none⟩ = some (.bool x.gone) by
            have h1 : Holds w ((u1.heap.size, .cells (vC x) 30) :: _) w' := (HHE4.out.grow hb).right.tail
            exact ⟨h1.cell 0, h1.cell 1, h1.cell 2, h1.cell 3⟩)
          refine region_quiet_lit (C := fun w' => Below u6.heap.size u6 w') (by kernel_rfl) (by kernel_rfl) (Below.refl _ _).drew ?_
          refine BigFrame.wpQuiet_want rfl (fun K hK => ?_)
          refine quiet_val (.agg (vC x)) (fun w2 hw => by obtain ⟨p0, p1, p2, p3⟩ := HXB.out w2 hw; simp [go_sem, p0, p1, p2, p3, vC, sC]) (hK _ ?_)
          clear hK K
          simp only [Act.put, List.setIfInBounds_toArray, List.set_cons_zero, List.set_cons_succ]
          refine BigFrame.wpQuiet_want rfl (fun K hK => ?_)
          refine quiet_call 19 #[.agg (vC x)] (.agg (oC x)) (fun w2 => by simp [go_sem]) (fun w2 hw => (one_calls x w2).mono fun e w3 hh => ⟨hh.1, hw.trans (hh.2.mono hw.size)⟩) (hK _ ?_)
          clear hK K
          simp only [Act.put, List.setIfInBounds_toArray, List.set_cons_zero, List.set_cons_succ]
          refine BigFrame.wpQuiet_want rfl (fun K hK => ?_)
          refine quiet_val (.agg (vC v0)) (fun w2 hw => by obtain ⟨p0, p1, p2, p3⟩ := HYB.out w2 hw; simp [go_sem, p0, p1, p2, p3, vC, sC]) (hK _ ?_)
          clear hK K
          simp only [Act.put, List.setIfInBounds_toArray, List.set_cons_zero, List.set_cons_succ]
          refine BigFrame.wpQuiet_want rfl (fun K hK => ?_)
          refine quiet_call 19 #[.agg (vC v0)] (.agg (oC v0)) (fun w2 => by simp [go_sem]) (fun w2 hw => (one_calls v0 w2).mono fun e w3 hh => ⟨hh.1, hw.trans (hh.2.mono hw.size)⟩) (hK _ ?_)
          clear hK K
          simp only [Act.put, List.setIfInBounds_toArray, List.set_cons_zero, List.set_cons_succ]
          refine BigFrame.wpQuiet_want rfl (fun K hK => ?_)
          refine quiet_val (.bool false) (fun w2 hw => eq_opB x hxg w2) (hK _ ?_)
          clear hK K
          simp only [Act.put, List.setIfInBounds_toArray, List.set_cons_zero, List.set_cons_succ]
          go_big_quiet_step (exact fun _ => rfl)
          go_big_quiet_skip
          go_big_quiet_skip
          go_big_quiet_skip
          go_big_quiet_step (exact fun _ => rfl)
          go_big_quiet_step (exact fun _ => rfl)
          go_big_quiet_step (exact fun _ => rfl)
          go_big_quiet_step (exact fun _ => rfl)
          go_big_quiet_step (exact fun _ => rfl)
          go_big_quiet_step (exact fun _ => rfl)
          go_big_quiet_step (exact fun _ => rfl)
          go_big_quiet_step (exact fun _ => rfl)
          go_big_quiet_step (exact fun _ => rfl)
          refine BigFrame.wpQuiet_want rfl (fun K hK => ?_)
          refine quiet_val (.bool true) (fun w2 hw => by obtain ⟨_, _, _, p3⟩ := HXB.out w2 hw; rw [hxg] at p3; simp [go_sem, p3]) (hK _ ?_)
          clear hK K
          simp only [Act.put, List.setIfInBounds_toArray, List.set_cons_zero, List.set_cons_succ]
          go_big_quiet_step (exact fun _ => rfl)
          go_big_quiet_step (exact fun _ => rfl)
          go_big_quiet_step (exact fun _ => rfl)
          refine wpQuiet_nil ?_
          intro w5 hw5
          have HB := Lib.hid (HHE4.out.grow hw5).below
          clear hw5
          go_wp2_with fail
          go_ret
          exact ⟨rfl, HB.out⟩
end Go.Proofs.Ytgkigcobaimccaa
