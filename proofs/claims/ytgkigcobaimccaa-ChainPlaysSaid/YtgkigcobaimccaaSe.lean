/- ChainSees' walk. No condition. -/
import Derived.Test.YtgkigcobaimccaaAw
import Derived.Test.YtgkigcobaimccaaSl
import Derived.Test.YtgkigcobaimccaaActs
import Derived.Lib.SmallJoins
namespace Go.Proofs.Ytgkigcobaimccaa
open Go.RowKit Go.Proofs.Ytgkigcobaimccaa.Sp Go.Proofs.Ytgkigcobaimccaa.K Go.Proofs.YtgkigcobaimccaaW.PrintWords Go.ChangeShapes Go.WideShapes Go.ChangeAt Go.Joins
set_option linter.unusedVariables false
set_option linter.unusedSimpArgs false
theorem cells24 : Try.prog.cellsOf 24 = 2 := by kernel_rfl
theorem open_stamp {H : Type} {enc : TypeId × Value → H} {W : World} {r : Reach} {b0 base : Nat} {spare : Nat → Bool} {held : Bool} {v : Value} {d : DataW H} {p : List MemPlace}
    (hv : Value.okWide Try.prog W r b0 24 v) (h : DataW.Trod enc Try.prog W base spare held 24 v d p) :
    ∃ x : Int × Int, v = .agg #[.int .i64 x.1, .int .u8 x.2] ∧ (-9223372036854775808 ≤ x.1 ∧ x.1 ≤ 9223372036854775807) ∧ (0 ≤ x.2 ∧ x.2 ≤ 255) := by
  obtain ⟨v0, v1, y0, y1, n, rfl, _, _, h0, h1⟩ := open_agg2 Try.underlying24 (by kernel_rfl) cells24 hv h
  obtain ⟨z0, hz0, _, hw0⟩ := DataW.trod_int Try.underlying2 h0
  obtain ⟨z1, hz1, _, hw1⟩ := DataW.trod_int Try.underlying5 h1
  simp only [List.cons.injEq, and_true] at hz0 hz1
  subst hz0
  subst hz1
  exact ⟨(z0, z1), rfl, bounds_i64 hw0, bounds_u8 hw1⟩
def toV (x : S30) : Ver := ⟨x.f0.f0, x.f0.f1, x.f1, x.f2⟩
def F2 (w : World) (a m b n : Int) : Hp := [(w.heap.size + 1, .cells (sC b n) 24), (w.heap.size, .cells (sC a m) 24)]
theorem F2.at_ {w W : World} {a m b n : Int} {h F : Hp} (H : Holds w (h ++ (F ++ F2 w a m b n)) W) : (W.cell? ⟨w.heap.size, 0, none⟩ = some (.int .i64 a) ∧ W.cell? ⟨w.heap.size, 1, none⟩ = some (.int .u8 m)) ∧ (W.cell? ⟨w.heap.size + 1, 0, none⟩ = some (.int .i64 b) ∧ W.cell? ⟨w.heap.size + 1, 1, none⟩ = some (.int .u8 n)) := by
  have H1 : Holds w (F2 w a m b n) W := H.right.right
  exact ⟨⟨H1.tail.cell 0, H1.tail.cell 1⟩, ⟨H1.cell 0, H1.cell 1⟩⟩
theorem eq_ver (x : Ver) (w : World) : (execOp (fun o => match o with | .tmp 113 => .agg (vC x) | .tmp 114 => .agg (vC x) | _ => undef) { dst := some 115, op := .binOp .eql 30 (.tmp 113) (.tmp 114) 30, type := 4, pos := "", after := #[], guard := none }).run Try.prog w = .ok (.value (.bool true)) w := by
  simp [go_sem, vC]
def RelS (w : World) (g N : Nat) (a m b n : Int) (bt i : Value) (wr : World) : Prop :=
  ∃ (k : Nat) (L : List Ver) (h : Hp), k ≤ N ∧ i = .int .i64 k ∧ bt = .bool (L.any (btw a m b n)) ∧ IsC g L h ∧ Holds w (h ++ ([] ++ F2 w a m b n)) wr
set_option maxRecDepth 100000 in
set_option maxHeartbeats 8000000 in
theorem sees_walk (A : Option Addr) (cap : Nat) (l : List S30) (a m b n : Int) (w : World) (hcap : l.length ≤ cap) (hl : Kd.C k30 w A l.length l) :
    Calls Try.prog 3 #[.slice A l.length cap, .agg (sC a m), .agg (sC b n)] w fun e w' => e = .returned (.bool true) ∧ Below w.heap.size w w' := by
  have hF := (Holds.nil w).alloc2 (.cells (sC a m) 24) (.cells (sC b n) 24)
  have HF := Lib.hid (show Holds w ([] ++ ([] ++ F2 w a m b n)) ((w.alloc (.cells (sC a m) 24)).alloc (.cells (sC b n) 24)) from hF)
  clear hF
  by_cases c1 : (40 : Int) < (l.length : Int)
  · go_enter Try.func3, Try.ntmps3
    go_wp2_with fail
    refine (awake_calls _).mono ?_
    rintro e w1 ⟨rfl, hb⟩
    have HB := Lib.hid (HF.out.grow hb).below
    clear hb
    go_wp2_with fail
    go_ret
    exact ⟨rfl, HB.out⟩
  obtain ⟨z, hz⟩ : ∃ z, cs a m b n = z := ⟨_, rfl⟩
  have HZ := Lib.hid hz
  clear hz
  by_cases c2 : 0 < z
  · go_enter Try.func3, Try.ntmps3
    go_wp2_with fail
    refine (awake_calls _).mono ?_
    rintro e w1 ⟨rfl, hb⟩
    have HH := Lib.hid (HF.out.grow hb)
    obtain ⟨⟨q0, q1⟩, ⟨q2, q3⟩⟩ := F2.at_ HH.out
    clear hb
    go_wp2_with fail
    have HC := rcmp_calls a m b n w1
    rw [HZ.out] at HC
    refine HC.mono ?_
    rintro e w2 ⟨rfl, hb⟩
    have HB := Lib.hid (HH.out.grow hb).below
    clear hb q0 q1 q2 q3 HC
    go_wp2_with fail
    go_ret
    exact ⟨rfl, HB.out⟩
  go_enter Try.func3, Try.ntmps3
  go_wp2_with fail
  refine (awake_calls _).mono ?_
  rintro e w1 ⟨rfl, hb⟩
  have HH := Lib.hid (HF.out.grow hb)
  obtain ⟨⟨q0, q1⟩, ⟨q2, q3⟩⟩ := F2.at_ HH.out
  clear hb
  go_wp2_with fail
  have HC := rcmp_calls a m b n w1
  rw [HZ.out] at HC
  refine HC.mono ?_
  rintro e w2 ⟨rfl, hb⟩
  have HHb := Lib.hid (HH.out.grow hb)
  clear hb q0 q1 q2 q3 HC
  go_wp2_with fail
  refine (new_calls w _ _ HHb.out).mono ?_
  rintro e w3 ⟨g, rfl, h0, hI, hH⟩
  have HI0 := Lib.hid hI; have HH0 := Lib.hid hH
  clear hI hH
  go_wp2_with fail
  go_loopw [8, 9] (fun bt i wr => RelS w g l.length a m b n bt i wr) (fun _ i _ => l.length - (intOf i).toNat)
  case atStart => exact ⟨0, [], h0, by omega, rfl, rfl, HI0.out, HH0.out⟩
  case round =>
    obtain ⟨k, L, h, hk, rfl, rfl, hI, hH⟩ := hrel
    have HI1 := Lib.hid hI; have HH1 := Lib.hid hH
    clear hI hH HI0 HH0
    by_cases hlt : k < l.length
    · obtain ⟨ad, rfl, q0, q1, q2, q3⟩ := at_T30 (Kd.C_below hl HH1.out.below) (k : Int) (by omega) (by omega)
      have hxx : ∀ W', Below w.heap.size w W' → W'.cell? (ad.add (k * 4)) = some (.int .i64 (rd_T30 l k).f0.f0) ∧ W'.cell? ⟨(ad.add (k * 4)).block, (ad.add (k * 4)).off + 1, none⟩ = some (.int .u8 (rd_T30 l k).f0.f1) := by
        intro W' hb
        obtain ⟨ad', e, p0, p1, _, _⟩ := at_T30 (Kd.C_below hl hb) (k : Int) (by omega) (by omega)
        obtain rfl := Option.some.inj e
        rw [Int.toNat_natCast] at p0 p1
        exact ⟨p0, p1⟩
      generalize rd_T30 l (k : Int) = x at q0 q1 q2 q3 hxx
      have HXX := Lib.hid hxx
      clear hxx
      rw [Int.toNat_natCast] at q0 q1 q2 q3
      by_cases hs : 250 < (x.f1.size : Int)
      · go_wp2_with fail
        go_ret
        exact ⟨rfl, HH1.out.below⟩
      rcases put_cases L (toV x) with ⟨er, her, hq⟩ | hq
      · have her' : (er == 0) = false := by simpa using her
        go_wp2_with fail
        refine (put_calls g L (toV x) h _ w wr HI1.out HH1.out).mono ?_
        rintro e x2 ⟨he, h3, hI, hH⟩
        rw [hq] at he hI
        subst he
        have HI3 := Lib.hid hI; have HH3 := Lib.hid hH
        clear hI hH hq
        go_wp2_with fail
        go_roundw
        case rel => exact ⟨k + 1, L, h3, by omega, by go_num, rfl, HI3.out, HH3.out⟩
        case measure => simp [intOf]; omega
      · obtain ⟨bt, hbt⟩ : ∃ bt, bt = L.any (btw a m b n) := ⟨_, rfl⟩
        obtain ⟨z1, hz1⟩ : ∃ z, cs x.f0.f0 x.f0.f1 a m = z := ⟨_, rfl⟩
        obtain ⟨z2, hz2⟩ : ∃ z, cs x.f0.f0 x.f0.f1 b n = z := ⟨_, rfl⟩
        have hbx : btw a m b n (toV x) = (decide (0 < z1) && decide (z2 ≤ 0)) := by unfold btw; show (decide (0 < cs x.f0.f0 x.f0.f1 a m) && decide (cs x.f0.f0 x.f0.f1 b n ≤ 0)) = _; rw [hz1, hz2]
        have HBT := Lib.hid hbt; have HZ1 := Lib.hid hz1; have HZ2 := Lib.hid hz2; have HBX := Lib.hid hbx
        rw [← hbt]
        clear hbt hz1 hz2 hbx
        go_wp2_with fail
        refine (put_calls g L (toV x) h _ w wr HI1.out HH1.out).mono ?_
        rintro e x2 ⟨he, h3, hI, hH⟩
        rw [hq] at he hI
        subst he
        have HI3 := Lib.hid hI; have HH3 := Lib.hid hH
        clear hI hH hq q0 q1 q2 q3
        have HS := Lib.hid (fun w' (hb : Below x2.heap.size x2 w') => F2.at_ (HH3.out.grow hb))
        have HX := Lib.hid (fun w' (hb : Below x2.heap.size x2 w') => show w'.cell? (ad.add (k * 4)) = some (.int .i64 x.f0.f0) ∧ w'.cell? ⟨(ad.add (k * 4)).block, (ad.add (k * 4)).off + 1, none⟩ = some (.int .u8 x.f0.f1) from HXX.out w' (HH3.out.grow hb).below)
        cases bt
        · by_cases h1 : 0 < z1
          · by_cases h2 : z2 ≤ 0
            · go_wp2_with fail
              refine region_quiet_lit (C := fun w' => Below x2.heap.size x2 w') (by kernel_rfl) (by kernel_rfl) (Below.refl _ _).drew ?_
              go_big_quiet_step (exact fun _ => rfl)
              go_big_quiet_step (exact fun _ => rfl)
              go_big_quiet_step (exact fun _ => rfl)
              go_big_quiet_step (exact fun _ => rfl)
              go_big_quiet_step (exact fun _ => rfl)
              go_big_quiet_step (exact fun _ => rfl)
              refine BigFrame.wpQuiet_want rfl (fun K hK => ?_)
              refine quiet_val (.agg (sC x.f0.f0 x.f0.f1)) (fun w2 hw => by obtain ⟨q0, q1⟩ := HX.out w2 hw; simp [go_sem, q0, q1, sC]) (hK _ ?_)
              clear hK K
              simp only [Act.put, List.setIfInBounds_toArray, List.set_cons_zero, List.set_cons_succ]
              refine BigFrame.wpQuiet_want rfl (fun K hK => ?_)
              refine quiet_val (.agg (sC a m)) (fun w2 hw => by obtain ⟨⟨q0, q1⟩, _⟩ := HS.out w2 hw; simp [go_sem, q0, q1, sC]) (hK _ ?_)
              clear hK K
              simp only [Act.put, List.setIfInBounds_toArray, List.set_cons_zero, List.set_cons_succ]
              refine BigFrame.wpQuiet_want rfl (fun K hK => ?_)
              refine quiet_call 9 #[.agg (sC x.f0.f0 x.f0.f1), .agg (sC a m)] (.int .i64 z1) (fun w2 => by simp [go_sem]) (fun w2 hw => by have := rcmp_calls x.f0.f0 x.f0.f1 a m w2; rw [HZ1.out] at this; exact this.mono fun e w3 hh => ⟨hh.1, hw.trans (hh.2.mono hw.size)⟩) (hK _ ?_)
              clear hK K
              simp only [Act.put, List.setIfInBounds_toArray, List.set_cons_zero, List.set_cons_succ]
              go_big_quiet_step (exact fun _ => rfl)
              go_big_quiet_step (exact fun _ => rfl)
              go_big_quiet_step (exact fun _ => rfl)
              go_big_quiet_step (exact fun _ => rfl)
              go_big_quiet_step (exact fun _ => rfl)
              go_big_quiet_step (exact fun _ => rfl)
              refine BigFrame.wpQuiet_want rfl (fun K hK => ?_)
              refine quiet_val (.agg (sC x.f0.f0 x.f0.f1)) (fun w2 hw => by obtain ⟨q0, q1⟩ := HX.out w2 hw; simp [go_sem, q0, q1, sC]) (hK _ ?_)
              clear hK K
              simp only [Act.put, List.setIfInBounds_toArray, List.set_cons_zero, List.set_cons_succ]
              refine BigFrame.wpQuiet_want rfl (fun K hK => ?_)
              refine quiet_val (.agg (sC b n)) (fun w2 hw => by obtain ⟨_, ⟨q0, q1⟩⟩ := HS.out w2 hw; simp [go_sem, q0, q1, sC]) (hK _ ?_)
              clear hK K
              simp only [Act.put, List.setIfInBounds_toArray, List.set_cons_zero, List.set_cons_succ]
              refine BigFrame.wpQuiet_want rfl (fun K hK => ?_)
              refine quiet_call 9 #[.agg (sC x.f0.f0 x.f0.f1), .agg (sC b n)] (.int .i64 z2) (fun w2 => by simp [go_sem]) (fun w2 hw => by have := rcmp_calls x.f0.f0 x.f0.f1 b n w2; rw [HZ2.out] at this; exact this.mono fun e w3 hh => ⟨hh.1, hw.trans (hh.2.mono hw.size)⟩) (hK _ ?_)
              clear hK K
              simp only [Act.put, List.setIfInBounds_toArray, List.set_cons_zero, List.set_cons_succ]
              go_big_quiet_step (exact fun _ => rfl)
              go_big_quiet_step (exact fun _ => rfl)
              go_big_quiet_step (exact fun _ => rfl)
              go_big_quiet_step (exact fun _ => rfl)
              refine wpQuiet_nil ?_
              intro w4 hw4
              have HH4 := Lib.hid (HH3.out.grow hw4)
              clear hw4
              go_wp2_with fail
              go_roundw
              case rel => exact ⟨k + 1, _, h3, by omega, by go_num, by rw [any_put]; simp [← HBT.out, HBX.out, h1, h2], HI3.out, HH4.out⟩
              case measure => simp [intOf]; omega
            · go_wp2_with fail
              refine region_quiet_lit (C := fun w' => Below x2.heap.size x2 w') (by kernel_rfl) (by kernel_rfl) (Below.refl _ _).drew ?_
              go_big_quiet_step (exact fun _ => rfl)
              go_big_quiet_step (exact fun _ => rfl)
              go_big_quiet_step (exact fun _ => rfl)
              go_big_quiet_step (exact fun _ => rfl)
              go_big_quiet_step (exact fun _ => rfl)
              go_big_quiet_step (exact fun _ => rfl)
              refine BigFrame.wpQuiet_want rfl (fun K hK => ?_)
              refine quiet_val (.agg (sC x.f0.f0 x.f0.f1)) (fun w2 hw => by obtain ⟨q0, q1⟩ := HX.out w2 hw; simp [go_sem, q0, q1, sC]) (hK _ ?_)
              clear hK K
              simp only [Act.put, List.setIfInBounds_toArray, List.set_cons_zero, List.set_cons_succ]
              refine BigFrame.wpQuiet_want rfl (fun K hK => ?_)
              refine quiet_val (.agg (sC a m)) (fun w2 hw => by obtain ⟨⟨q0, q1⟩, _⟩ := HS.out w2 hw; simp [go_sem, q0, q1, sC]) (hK _ ?_)
              clear hK K
              simp only [Act.put, List.setIfInBounds_toArray, List.set_cons_zero, List.set_cons_succ]
              refine BigFrame.wpQuiet_want rfl (fun K hK => ?_)
              refine quiet_call 9 #[.agg (sC x.f0.f0 x.f0.f1), .agg (sC a m)] (.int .i64 z1) (fun w2 => by simp [go_sem]) (fun w2 hw => by have := rcmp_calls x.f0.f0 x.f0.f1 a m w2; rw [HZ1.out] at this; exact this.mono fun e w3 hh => ⟨hh.1, hw.trans (hh.2.mono hw.size)⟩) (hK _ ?_)
              clear hK K
              simp only [Act.put, List.setIfInBounds_toArray, List.set_cons_zero, List.set_cons_succ]
              go_big_quiet_step (exact fun _ => rfl)
              go_big_quiet_step (exact fun _ => rfl)
              go_big_quiet_step (exact fun _ => rfl)
              go_big_quiet_step (exact fun _ => rfl)
              go_big_quiet_step (exact fun _ => rfl)
              go_big_quiet_step (exact fun _ => rfl)
              refine BigFrame.wpQuiet_want rfl (fun K hK => ?_)
              refine quiet_val (.agg (sC x.f0.f0 x.f0.f1)) (fun w2 hw => by obtain ⟨q0, q1⟩ := HX.out w2 hw; simp [go_sem, q0, q1, sC]) (hK _ ?_)
              clear hK K
              simp only [Act.put, List.setIfInBounds_toArray, List.set_cons_zero, List.set_cons_succ]
              refine BigFrame.wpQuiet_want rfl (fun K hK => ?_)
              refine quiet_val (.agg (sC b n)) (fun w2 hw => by obtain ⟨_, ⟨q0, q1⟩⟩ := HS.out w2 hw; simp [go_sem, q0, q1, sC]) (hK _ ?_)
              clear hK K
              simp only [Act.put, List.setIfInBounds_toArray, List.set_cons_zero, List.set_cons_succ]
              refine BigFrame.wpQuiet_want rfl (fun K hK => ?_)
              refine quiet_call 9 #[.agg (sC x.f0.f0 x.f0.f1), .agg (sC b n)] (.int .i64 z2) (fun w2 => by simp [go_sem]) (fun w2 hw => by have := rcmp_calls x.f0.f0 x.f0.f1 b n w2; rw [HZ2.out] at this; exact this.mono fun e w3 hh => ⟨hh.1, hw.trans (hh.2.mono hw.size)⟩) (hK _ ?_)
              clear hK K
              simp only [Act.put, List.setIfInBounds_toArray, List.set_cons_zero, List.set_cons_succ]
              go_big_quiet_step (exact fun _ => rfl)
              go_big_quiet_step (exact fun _ => rfl)
              go_big_quiet_step (exact fun _ => rfl)
              go_big_quiet_step (exact fun _ => rfl)
              refine wpQuiet_nil ?_
              intro w4 hw4
              have HH4 := Lib.hid (HH3.out.grow hw4)
              clear hw4
              go_wp2_with fail
              go_roundw
              case rel => exact ⟨k + 1, _, h3, by omega, by go_num, by rw [any_put]; simp [← HBT.out, HBX.out, h1, h2], HI3.out, HH4.out⟩
              case measure => simp [intOf]; omega
          · have h1' : z1 ≤ 0 := by omega
            have hd1 : decide (0 < z1) = false := decide_eq_false h1
            go_wp2_with fail
            refine region_quiet_lit (C := fun w' => Below x2.heap.size x2 w') (by kernel_rfl) (by kernel_rfl) (Below.refl _ _).drew ?_
            go_big_quiet_step (exact fun _ => rfl)
            go_big_quiet_step (exact fun _ => rfl)
            go_big_quiet_step (exact fun _ => rfl)
            go_big_quiet_step (exact fun _ => rfl)
            go_big_quiet_step (exact fun _ => rfl)
            go_big_quiet_step (exact fun _ => rfl)
            refine BigFrame.wpQuiet_want rfl (fun K hK => ?_)
            refine quiet_val (.agg (sC x.f0.f0 x.f0.f1)) (fun w2 hw => by obtain ⟨q0, q1⟩ := HX.out w2 hw; simp [go_sem, q0, q1, sC]) (hK _ ?_)
            clear hK K
            simp only [Act.put, List.setIfInBounds_toArray, List.set_cons_zero, List.set_cons_succ]
            refine BigFrame.wpQuiet_want rfl (fun K hK => ?_)
            refine quiet_val (.agg (sC a m)) (fun w2 hw => by obtain ⟨⟨q0, q1⟩, _⟩ := HS.out w2 hw; simp [go_sem, q0, q1, sC]) (hK _ ?_)
            clear hK K
            simp only [Act.put, List.setIfInBounds_toArray, List.set_cons_zero, List.set_cons_succ]
            refine BigFrame.wpQuiet_want rfl (fun K hK => ?_)
            refine quiet_call 9 #[.agg (sC x.f0.f0 x.f0.f1), .agg (sC a m)] (.int .i64 z1) (fun w2 => by simp [go_sem]) (fun w2 hw => by have := rcmp_calls x.f0.f0 x.f0.f1 a m w2; rw [HZ1.out] at this; exact this.mono fun e w3 hh => ⟨hh.1, hw.trans (hh.2.mono hw.size)⟩) (hK _ ?_)
            clear hK K
            simp only [Act.put, List.setIfInBounds_toArray, List.set_cons_zero, List.set_cons_succ]
            go_big_quiet_step (exact fun _ => rfl)
            go_big_quiet_step (exact fun _ => rfl)
            go_big_quiet_skip
            go_big_quiet_skip
            go_big_quiet_skip
            go_big_quiet_skip
            go_big_quiet_skip
            go_big_quiet_skip
            go_big_quiet_skip
            go_big_quiet_skip
            go_big_quiet_step (exact fun _ => rfl)
            go_big_quiet_step (exact fun _ => rfl)
            go_big_quiet_step (exact fun _ => rfl)
            refine wpQuiet_nil ?_
            intro w4 hw4
            have HH4 := Lib.hid (HH3.out.grow hw4)
            clear hw4
            go_wp2_with fail
            go_roundw
            case rel => exact ⟨k + 1, _, h3, by omega, by go_num, by rw [any_put]; simp [← HBT.out, HBX.out, hd1], HI3.out, HH4.out⟩
            case measure => simp [intOf]; omega
        · go_wp2_with fail
          refine region_quiet_lit (C := fun w' => Below x2.heap.size x2 w') (by kernel_rfl) (by kernel_rfl) (Below.refl _ _).drew ?_
          go_big_quiet_step (exact fun _ => rfl)
          go_big_quiet_step (exact fun _ => rfl)
          go_big_quiet_skip
          go_big_quiet_skip
          go_big_quiet_skip
          go_big_quiet_skip
          go_big_quiet_skip
          go_big_quiet_skip
          go_big_quiet_skip
          go_big_quiet_skip
          go_big_quiet_skip
          go_big_quiet_skip
          go_big_quiet_skip
          go_big_quiet_skip
          go_big_quiet_skip
          go_big_quiet_skip
          go_big_quiet_skip
          go_big_quiet_skip
          go_big_quiet_skip
          go_big_quiet_skip
          go_big_quiet_step (exact fun _ => rfl)
          go_big_quiet_step (exact fun _ => rfl)
          refine wpQuiet_nil ?_
          intro w4 hw4
          have HH4 := Lib.hid (HH3.out.grow hw4)
          clear hw4
          go_wp2_with fail
          go_roundw
          case rel => exact ⟨k + 1, _, h3, by omega, by go_num, by rw [any_put]; simp [← HBT.out], HI3.out, HH4.out⟩
          case measure => simp [intOf]; omega
    · obtain rfl : k = l.length := by omega
      obtain ⟨hri, hLl⟩ : Rise L ∧ L.length ≤ 50 := by obtain ⟨_, _, _, _, h1, h2⟩ := HI1.out; exact ⟨h1, h2⟩
      have hab : cs a m b n ≤ 0 := by rw [HZ.out]; omega
      have hle := until_mono hri hab
      have hla := until_le L a m
      have hlb := until_le L b n
      have hbtw := any_btw (a := a) (m := m) (b := b) (n := n) hri
      have hpa := verAt_isSome L a m
      have hpb := verAt_isSome L b n
      have HIL := HI1
      have HSA0 : ∃ Sa : Int, (L.length : Int) - (untilN L a m : Int) = Sa := ⟨_, rfl⟩
      obtain ⟨Sa, hSa⟩ := HSA0
      have HSA := Lib.hid hSa
      by_cases hlt : untilN L a m < untilN L b n
      · rw [decide_eq_true hlt] at hbtw
        rw [hbtw]
        obtain ⟨Sb, hSb⟩ : ∃ Sb : Int, (L.length : Int) - (untilN L b n : Int) = Sb := ⟨_, rfl⟩
        have HSB := Lib.hid hSb
        have hS : Sb < Sa := by omega
        rw [decide_eq_true (by omega)] at hpb
        obtain ⟨y, hy⟩ := Option.isSome_iff_exists.mp hpb
        have HVB := Lib.hid hy
        cases hx : verAt L a m with
        | some x =>
          have HVA := Lib.hid hx
          have hsx := seen_until hri hx
          have HSX := Lib.hid (show (L.length : Int) - (untilN L x.t x.n : Int) = Sa by rw [hsx.2]; exact hSa)
          obtain ⟨zx, hzx⟩ : ∃ zx, cs x.t x.n a m = zx := ⟨_, rfl⟩
          have hzx0 : zx ≤ 0 := by have := hsx.1; omega
          have HZX := Lib.hid hzx
          have hdz : decide (0 < zx) = false := decide_eq_false (by omega)
          clear hri hab hle hla hlb hbtw hpa hpb hSa hSb hy hx hsx hzx hlt hLl
          have HHE0 := HH1
          obtain ⟨⟨r0, r1⟩, _⟩ := F2.at_ HHE0.out
          go_wp2_with fail
          refine (at_calls g L a m h _ w _ HIL.out HHE0.out).mono ?_
          rintro e u1 ⟨he, hb⟩
          rw [HVA.out] at he
          simp only [Option.getD_some, Option.getD_none, Option.isSome_some, Option.isSome_none] at he
          subst he
          have hH := HHE0.out.grow hb
          have hH2 := hH.alloc (.cells #[.int .i64 0, .int .u8 0, .string ⟨#[]⟩, .bool false] 30)
          have g1 : (u1.alloc (.cells #[.int .i64 0, .int .u8 0, .string ⟨#[]⟩, .bool false] 30)).heap[u1.heap.size]? = some (.cells (vC v0) 30 (0, 0)) := hH2.get
          have hH3 := hH2.turn (row_grown _ u1.heap.size (vC x)) (setRow_heap _ _ _ _ _ _ g1)
          have hH4 := hH3.perm (k := h ++ (((u1.heap.size, .cells (vC x) 30) :: []) ++ F2 w a m b n)) (by classical rw [List.perm_iff_count]; intro a; simp only [List.count_append, List.count_cons, List.count_nil]; omega)
          have HHE1 := Lib.hid hH4
          have q23 := (F2.at_ HHE1.out).2
          obtain ⟨r2, r3⟩ := q23
          clear hb hH hH2 hH3 hH4 r0 r1
          go_wp2_with (with_reducible refine stV (.tmp 10) (.tmp 71) u1.heap.size x v0 rfl rfl g1 ?_)
          refine (at_calls g L b n h _ w _ HIL.out HHE1.out).mono ?_
          rintro e u2 ⟨he, hb⟩
          rw [HVB.out] at he
          simp only [Option.getD_some, Option.getD_none, Option.isSome_some, Option.isSome_none] at he
          subst he
          have hH := HHE1.out.grow hb
          have hH2 := hH.alloc (.cells #[.int .i64 0, .int .u8 0, .string ⟨#[]⟩, .bool false] 30)
          have g2 : (u2.alloc (.cells #[.int .i64 0, .int .u8 0, .string ⟨#[]⟩, .bool false] 30)).heap[u2.heap.size]? = some (.cells (vC v0) 30 (0, 0)) := hH2.get
          have hH3 := hH2.turn (row_grown _ u2.heap.size (vC y)) (setRow_heap _ _ _ _ _ _ g2)
          have hH4 := hH3.perm (k := h ++ (((u2.heap.size, .cells (vC y) 30) :: [(u1.heap.size, .cells (vC x) 30)]) ++ F2 w a m b n)) (by classical rw [List.perm_iff_count]; intro a; simp only [List.count_append, List.count_cons, List.count_nil]; omega)
          have HHE2 := Lib.hid hH4
          clear hb hH hH2 hH3 hH4 r2 r3
          go_wp2_with (with_reducible refine stV (.tmp 12) (.tmp 77) u2.heap.size y v0 rfl rfl g2 ?_)
          obtain ⟨W2, hW2⟩ : ∃ W2, W2 = ((u2.alloc (.cells #[.int .i64 0, .int .u8 0, .string ⟨#[]⟩, .bool false] 30)).setRow u2.heap.size (vC y)) := ⟨_, rfl⟩
          rw [← hW2]
          have HHE3 := HHE2.out
          rw [← hW2] at HHE3
          obtain ⟨FX, hFX⟩ : ∃ FX, FX = (((u2.heap.size, Obj.cells (vC y) 30) :: [(u1.heap.size, Obj.cells (vC x) 30)]) ++ F2 w a m b n) := ⟨_, rfl⟩
          have HHL := Lib.hid (show Holds w (h ++ FX) W2 by rw [hFX]; exact HHE3)
          have HYB := Lib.hid (fun w' (hb : Below W2.heap.size W2 w') => show w'.cell? ⟨u2.heap.size, 0, none⟩ = some (.int .i64 y.t) ∧ w'.cell? ⟨u2.heap.size, 1, none⟩ = some (.int .u8 y.n) ∧ w'.cell? ⟨u2.heap.size, 2, none⟩ = some (.string y.val) ∧ w'.cell? ⟨u2.heap.size, 3, none⟩ = some (.bool y.gone) by
            have h1 : Holds w ((u2.heap.size, .cells (vC y) 30) :: _) w' := (HHE3.grow hb).right
            exact ⟨h1.cell 0, h1.cell 1, h1.cell 2, h1.cell 3⟩)
          have HXB := Lib.hid (fun w' (hb : Below W2.heap.size W2 w') => show w'.cell? ⟨u1.heap.size, 0, none⟩ = some (.int .i64 x.t) ∧ w'.cell? ⟨u1.heap.size, 1, none⟩ = some (.int .u8 x.n) ∧ w'.cell? ⟨u1.heap.size, 2, none⟩ = some (.string x.val) ∧ w'.cell? ⟨u1.heap.size, 3, none⟩ = some (.bool x.gone) by
            have h1 : Holds w ((u1.heap.size, .cells (vC x) 30) :: _) w' := (HHE3.grow hb).right.tail
            exact ⟨h1.cell 0, h1.cell 1, h1.cell 2, h1.cell 3⟩)
          have HS := Lib.hid (fun w' (hb : Below W2.heap.size W2 w') => F2.at_ (HHE3.grow hb))
          clear hW2 HHE3 hFX
          refine region_quiet_lit (C := fun w' => Below W2.heap.size W2 w') (by kernel_rfl) (by kernel_rfl) (Below.refl _ _).drew ?_
          go_big_quiet_step (exact fun _ => rfl)
          go_big_quiet_step (exact fun _ => rfl)
          go_big_quiet_step (exact fun _ => rfl)
          refine BigFrame.wpQuiet_want rfl (fun K hK => ?_)
          refine quiet_val (.agg (sC x.t x.n)) (fun w2 hw => by obtain ⟨p0, p1, p2, p3⟩ := HXB.out w2 hw; simp [go_sem, p0, p1, p2, p3, vC, sC]) (hK _ ?_)
          clear hK K
          simp only [Act.put, List.setIfInBounds_toArray, List.set_cons_zero, List.set_cons_succ]
          refine BigFrame.wpQuiet_want rfl (fun K hK => ?_)
          refine quiet_val (.agg (sC a m)) (fun w2 hw => by obtain ⟨⟨q0, q1⟩, _⟩ := HS.out w2 hw; simp [go_sem, q0, q1, sC]) (hK _ ?_)
          clear hK K
          simp only [Act.put, List.setIfInBounds_toArray, List.set_cons_zero, List.set_cons_succ]
          refine BigFrame.wpQuiet_want rfl (fun K hK => ?_)
          refine quiet_call 9 #[.agg (sC x.t x.n), .agg (sC a m)] (.int .i64 zx) (fun w2 => by simp [go_sem]) (fun w2 hw => by have := rcmp_calls x.t x.n a m w2; rw [HZX.out] at this; exact this.mono fun e w3 hh => ⟨hh.1, hw.trans (hh.2.mono hw.size)⟩) (hK _ ?_)
          clear hK K
          simp only [Act.put, List.setIfInBounds_toArray, List.set_cons_zero, List.set_cons_succ]
          go_big_quiet_step (exact fun _ => rfl)
          go_big_quiet_step (exact fun _ => rfl)
          go_big_quiet_step (exact fun _ => rfl)
          go_big_quiet_step (exact fun _ => rfl)
          refine BigFrame.wpQuiet_want rfl (fun K hK => ?_)
          refine quiet_val (.agg (sC x.t x.n)) (fun w2 hw => by obtain ⟨p0, p1, p2, p3⟩ := HXB.out w2 hw; simp [go_sem, p0, p1, p2, p3, vC, sC]) (hK _ ?_)
          clear hK K
          simp only [Act.put, List.setIfInBounds_toArray, List.set_cons_zero, List.set_cons_succ]
          refine BigFrame.wpQuiet_want rfl (fun K hK => ?_)
          refine quiet_call 13 #[.pointer (some ⟨g, 0, none⟩), .agg (sC x.t x.n)] (.int .i64 Sa) (fun w2 => by simp [go_sem]) (fun w2 hw => by have := since_calls g L x.t x.n h FX w w2 HIL.out (HHL.out.grow hw); rw [HSX.out] at this; exact this.mono fun e w3 hh => ⟨hh.1, hw.trans (hh.2.mono hw.size)⟩) (hK _ ?_)
          clear hK K
          simp only [Act.put, List.setIfInBounds_toArray, List.set_cons_zero, List.set_cons_succ]
          go_big_quiet_step (exact fun _ => rfl)
          refine BigFrame.wpQuiet_want rfl (fun K hK => ?_)
          refine quiet_val (.agg (sC a m)) (fun w2 hw => by obtain ⟨⟨q0, q1⟩, _⟩ := HS.out w2 hw; simp [go_sem, q0, q1, sC]) (hK _ ?_)
          clear hK K
          simp only [Act.put, List.setIfInBounds_toArray, List.set_cons_zero, List.set_cons_succ]
          refine BigFrame.wpQuiet_want rfl (fun K hK => ?_)
          refine quiet_call 13 #[.pointer (some ⟨g, 0, none⟩), .agg (sC a m)] (.int .i64 Sa) (fun w2 => by simp [go_sem]) (fun w2 hw => by have := since_calls g L a m h FX w w2 HIL.out (HHL.out.grow hw); rw [HSA.out] at this; exact this.mono fun e w3 hh => ⟨hh.1, hw.trans (hh.2.mono hw.size)⟩) (hK _ ?_)
          clear hK K
          simp only [Act.put, List.setIfInBounds_toArray, List.set_cons_zero, List.set_cons_succ]
          go_big_quiet_step (exact fun _ => rfl)
          go_big_quiet_step (exact fun _ => rfl)
          go_big_quiet_step (exact fun _ => rfl)
          refine wpQuiet_nil ?_
          intro w4 hw4
          have HHL2 := Lib.hid (HHL.out.grow hw4)
          have HYB2 := Lib.hid (fun w' (hb : Below w4.heap.size w4 w') => HYB.out w' (hw4.trans (hb.mono hw4.size)))
          have HXB2 := Lib.hid (fun w' (hb : Below w4.heap.size w4 w') => HXB.out w' (hw4.trans (hb.mono hw4.size)))
          have HS2 := Lib.hid (fun w' (hb : Below w4.heap.size w4 w') => HS.out w' (hw4.trans (hb.mono hw4.size)))
          clear hw4 HHL HYB HXB HS
          go_wp2_with fail
          refine region_quiet_lit (C := fun w' => Below w4.heap.size w4 w') (by kernel_rfl) (by kernel_rfl) (Below.refl _ _).drew ?_
          go_big_quiet_step (exact fun _ => rfl)
          go_big_quiet_step (exact fun _ => rfl)
          refine BigFrame.wpQuiet_want rfl (fun K hK => ?_)
          refine quiet_val (.agg (sC a m)) (fun w2 hw => by obtain ⟨⟨q0, q1⟩, _⟩ := HS2.out w2 hw; simp [go_sem, q0, q1, sC]) (hK _ ?_)
          clear hK K
          simp only [Act.put, List.setIfInBounds_toArray, List.set_cons_zero, List.set_cons_succ]
          refine BigFrame.wpQuiet_want rfl (fun K hK => ?_)
          refine quiet_call 13 #[.pointer (some ⟨g, 0, none⟩), .agg (sC a m)] (.int .i64 Sa) (fun w2 => by simp [go_sem]) (fun w2 hw => by have := since_calls g L a m h FX w w2 HIL.out (HHL2.out.grow hw); rw [HSA.out] at this; exact this.mono fun e w3 hh => ⟨hh.1, hw.trans (hh.2.mono hw.size)⟩) (hK _ ?_)
          clear hK K
          simp only [Act.put, List.setIfInBounds_toArray, List.set_cons_zero, List.set_cons_succ]
          go_big_quiet_step (exact fun _ => rfl)
          refine BigFrame.wpQuiet_want rfl (fun K hK => ?_)
          refine quiet_val (.agg (sC b n)) (fun w2 hw => by obtain ⟨_, ⟨q0, q1⟩⟩ := HS2.out w2 hw; simp [go_sem, q0, q1, sC]) (hK _ ?_)
          clear hK K
          simp only [Act.put, List.setIfInBounds_toArray, List.set_cons_zero, List.set_cons_succ]
          refine BigFrame.wpQuiet_want rfl (fun K hK => ?_)
          refine quiet_call 13 #[.pointer (some ⟨g, 0, none⟩), .agg (sC b n)] (.int .i64 Sb) (fun w2 => by simp [go_sem]) (fun w2 hw => by have := since_calls g L b n h FX w w2 HIL.out (HHL2.out.grow hw); rw [HSB.out] at this; exact this.mono fun e w3 hh => ⟨hh.1, hw.trans (hh.2.mono hw.size)⟩) (hK _ ?_)
          clear hK K
          simp only [Act.put, List.setIfInBounds_toArray, List.set_cons_zero, List.set_cons_succ]
          go_big_quiet_step (exact fun _ => rfl)
          go_big_quiet_step (exact fun _ => rfl)
          go_big_quiet_step (exact fun _ => rfl)
          go_big_quiet_step (exact fun _ => rfl)
          go_big_quiet_step (exact fun _ => rfl)
          go_big_quiet_skip
          go_big_quiet_skip
          go_big_quiet_skip
          go_big_quiet_skip
          go_big_quiet_skip
          go_big_quiet_skip
          go_big_quiet_skip
          go_big_quiet_skip
          go_big_quiet_step (exact fun _ => rfl)
          go_big_quiet_step (exact fun _ => rfl)
          go_big_quiet_step (exact fun _ => rfl)
          go_big_quiet_step (exact fun _ => rfl)
          go_big_quiet_step (exact fun _ => rfl)
          go_big_quiet_step (exact fun _ => rfl)
          go_big_quiet_step (exact fun _ => rfl)
          go_big_quiet_step (exact fun _ => rfl)
          go_big_quiet_step (exact fun _ => rfl)
          go_big_quiet_step (exact fun _ => rfl)
          refine wpQuiet_nil ?_
          intro w5 hw5
          have HB := Lib.hid (HHL2.out.grow hw5).below
          clear hw5
          go_wp2_with fail
          go_ret
          exact ⟨rfl, HB.out⟩
        | none =>
          have HVA := Lib.hid hx
          clear hri hab hle hla hlb hbtw hpa hpb hSa hSb hy hx hlt hLl
          have HHE0 := HH1
          obtain ⟨⟨r0, r1⟩, _⟩ := F2.at_ HHE0.out
          go_wp2_with fail
          refine (at_calls g L a m h _ w _ HIL.out HHE0.out).mono ?_
          rintro e u1 ⟨he, hb⟩
          rw [HVA.out] at he
          simp only [Option.getD_some, Option.getD_none, Option.isSome_some, Option.isSome_none] at he
          subst he
          have hH := HHE0.out.grow hb
          have hH2 := hH.alloc (.cells #[.int .i64 0, .int .u8 0, .string ⟨#[]⟩, .bool false] 30)
          have g1 : (u1.alloc (.cells #[.int .i64 0, .int .u8 0, .string ⟨#[]⟩, .bool false] 30)).heap[u1.heap.size]? = some (.cells (vC v0) 30 (0, 0)) := hH2.get
          have hH3 := hH2.turn (row_grown _ u1.heap.size (vC v0)) (setRow_heap _ _ _ _ _ _ g1)
          have hH4 := hH3.perm (k := h ++ (((u1.heap.size, .cells (vC v0) 30) :: []) ++ F2 w a m b n)) (by classical rw [List.perm_iff_count]; intro a; simp only [List.count_append, List.count_cons, List.count_nil]; omega)
          have HHE1 := Lib.hid hH4
          have q23 := (F2.at_ HHE1.out).2
          obtain ⟨r2, r3⟩ := q23
          clear hb hH hH2 hH3 hH4 r0 r1
          go_wp2_with (with_reducible refine stV (.tmp 10) (.tmp 71) u1.heap.size v0 v0 rfl rfl g1 ?_)
          refine (at_calls g L b n h _ w _ HIL.out HHE1.out).mono ?_
          rintro e u2 ⟨he, hb⟩
          rw [HVB.out] at he
          simp only [Option.getD_some, Option.getD_none, Option.isSome_some, Option.isSome_none] at he
          subst he
          have hH := HHE1.out.grow hb
          have hH2 := hH.alloc (.cells #[.int .i64 0, .int .u8 0, .string ⟨#[]⟩, .bool false] 30)
          have g2 : (u2.alloc (.cells #[.int .i64 0, .int .u8 0, .string ⟨#[]⟩, .bool false] 30)).heap[u2.heap.size]? = some (.cells (vC v0) 30 (0, 0)) := hH2.get
          have hH3 := hH2.turn (row_grown _ u2.heap.size (vC y)) (setRow_heap _ _ _ _ _ _ g2)
          have hH4 := hH3.perm (k := h ++ (((u2.heap.size, .cells (vC y) 30) :: [(u1.heap.size, .cells (vC v0) 30)]) ++ F2 w a m b n)) (by classical rw [List.perm_iff_count]; intro a; simp only [List.count_append, List.count_cons, List.count_nil]; omega)
          have HHE2 := Lib.hid hH4
          clear hb hH hH2 hH3 hH4 r2 r3
          go_wp2_with (with_reducible refine stV (.tmp 12) (.tmp 77) u2.heap.size y v0 rfl rfl g2 ?_)
          obtain ⟨W2, hW2⟩ : ∃ W2, W2 = ((u2.alloc (.cells #[.int .i64 0, .int .u8 0, .string ⟨#[]⟩, .bool false] 30)).setRow u2.heap.size (vC y)) := ⟨_, rfl⟩
          rw [← hW2]
          have HHE3 := HHE2.out
          rw [← hW2] at HHE3
          obtain ⟨FX, hFX⟩ : ∃ FX, FX = (((u2.heap.size, Obj.cells (vC y) 30) :: [(u1.heap.size, Obj.cells (vC v0) 30)]) ++ F2 w a m b n) := ⟨_, rfl⟩
          have HHL := Lib.hid (show Holds w (h ++ FX) W2 by rw [hFX]; exact HHE3)
          have HYB := Lib.hid (fun w' (hb : Below W2.heap.size W2 w') => show w'.cell? ⟨u2.heap.size, 0, none⟩ = some (.int .i64 y.t) ∧ w'.cell? ⟨u2.heap.size, 1, none⟩ = some (.int .u8 y.n) ∧ w'.cell? ⟨u2.heap.size, 2, none⟩ = some (.string y.val) ∧ w'.cell? ⟨u2.heap.size, 3, none⟩ = some (.bool y.gone) by
            have h1 : Holds w ((u2.heap.size, .cells (vC y) 30) :: _) w' := (HHE3.grow hb).right
            exact ⟨h1.cell 0, h1.cell 1, h1.cell 2, h1.cell 3⟩)
          have HXB := Lib.hid (fun w' (hb : Below W2.heap.size W2 w') => show w'.cell? ⟨u1.heap.size, 0, none⟩ = some (.int .i64 v0.t) ∧ w'.cell? ⟨u1.heap.size, 1, none⟩ = some (.int .u8 v0.n) ∧ w'.cell? ⟨u1.heap.size, 2, none⟩ = some (.string v0.val) ∧ w'.cell? ⟨u1.heap.size, 3, none⟩ = some (.bool v0.gone) by
            have h1 : Holds w ((u1.heap.size, .cells (vC v0) 30) :: _) w' := (HHE3.grow hb).right.tail
            exact ⟨h1.cell 0, h1.cell 1, h1.cell 2, h1.cell 3⟩)
          have HS := Lib.hid (fun w' (hb : Below W2.heap.size W2 w') => F2.at_ (HHE3.grow hb))
          clear hW2 HHE3 hFX
          refine region_quiet_lit (C := fun w' => Below W2.heap.size W2 w') (by kernel_rfl) (by kernel_rfl) (Below.refl _ _).drew ?_
          go_big_quiet_step (exact fun _ => rfl)
          go_big_quiet_step (exact fun _ => rfl)
          go_big_quiet_skip
          go_big_quiet_skip
          go_big_quiet_skip
          go_big_quiet_skip
          go_big_quiet_skip
          go_big_quiet_skip
          go_big_quiet_skip
          go_big_quiet_skip
          go_big_quiet_skip
          go_big_quiet_skip
          go_big_quiet_skip
          go_big_quiet_skip
          go_big_quiet_skip
          go_big_quiet_skip
          go_big_quiet_skip
          go_big_quiet_step (exact fun _ => rfl)
          refine wpQuiet_nil ?_
          intro w4 hw4
          have HHL2 := Lib.hid (HHL.out.grow hw4)
          have HYB2 := Lib.hid (fun w' (hb : Below w4.heap.size w4 w') => HYB.out w' (hw4.trans (hb.mono hw4.size)))
          have HXB2 := Lib.hid (fun w' (hb : Below w4.heap.size w4 w') => HXB.out w' (hw4.trans (hb.mono hw4.size)))
          have HS2 := Lib.hid (fun w' (hb : Below w4.heap.size w4 w') => HS.out w' (hw4.trans (hb.mono hw4.size)))
          clear hw4 HHL HYB HXB HS
          go_wp2_with fail
          refine region_quiet_lit (C := fun w' => Below w4.heap.size w4 w') (by kernel_rfl) (by kernel_rfl) (Below.refl _ _).drew ?_
          go_big_quiet_step (exact fun _ => rfl)
          go_big_quiet_step (exact fun _ => rfl)
          refine BigFrame.wpQuiet_want rfl (fun K hK => ?_)
          refine quiet_val (.agg (sC a m)) (fun w2 hw => by obtain ⟨⟨q0, q1⟩, _⟩ := HS2.out w2 hw; simp [go_sem, q0, q1, sC]) (hK _ ?_)
          clear hK K
          simp only [Act.put, List.setIfInBounds_toArray, List.set_cons_zero, List.set_cons_succ]
          refine BigFrame.wpQuiet_want rfl (fun K hK => ?_)
          refine quiet_call 13 #[.pointer (some ⟨g, 0, none⟩), .agg (sC a m)] (.int .i64 Sa) (fun w2 => by simp [go_sem]) (fun w2 hw => by have := since_calls g L a m h FX w w2 HIL.out (HHL2.out.grow hw); rw [HSA.out] at this; exact this.mono fun e w3 hh => ⟨hh.1, hw.trans (hh.2.mono hw.size)⟩) (hK _ ?_)
          clear hK K
          simp only [Act.put, List.setIfInBounds_toArray, List.set_cons_zero, List.set_cons_succ]
          go_big_quiet_step (exact fun _ => rfl)
          refine BigFrame.wpQuiet_want rfl (fun K hK => ?_)
          refine quiet_val (.agg (sC b n)) (fun w2 hw => by obtain ⟨_, ⟨q0, q1⟩⟩ := HS2.out w2 hw; simp [go_sem, q0, q1, sC]) (hK _ ?_)
          clear hK K
          simp only [Act.put, List.setIfInBounds_toArray, List.set_cons_zero, List.set_cons_succ]
          refine BigFrame.wpQuiet_want rfl (fun K hK => ?_)
          refine quiet_call 13 #[.pointer (some ⟨g, 0, none⟩), .agg (sC b n)] (.int .i64 Sb) (fun w2 => by simp [go_sem]) (fun w2 hw => by have := since_calls g L b n h FX w w2 HIL.out (HHL2.out.grow hw); rw [HSB.out] at this; exact this.mono fun e w3 hh => ⟨hh.1, hw.trans (hh.2.mono hw.size)⟩) (hK _ ?_)
          clear hK K
          simp only [Act.put, List.setIfInBounds_toArray, List.set_cons_zero, List.set_cons_succ]
          go_big_quiet_step (exact fun _ => rfl)
          go_big_quiet_step (exact fun _ => rfl)
          go_big_quiet_step (exact fun _ => rfl)
          go_big_quiet_step (exact fun _ => rfl)
          go_big_quiet_step (exact fun _ => rfl)
          go_big_quiet_skip
          go_big_quiet_skip
          go_big_quiet_skip
          go_big_quiet_skip
          go_big_quiet_skip
          go_big_quiet_skip
          go_big_quiet_skip
          go_big_quiet_skip
          go_big_quiet_step (exact fun _ => rfl)
          go_big_quiet_step (exact fun _ => rfl)
          go_big_quiet_step (exact fun _ => rfl)
          go_big_quiet_step (exact fun _ => rfl)
          go_big_quiet_step (exact fun _ => rfl)
          go_big_quiet_step (exact fun _ => rfl)
          go_big_quiet_skip
          go_big_quiet_step (exact fun _ => rfl)
          go_big_quiet_step (exact fun _ => rfl)
          go_big_quiet_step (exact fun _ => rfl)
          refine wpQuiet_nil ?_
          intro w5 hw5
          have HB := Lib.hid (HHL2.out.grow hw5).below
          clear hw5
          go_wp2_with fail
          go_ret
          exact ⟨rfl, HB.out⟩
      · have heq : untilN L a m = untilN L b n := by omega
        rw [decide_eq_false hlt] at hbtw
        rw [hbtw]
        have HSB := Lib.hid (show (L.length : Int) - (untilN L b n : Int) = Sa by rw [← heq]; exact hSa)
        have hvv : verAt L b n = verAt L a m := by unfold verAt; rw [heq]
        cases hx : verAt L a m with
        | some x =>
          have HVA := Lib.hid hx
          have HVB := Lib.hid (hvv.trans hx)
          have hsx := seen_until hri hx
          have HSX := Lib.hid (show (L.length : Int) - (untilN L x.t x.n : Int) = Sa by rw [hsx.2]; exact hSa)
          obtain ⟨zx, hzx⟩ : ∃ zx, cs x.t x.n a m = zx := ⟨_, rfl⟩
          have hzx0 : zx ≤ 0 := by have := hsx.1; omega
          have HZX := Lib.hid hzx
          have hdz : decide (0 < zx) = false := decide_eq_false (by omega)
          clear hri hab hle hla hlb hbtw hpa hpb hSa hx hsx hzx hlt hLl hvv heq
          have HHE0 := HH1
          obtain ⟨⟨r0, r1⟩, _⟩ := F2.at_ HHE0.out
          go_wp2_with fail
          refine (at_calls g L a m h _ w _ HIL.out HHE0.out).mono ?_
          rintro e u1 ⟨he, hb⟩
          rw [HVA.out] at he
          simp only [Option.getD_some, Option.getD_none, Option.isSome_some, Option.isSome_none] at he
          subst he
          have hH := HHE0.out.grow hb
          have hH2 := hH.alloc (.cells #[.int .i64 0, .int .u8 0, .string ⟨#[]⟩, .bool false] 30)
          have g1 : (u1.alloc (.cells #[.int .i64 0, .int .u8 0, .string ⟨#[]⟩, .bool false] 30)).heap[u1.heap.size]? = some (.cells (vC v0) 30 (0, 0)) := hH2.get
          have hH3 := hH2.turn (row_grown _ u1.heap.size (vC x)) (setRow_heap _ _ _ _ _ _ g1)
          have hH4 := hH3.perm (k := h ++ (((u1.heap.size, .cells (vC x) 30) :: []) ++ F2 w a m b n)) (by classical rw [List.perm_iff_count]; intro a; simp only [List.count_append, List.count_cons, List.count_nil]; omega)
          have HHE1 := Lib.hid hH4
          have q23 := (F2.at_ HHE1.out).2
          obtain ⟨r2, r3⟩ := q23
          clear hb hH hH2 hH3 hH4 r0 r1
          go_wp2_with (with_reducible refine stV (.tmp 10) (.tmp 71) u1.heap.size x v0 rfl rfl g1 ?_)
          refine (at_calls g L b n h _ w _ HIL.out HHE1.out).mono ?_
          rintro e u2 ⟨he, hb⟩
          rw [HVB.out] at he
          simp only [Option.getD_some, Option.getD_none, Option.isSome_some, Option.isSome_none] at he
          subst he
          have hH := HHE1.out.grow hb
          have hH2 := hH.alloc (.cells #[.int .i64 0, .int .u8 0, .string ⟨#[]⟩, .bool false] 30)
          have g2 : (u2.alloc (.cells #[.int .i64 0, .int .u8 0, .string ⟨#[]⟩, .bool false] 30)).heap[u2.heap.size]? = some (.cells (vC v0) 30 (0, 0)) := hH2.get
          have hH3 := hH2.turn (row_grown _ u2.heap.size (vC x)) (setRow_heap _ _ _ _ _ _ g2)
          have hH4 := hH3.perm (k := h ++ (((u2.heap.size, .cells (vC x) 30) :: [(u1.heap.size, .cells (vC x) 30)]) ++ F2 w a m b n)) (by classical rw [List.perm_iff_count]; intro a; simp only [List.count_append, List.count_cons, List.count_nil]; omega)
          have HHE2 := Lib.hid hH4
          clear hb hH hH2 hH3 hH4 r2 r3
          go_wp2_with (with_reducible refine stV (.tmp 12) (.tmp 77) u2.heap.size x v0 rfl rfl g2 ?_)
          obtain ⟨W2, hW2⟩ : ∃ W2, W2 = ((u2.alloc (.cells #[.int .i64 0, .int .u8 0, .string ⟨#[]⟩, .bool false] 30)).setRow u2.heap.size (vC x)) := ⟨_, rfl⟩
          rw [← hW2]
          have HHE3 := HHE2.out
          rw [← hW2] at HHE3
          obtain ⟨FX, hFX⟩ : ∃ FX, FX = (((u2.heap.size, Obj.cells (vC x) 30) :: [(u1.heap.size, Obj.cells (vC x) 30)]) ++ F2 w a m b n) := ⟨_, rfl⟩
          have HHL := Lib.hid (show Holds w (h ++ FX) W2 by rw [hFX]; exact HHE3)
          have HYB := Lib.hid (fun w' (hb : Below W2.heap.size W2 w') => show w'.cell? ⟨u2.heap.size, 0, none⟩ = some (.int .i64 x.t) ∧ w'.cell? ⟨u2.heap.size, 1, none⟩ = some (.int .u8 x.n) ∧ w'.cell? ⟨u2.heap.size, 2, none⟩ = some (.string x.val) ∧ w'.cell? ⟨u2.heap.size, 3, none⟩ = some (.bool x.gone) by
            have h1 : Holds w ((u2.heap.size, .cells (vC x) 30) :: _) w' := (HHE3.grow hb).right
            exact ⟨h1.cell 0, h1.cell 1, h1.cell 2, h1.cell 3⟩)
          have HXB := Lib.hid (fun w' (hb : Below W2.heap.size W2 w') => show w'.cell? ⟨u1.heap.size, 0, none⟩ = some (.int .i64 x.t) ∧ w'.cell? ⟨u1.heap.size, 1, none⟩ = some (.int .u8 x.n) ∧ w'.cell? ⟨u1.heap.size, 2, none⟩ = some (.string x.val) ∧ w'.cell? ⟨u1.heap.size, 3, none⟩ = some (.bool x.gone) by
            have h1 : Holds w ((u1.heap.size, .cells (vC x) 30) :: _) w' := (HHE3.grow hb).right.tail
            exact ⟨h1.cell 0, h1.cell 1, h1.cell 2, h1.cell 3⟩)
          have HS := Lib.hid (fun w' (hb : Below W2.heap.size W2 w') => F2.at_ (HHE3.grow hb))
          clear hW2 HHE3 hFX
          refine region_quiet_lit (C := fun w' => Below W2.heap.size W2 w') (by kernel_rfl) (by kernel_rfl) (Below.refl _ _).drew ?_
          go_big_quiet_step (exact fun _ => rfl)
          go_big_quiet_step (exact fun _ => rfl)
          go_big_quiet_step (exact fun _ => rfl)
          refine BigFrame.wpQuiet_want rfl (fun K hK => ?_)
          refine quiet_val (.agg (sC x.t x.n)) (fun w2 hw => by obtain ⟨p0, p1, p2, p3⟩ := HXB.out w2 hw; simp [go_sem, p0, p1, p2, p3, vC, sC]) (hK _ ?_)
          clear hK K
          simp only [Act.put, List.setIfInBounds_toArray, List.set_cons_zero, List.set_cons_succ]
          refine BigFrame.wpQuiet_want rfl (fun K hK => ?_)
          refine quiet_val (.agg (sC a m)) (fun w2 hw => by obtain ⟨⟨q0, q1⟩, _⟩ := HS.out w2 hw; simp [go_sem, q0, q1, sC]) (hK _ ?_)
          clear hK K
          simp only [Act.put, List.setIfInBounds_toArray, List.set_cons_zero, List.set_cons_succ]
          refine BigFrame.wpQuiet_want rfl (fun K hK => ?_)
          refine quiet_call 9 #[.agg (sC x.t x.n), .agg (sC a m)] (.int .i64 zx) (fun w2 => by simp [go_sem]) (fun w2 hw => by have := rcmp_calls x.t x.n a m w2; rw [HZX.out] at this; exact this.mono fun e w3 hh => ⟨hh.1, hw.trans (hh.2.mono hw.size)⟩) (hK _ ?_)
          clear hK K
          simp only [Act.put, List.setIfInBounds_toArray, List.set_cons_zero, List.set_cons_succ]
          go_big_quiet_step (exact fun _ => rfl)
          go_big_quiet_step (exact fun _ => rfl)
          go_big_quiet_step (exact fun _ => rfl)
          go_big_quiet_step (exact fun _ => rfl)
          refine BigFrame.wpQuiet_want rfl (fun K hK => ?_)
          refine quiet_val (.agg (sC x.t x.n)) (fun w2 hw => by obtain ⟨p0, p1, p2, p3⟩ := HXB.out w2 hw; simp [go_sem, p0, p1, p2, p3, vC, sC]) (hK _ ?_)
          clear hK K
          simp only [Act.put, List.setIfInBounds_toArray, List.set_cons_zero, List.set_cons_succ]
          refine BigFrame.wpQuiet_want rfl (fun K hK => ?_)
          refine quiet_call 13 #[.pointer (some ⟨g, 0, none⟩), .agg (sC x.t x.n)] (.int .i64 Sa) (fun w2 => by simp [go_sem]) (fun w2 hw => by have := since_calls g L x.t x.n h FX w w2 HIL.out (HHL.out.grow hw); rw [HSX.out] at this; exact this.mono fun e w3 hh => ⟨hh.1, hw.trans (hh.2.mono hw.size)⟩) (hK _ ?_)
          clear hK K
          simp only [Act.put, List.setIfInBounds_toArray, List.set_cons_zero, List.set_cons_succ]
          go_big_quiet_step (exact fun _ => rfl)
          refine BigFrame.wpQuiet_want rfl (fun K hK => ?_)
          refine quiet_val (.agg (sC a m)) (fun w2 hw => by obtain ⟨⟨q0, q1⟩, _⟩ := HS.out w2 hw; simp [go_sem, q0, q1, sC]) (hK _ ?_)
          clear hK K
          simp only [Act.put, List.setIfInBounds_toArray, List.set_cons_zero, List.set_cons_succ]
          refine BigFrame.wpQuiet_want rfl (fun K hK => ?_)
          refine quiet_call 13 #[.pointer (some ⟨g, 0, none⟩), .agg (sC a m)] (.int .i64 Sa) (fun w2 => by simp [go_sem]) (fun w2 hw => by have := since_calls g L a m h FX w w2 HIL.out (HHL.out.grow hw); rw [HSA.out] at this; exact this.mono fun e w3 hh => ⟨hh.1, hw.trans (hh.2.mono hw.size)⟩) (hK _ ?_)
          clear hK K
          simp only [Act.put, List.setIfInBounds_toArray, List.set_cons_zero, List.set_cons_succ]
          go_big_quiet_step (exact fun _ => rfl)
          go_big_quiet_step (exact fun _ => rfl)
          go_big_quiet_step (exact fun _ => rfl)
          refine wpQuiet_nil ?_
          intro w4 hw4
          have HHL2 := Lib.hid (HHL.out.grow hw4)
          have HYB2 := Lib.hid (fun w' (hb : Below w4.heap.size w4 w') => HYB.out w' (hw4.trans (hb.mono hw4.size)))
          have HXB2 := Lib.hid (fun w' (hb : Below w4.heap.size w4 w') => HXB.out w' (hw4.trans (hb.mono hw4.size)))
          have HS2 := Lib.hid (fun w' (hb : Below w4.heap.size w4 w') => HS.out w' (hw4.trans (hb.mono hw4.size)))
          clear hw4 HHL HYB HXB HS
          go_wp2_with fail
          refine region_quiet_lit (C := fun w' => Below w4.heap.size w4 w') (by kernel_rfl) (by kernel_rfl) (Below.refl _ _).drew ?_
          go_big_quiet_step (exact fun _ => rfl)
          go_big_quiet_step (exact fun _ => rfl)
          refine BigFrame.wpQuiet_want rfl (fun K hK => ?_)
          refine quiet_val (.agg (sC a m)) (fun w2 hw => by obtain ⟨⟨q0, q1⟩, _⟩ := HS2.out w2 hw; simp [go_sem, q0, q1, sC]) (hK _ ?_)
          clear hK K
          simp only [Act.put, List.setIfInBounds_toArray, List.set_cons_zero, List.set_cons_succ]
          refine BigFrame.wpQuiet_want rfl (fun K hK => ?_)
          refine quiet_call 13 #[.pointer (some ⟨g, 0, none⟩), .agg (sC a m)] (.int .i64 Sa) (fun w2 => by simp [go_sem]) (fun w2 hw => by have := since_calls g L a m h FX w w2 HIL.out (HHL2.out.grow hw); rw [HSA.out] at this; exact this.mono fun e w3 hh => ⟨hh.1, hw.trans (hh.2.mono hw.size)⟩) (hK _ ?_)
          clear hK K
          simp only [Act.put, List.setIfInBounds_toArray, List.set_cons_zero, List.set_cons_succ]
          go_big_quiet_step (exact fun _ => rfl)
          refine BigFrame.wpQuiet_want rfl (fun K hK => ?_)
          refine quiet_val (.agg (sC b n)) (fun w2 hw => by obtain ⟨_, ⟨q0, q1⟩⟩ := HS2.out w2 hw; simp [go_sem, q0, q1, sC]) (hK _ ?_)
          clear hK K
          simp only [Act.put, List.setIfInBounds_toArray, List.set_cons_zero, List.set_cons_succ]
          refine BigFrame.wpQuiet_want rfl (fun K hK => ?_)
          refine quiet_call 13 #[.pointer (some ⟨g, 0, none⟩), .agg (sC b n)] (.int .i64 Sa) (fun w2 => by simp [go_sem]) (fun w2 hw => by have := since_calls g L b n h FX w w2 HIL.out (HHL2.out.grow hw); rw [HSB.out] at this; exact this.mono fun e w3 hh => ⟨hh.1, hw.trans (hh.2.mono hw.size)⟩) (hK _ ?_)
          clear hK K
          simp only [Act.put, List.setIfInBounds_toArray, List.set_cons_zero, List.set_cons_succ]
          go_big_quiet_step (exact fun _ => rfl)
          go_big_quiet_step (exact fun _ => rfl)
          go_big_quiet_step (exact fun _ => rfl)
          go_big_quiet_step (exact fun _ => rfl)
          go_big_quiet_step (exact fun _ => rfl)
          go_big_quiet_step (exact fun _ => rfl)
          go_big_quiet_step (exact fun _ => rfl)
          go_big_quiet_step (exact fun _ => rfl)
          go_big_quiet_step (exact fun _ => rfl)
          refine BigFrame.wpQuiet_want rfl (fun K hK => ?_)
          refine quiet_val (.agg (vC x)) (fun w2 hw => by obtain ⟨p0, p1, p2, p3⟩ := HXB2.out w2 hw; simp [go_sem, p0, p1, p2, p3, vC, sC]) (hK _ ?_)
          clear hK K
          simp only [Act.put, List.setIfInBounds_toArray, List.set_cons_zero, List.set_cons_succ]
          refine BigFrame.wpQuiet_want rfl (fun K hK => ?_)
          refine quiet_val (.agg (vC x)) (fun w2 hw => by obtain ⟨p0, p1, p2, p3⟩ := HYB2.out w2 hw; simp [go_sem, p0, p1, p2, p3, vC, sC]) (hK _ ?_)
          clear hK K
          simp only [Act.put, List.setIfInBounds_toArray, List.set_cons_zero, List.set_cons_succ]
          refine BigFrame.wpQuiet_want rfl (fun K hK => ?_)
          refine quiet_val (.bool true) (fun w2 hw => eq_ver _ w2) (hK _ ?_)
          clear hK K
          simp only [Act.put, List.setIfInBounds_toArray, List.set_cons_zero, List.set_cons_succ]
          go_big_quiet_step (exact fun _ => rfl)
          go_big_quiet_step (exact fun _ => rfl)
          go_big_quiet_step (exact fun _ => rfl)
          go_big_quiet_step (exact fun _ => rfl)
          go_big_quiet_step (exact fun _ => rfl)
          go_big_quiet_step (exact fun _ => rfl)
          go_big_quiet_step (exact fun _ => rfl)
          go_big_quiet_step (exact fun _ => rfl)
          go_big_quiet_step (exact fun _ => rfl)
          go_big_quiet_step (exact fun _ => rfl)
          go_big_quiet_step (exact fun _ => rfl)
          refine wpQuiet_nil ?_
          intro w5 hw5
          have HB := Lib.hid (HHL2.out.grow hw5).below
          clear hw5
          go_wp2_with fail
          go_ret
          exact ⟨rfl, HB.out⟩
        | none =>
          have HVA := Lib.hid hx
          have HVB := Lib.hid (hvv.trans hx)
          clear hri hab hle hla hlb hbtw hpa hpb hSa hx hlt hLl hvv heq
          have HHE0 := HH1
          obtain ⟨⟨r0, r1⟩, _⟩ := F2.at_ HHE0.out
          go_wp2_with fail
          refine (at_calls g L a m h _ w _ HIL.out HHE0.out).mono ?_
          rintro e u1 ⟨he, hb⟩
          rw [HVA.out] at he
          simp only [Option.getD_some, Option.getD_none, Option.isSome_some, Option.isSome_none] at he
          subst he
          have hH := HHE0.out.grow hb
          have hH2 := hH.alloc (.cells #[.int .i64 0, .int .u8 0, .string ⟨#[]⟩, .bool false] 30)
          have g1 : (u1.alloc (.cells #[.int .i64 0, .int .u8 0, .string ⟨#[]⟩, .bool false] 30)).heap[u1.heap.size]? = some (.cells (vC v0) 30 (0, 0)) := hH2.get
          have hH3 := hH2.turn (row_grown _ u1.heap.size (vC v0)) (setRow_heap _ _ _ _ _ _ g1)
          have hH4 := hH3.perm (k := h ++ (((u1.heap.size, .cells (vC v0) 30) :: []) ++ F2 w a m b n)) (by classical rw [List.perm_iff_count]; intro a; simp only [List.count_append, List.count_cons, List.count_nil]; omega)
          have HHE1 := Lib.hid hH4
          have q23 := (F2.at_ HHE1.out).2
          obtain ⟨r2, r3⟩ := q23
          clear hb hH hH2 hH3 hH4 r0 r1
          go_wp2_with (with_reducible refine stV (.tmp 10) (.tmp 71) u1.heap.size v0 v0 rfl rfl g1 ?_)
          refine (at_calls g L b n h _ w _ HIL.out HHE1.out).mono ?_
          rintro e u2 ⟨he, hb⟩
          rw [HVB.out] at he
          simp only [Option.getD_some, Option.getD_none, Option.isSome_some, Option.isSome_none] at he
          subst he
          have hH := HHE1.out.grow hb
          have hH2 := hH.alloc (.cells #[.int .i64 0, .int .u8 0, .string ⟨#[]⟩, .bool false] 30)
          have g2 : (u2.alloc (.cells #[.int .i64 0, .int .u8 0, .string ⟨#[]⟩, .bool false] 30)).heap[u2.heap.size]? = some (.cells (vC v0) 30 (0, 0)) := hH2.get
          have hH3 := hH2.turn (row_grown _ u2.heap.size (vC v0)) (setRow_heap _ _ _ _ _ _ g2)
          have hH4 := hH3.perm (k := h ++ (((u2.heap.size, .cells (vC v0) 30) :: [(u1.heap.size, .cells (vC v0) 30)]) ++ F2 w a m b n)) (by classical rw [List.perm_iff_count]; intro a; simp only [List.count_append, List.count_cons, List.count_nil]; omega)
          have HHE2 := Lib.hid hH4
          clear hb hH hH2 hH3 hH4 r2 r3
          go_wp2_with (with_reducible refine stV (.tmp 12) (.tmp 77) u2.heap.size v0 v0 rfl rfl g2 ?_)
          obtain ⟨W2, hW2⟩ : ∃ W2, W2 = ((u2.alloc (.cells #[.int .i64 0, .int .u8 0, .string ⟨#[]⟩, .bool false] 30)).setRow u2.heap.size (vC v0)) := ⟨_, rfl⟩
          rw [← hW2]
          have HHE3 := HHE2.out
          rw [← hW2] at HHE3
          obtain ⟨FX, hFX⟩ : ∃ FX, FX = (((u2.heap.size, Obj.cells (vC v0) 30) :: [(u1.heap.size, Obj.cells (vC v0) 30)]) ++ F2 w a m b n) := ⟨_, rfl⟩
          have HHL := Lib.hid (show Holds w (h ++ FX) W2 by rw [hFX]; exact HHE3)
          have HYB := Lib.hid (fun w' (hb : Below W2.heap.size W2 w') => show w'.cell? ⟨u2.heap.size, 0, none⟩ = some (.int .i64 v0.t) ∧ w'.cell? ⟨u2.heap.size, 1, none⟩ = some (.int .u8 v0.n) ∧ w'.cell? ⟨u2.heap.size, 2, none⟩ = some (.string v0.val) ∧ w'.cell? ⟨u2.heap.size, 3, none⟩ = some (.bool v0.gone) by
            have h1 : Holds w ((u2.heap.size, .cells (vC v0) 30) :: _) w' := (HHE3.grow hb).right
            exact ⟨h1.cell 0, h1.cell 1, h1.cell 2, h1.cell 3⟩)
          have HXB := Lib.hid (fun w' (hb : Below W2.heap.size W2 w') => show w'.cell? ⟨u1.heap.size, 0, none⟩ = some (.int .i64 v0.t) ∧ w'.cell? ⟨u1.heap.size, 1, none⟩ = some (.int .u8 v0.n) ∧ w'.cell? ⟨u1.heap.size, 2, none⟩ = some (.string v0.val) ∧ w'.cell? ⟨u1.heap.size, 3, none⟩ = some (.bool v0.gone) by
            have h1 : Holds w ((u1.heap.size, .cells (vC v0) 30) :: _) w' := (HHE3.grow hb).right.tail
            exact ⟨h1.cell 0, h1.cell 1, h1.cell 2, h1.cell 3⟩)
          have HS := Lib.hid (fun w' (hb : Below W2.heap.size W2 w') => F2.at_ (HHE3.grow hb))
          clear hW2 HHE3 hFX
          refine region_quiet_lit (C := fun w' => Below W2.heap.size W2 w') (by kernel_rfl) (by kernel_rfl) (Below.refl _ _).drew ?_
          go_big_quiet_step (exact fun _ => rfl)
          go_big_quiet_step (exact fun _ => rfl)
          go_big_quiet_skip
          go_big_quiet_skip
          go_big_quiet_skip
          go_big_quiet_skip
          go_big_quiet_skip
          go_big_quiet_skip
          go_big_quiet_skip
          go_big_quiet_skip
          go_big_quiet_skip
          go_big_quiet_skip
          go_big_quiet_skip
          go_big_quiet_skip
          go_big_quiet_skip
          go_big_quiet_skip
          go_big_quiet_skip
          go_big_quiet_step (exact fun _ => rfl)
          refine wpQuiet_nil ?_
          intro w4 hw4
          have HHL2 := Lib.hid (HHL.out.grow hw4)
          have HYB2 := Lib.hid (fun w' (hb : Below w4.heap.size w4 w') => HYB.out w' (hw4.trans (hb.mono hw4.size)))
          have HXB2 := Lib.hid (fun w' (hb : Below w4.heap.size w4 w') => HXB.out w' (hw4.trans (hb.mono hw4.size)))
          have HS2 := Lib.hid (fun w' (hb : Below w4.heap.size w4 w') => HS.out w' (hw4.trans (hb.mono hw4.size)))
          clear hw4 HHL HYB HXB HS
          go_wp2_with fail
          refine region_quiet_lit (C := fun w' => Below w4.heap.size w4 w') (by kernel_rfl) (by kernel_rfl) (Below.refl _ _).drew ?_
          go_big_quiet_step (exact fun _ => rfl)
          go_big_quiet_step (exact fun _ => rfl)
          refine BigFrame.wpQuiet_want rfl (fun K hK => ?_)
          refine quiet_val (.agg (sC a m)) (fun w2 hw => by obtain ⟨⟨q0, q1⟩, _⟩ := HS2.out w2 hw; simp [go_sem, q0, q1, sC]) (hK _ ?_)
          clear hK K
          simp only [Act.put, List.setIfInBounds_toArray, List.set_cons_zero, List.set_cons_succ]
          refine BigFrame.wpQuiet_want rfl (fun K hK => ?_)
          refine quiet_call 13 #[.pointer (some ⟨g, 0, none⟩), .agg (sC a m)] (.int .i64 Sa) (fun w2 => by simp [go_sem]) (fun w2 hw => by have := since_calls g L a m h FX w w2 HIL.out (HHL2.out.grow hw); rw [HSA.out] at this; exact this.mono fun e w3 hh => ⟨hh.1, hw.trans (hh.2.mono hw.size)⟩) (hK _ ?_)
          clear hK K
          simp only [Act.put, List.setIfInBounds_toArray, List.set_cons_zero, List.set_cons_succ]
          go_big_quiet_step (exact fun _ => rfl)
          refine BigFrame.wpQuiet_want rfl (fun K hK => ?_)
          refine quiet_val (.agg (sC b n)) (fun w2 hw => by obtain ⟨_, ⟨q0, q1⟩⟩ := HS2.out w2 hw; simp [go_sem, q0, q1, sC]) (hK _ ?_)
          clear hK K
          simp only [Act.put, List.setIfInBounds_toArray, List.set_cons_zero, List.set_cons_succ]
          refine BigFrame.wpQuiet_want rfl (fun K hK => ?_)
          refine quiet_call 13 #[.pointer (some ⟨g, 0, none⟩), .agg (sC b n)] (.int .i64 Sa) (fun w2 => by simp [go_sem]) (fun w2 hw => by have := since_calls g L b n h FX w w2 HIL.out (HHL2.out.grow hw); rw [HSB.out] at this; exact this.mono fun e w3 hh => ⟨hh.1, hw.trans (hh.2.mono hw.size)⟩) (hK _ ?_)
          clear hK K
          simp only [Act.put, List.setIfInBounds_toArray, List.set_cons_zero, List.set_cons_succ]
          go_big_quiet_step (exact fun _ => rfl)
          go_big_quiet_step (exact fun _ => rfl)
          go_big_quiet_step (exact fun _ => rfl)
          go_big_quiet_step (exact fun _ => rfl)
          go_big_quiet_step (exact fun _ => rfl)
          go_big_quiet_step (exact fun _ => rfl)
          go_big_quiet_step (exact fun _ => rfl)
          go_big_quiet_step (exact fun _ => rfl)
          go_big_quiet_step (exact fun _ => rfl)
          refine BigFrame.wpQuiet_want rfl (fun K hK => ?_)
          refine quiet_val (.agg (vC v0)) (fun w2 hw => by obtain ⟨p0, p1, p2, p3⟩ := HXB2.out w2 hw; simp [go_sem, p0, p1, p2, p3, vC, sC]) (hK _ ?_)
          clear hK K
          simp only [Act.put, List.setIfInBounds_toArray, List.set_cons_zero, List.set_cons_succ]
          refine BigFrame.wpQuiet_want rfl (fun K hK => ?_)
          refine quiet_val (.agg (vC v0)) (fun w2 hw => by obtain ⟨p0, p1, p2, p3⟩ := HYB2.out w2 hw; simp [go_sem, p0, p1, p2, p3, vC, sC]) (hK _ ?_)
          clear hK K
          simp only [Act.put, List.setIfInBounds_toArray, List.set_cons_zero, List.set_cons_succ]
          refine BigFrame.wpQuiet_want rfl (fun K hK => ?_)
          refine quiet_val (.bool true) (fun w2 hw => eq_ver _ w2) (hK _ ?_)
          clear hK K
          simp only [Act.put, List.setIfInBounds_toArray, List.set_cons_zero, List.set_cons_succ]
          go_big_quiet_step (exact fun _ => rfl)
          go_big_quiet_step (exact fun _ => rfl)
          go_big_quiet_step (exact fun _ => rfl)
          go_big_quiet_step (exact fun _ => rfl)
          go_big_quiet_step (exact fun _ => rfl)
          go_big_quiet_step (exact fun _ => rfl)
          go_big_quiet_step (exact fun _ => rfl)
          go_big_quiet_skip
          go_big_quiet_step (exact fun _ => rfl)
          go_big_quiet_step (exact fun _ => rfl)
          go_big_quiet_step (exact fun _ => rfl)
          refine wpQuiet_nil ?_
          intro w5 hw5
          have HB := Lib.hid (HHL2.out.grow hw5).below
          clear hw5
          go_wp2_with fail
          go_ret
          exact ⟨rfl, HB.out⟩
end Go.Proofs.Ytgkigcobaimccaa
