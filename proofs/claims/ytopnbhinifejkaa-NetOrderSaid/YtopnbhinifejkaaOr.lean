/- NetOrder's walk. No condition. -/
import Derived.Test.YtopnbhinifejkaaAw
import Derived.Test.YtopnbhinifejkaaOb
import Derived.Test.YtopnbhinifejkaaOl
import Derived.LoopTactic
namespace Go.Proofs.Ytopnbhinifejkaa
open Go.RowKit Go.Proofs.Ytopnbhinifejkaa.Sp
set_option linter.unusedVariables false
set_option linter.unusedSimpArgs false
def RelA (w : World) (g : Nat) (l : List (List UInt8)) (i : Value) (wr : World) : Prop :=
  ∃ (k : Nat) (h : Hp), k ≤ l.length ∧ i = .int .i64 k ∧ IsN g (mS l k) h ∧ Holds w h wr ∧ ∀ j b, j < k → l[j]? = some b → 1 ≤ b.length ∧ b.length ≤ 100
def RelB (w : World) (g : Nat) (l : List (List UInt8)) (k : Nat) (y : UInt8) (i : Value) (wr : World) : Prop :=
  ∃ (j : Nat) (h : Hp), j ≤ l.length + 1 ∧ i = .int .i64 j ∧ IsN g (mT l l.length k y j) h ∧ Holds w h wr
set_option maxRecDepth 100000 in
set_option maxHeartbeats 4000000 in
theorem order_walk (A : Option Addr) (ca : Nat) (l : List (List UInt8)) (k : Int) (y : UInt8) (w : World) (hA : InBs w A l) (hk64 : (Lit.int .i64 k).wf = true) :
    Calls Try.prog 3 #[.slice A l.length ca, .int .i64 k, .int .u8 y.toNat] w fun e w' => e = .returned (.bool true) ∧ Below w.heap.size w w' := by
  by_cases c1 : (30 : Int) < (l.length : Int)
  · go_enter Try.func3, Try.ntmps3
    go_wp2_with fail
    refine (awake_calls w).mono ?_
    rintro e w1 ⟨rfl, hb⟩
    go_wp2_with fail
    go_ret
    exact ⟨rfl, hb⟩
  by_cases c2 : k < 0
  · go_enter Try.func3, Try.ntmps3
    go_wp2_with fail
    refine (awake_calls w).mono ?_
    rintro e w1 ⟨rfl, hb⟩
    go_wp2_with fail
    go_ret
    exact ⟨rfl, hb⟩
  by_cases c3 : (l.length : Int) ≤ k
  · go_enter Try.func3, Try.ntmps3
    go_wp2_with fail
    refine (awake_calls w).mono ?_
    rintro e w1 ⟨rfl, hb⟩
    go_wp2_with fail
    go_ret
    exact ⟨rfl, hb⟩
  by_cases c4 : y = 0
  · subst c4
    go_enter Try.func3, Try.ntmps3
    go_wp2_with fail
    refine (awake_calls w).mono ?_
    rintro e w1 ⟨rfl, hb⟩
    go_wp2_with fail
    go_ret
    exact ⟨rfl, hb⟩
  have hy : ¬ ((y.toNat : Int) = 0) := fun h => c4 (UInt8.toNat_inj.mp (by simpa using h))
  have hy2 : ((y.toNat : Int) == 0) = false := by rw [beq_eq_false_iff_ne]; exact hy
  obtain ⟨k, rfl⟩ : ∃ k' : Nat, k = k' := ⟨k.toNat, by omega⟩
  have hkl : k < l.length := by omega
  have HA := Lib.hid hA
  have HY := Lib.hid c4
  clear hA c4
  go_enter Try.func3, Try.ntmps3
  go_wp2_with fail
  refine (awake_calls w).mono ?_
  rintro e w1 ⟨rfl, hb⟩
  have HH0 := Lib.hid (Holds.of_below hb)
  clear hb
  go_wp2_with fail
  refine (new_calls 3 100 (by omega) (by omega) w w1 [] HH0.out).mono ?_
  rintro e w2 ⟨g, rfl, h, hI, hH⟩
  have HI := Lib.hid hI; have HH := Lib.hid hH
  clear hI hH HH0
  go_wp2_with fail
  go_loopw [9] (fun i wr => RelA w g l i wr) (fun i _ => l.length - (intOf i).toNat)
  case atStart => exact ⟨0, h, by omega, rfl, HI.out, by simpa using HH.out, fun j b hj => by omega⟩
  case round =>
    obtain ⟨i, hs, hi, rfl, hI, hH, hall⟩ := hrel
    have HI1 := Lib.hid hI; have HH1 := Lib.hid hH; have HALL := Lib.hid hall
    clear hI hH HI HH hall
    by_cases hlt : i < l.length
    · obtain ⟨b, hb⟩ : ∃ b, l[i]? = some b := ⟨_, List.getElem?_eq_getElem hlt⟩
      obtain ⟨ad, Aj, Cj, hAe, hcell, hIn⟩ := HA.out i b hb
      subst hAe
      have HIN := Lib.hid hIn
      have HB := Lib.hid hb
      have hc0 : wr.cell? (ad.add i) = some (.slice Aj b.length Cj) := (HH1.out.below.cell (World.block_lt_of_cell? w _ hcell)).trans hcell
      clear hIn hb hcell
      by_cases h1 : (b.length : Int) < 1
      · go_wp2_with fail
        go_ret
        exact ⟨rfl, HH1.out.below⟩
      by_cases h3 : (100 : Int) < (b.length : Int)
      · go_wp2_with fail
        go_ret
        exact ⟨rfl, HH1.out.below⟩
      have hp : sentP l i = ⟨(i : Int) % 3, ((i : Int) + 1) % 3, b⟩ := by
        unfold sentP
        rw [List.getD_eq_getElem?_getD, HB.out]
        rfl
      have hq := send_law l i (by omega)
      rw [hp] at hq
      have HQ := Lib.hid hq
      clear hq hp
      go_wp2_with fail
      refine (send_calls g (mS l i) hs [] (.slice Aj b.length Cj) ⟨(i : Int) % 3, ((i : Int) + 1) % 3, b⟩ Aj Cj w wr rfl HIN.out.1 (by show b.length ≤ 1000; omega) (fun w' H => HIN.out.at_ H) HI1.out (by simpa using HH1.out)).mono ?_
      rintro e w3 ⟨he, h', hI, hH⟩
      rw [HQ.out] at he hI
      subst he
      have HI2 := Lib.hid hI; have HH2 := Lib.hid hH
      clear hI hH
      go_wp2_with fail
      go_roundw
      case rel =>
        refine ⟨i + 1, h', by omega, by go_num, HI2.out, by simpa using HH2.out, fun j c hj hc => ?_⟩
        rcases Nat.lt_or_ge j i with hji | hji
        · exact HALL.out j c hji hc
        · obtain rfl : j = i := by omega
          obtain rfl : b = c := Option.some.inj (HB.out.symm.trans hc)
          omega
      case measure => simp [intOf]; omega
    · obtain rfl : i = l.length := by omega
      obtain ⟨bk, hbk⟩ : ∃ b, l[k]? = some b := ⟨_, List.getElem?_eq_getElem hkl⟩
      have hbk2 : l.getD k [] = bk := by rw [List.getD_eq_getElem?_getD, hbk]; rfl
      have HCO := Lib.hid (copy_law l l.length k hkl (by omega))
      have HSP := Lib.hid (spoil_law l l.length k y hkl (by rw [hbk2]; exact (HALL.out k bk hkl hbk).1) HY.out)
      clear hbk hbk2
      go_wp2_with fail
      refine (copy_calls g (mS l l.length) hs [] k w wr HI1.out (by simpa using HH1.out)).mono ?_
      rintro e w3 ⟨he, h3, hI, hH⟩
      rw [HCO.out] at he hI
      subst he
      have HI2 := Lib.hid hI; have HH2 := Lib.hid hH
      clear hI hH HI1 HH1
      go_wp2_with fail
      refine (spoil_calls g _ h3 [] k 0 y w w3 HI2.out HH2.out).mono ?_
      rintro e w4 ⟨he, h4, hI, hH⟩
      rw [HSP.out] at he hI
      subst he
      have HI3 := Lib.hid hI; have HH3 := Lib.hid hH
      clear hI hH HI2 HH2
      go_wp2_with fail
      have hlen : ∀ j b, j < l.length → l[j]? = some b → 1 ≤ b.length ∧ b.length ≤ 100 := HALL.out
      have HLEN := Lib.hid hlen
      clear hlen
      go_loopw [10] (fun i wr => RelB w g l k y i wr) (fun i _ => l.length + 1 - (intOf i).toNat)
      case atStart => exact ⟨0, h4, by omega, rfl, HI3.out, by simpa using HH3.out⟩
      case round =>
        obtain ⟨j, h, hj, rfl, hI, hH⟩ := hrel
        have HI1 := Lib.hid hI; have HH1 := Lib.hid hH
        clear hI hH HI3 HH3
        by_cases hjl1 : j ≤ l.length
        · by_cases hjk : j = k
          · subst hjk
            obtain ⟨bw, hbw⟩ : ∃ b, l[j]? = some b := ⟨_, List.getElem?_eq_getElem (by omega)⟩
            have hbl := HLEN.out j bw (by omega) hbw
            obtain ⟨ad, Aj, Cj, hAe, hcell, hIn⟩ := HA.out j bw hbw
            subst hAe
            obtain ⟨bs, hbs⟩ : ∃ bs, bs = spoilB bw 0 y := ⟨_, rfl⟩
            have HBSL := Lib.hid (show bs.length = bw.length by rw [hbs]; simp [spoilB])
            have hqp : qP l l.length j y j = (⟨(j : Int) % 3, ((j : Int) + 1) % 3, bs⟩ : Pk) := by
              unfold qP spk sentP
              rw [if_pos rfl, hbs, List.getD_eq_getElem?_getD, hbw]
              rfl
            obtain ⟨hta, htt⟩ := take_at l l.length j y hkl j (by omega)
            rw [hqp] at hta
            have HTA := Lib.hid hta; have HTT := Lib.hid htt; have HIN := Lib.hid hIn
            have HBW := Lib.hid hbw
            clear hta htt hqp hIn hbw
            go_wp2_with fail
            refine (take_calls g (mT l l.length j y j) h [] 0 w wr HI1.out (by simpa using HH1.out)).mono ?_
            rintro e w5 ⟨v, hv, he, hRv, h', hI, hH⟩
            rw [HTA.out] at he hRv
            rw [HTT.out] at hI
            simp only [Option.getD_some, Option.isSome_some] at he hRv
            obtain ⟨A5, c5, rfl, _, _⟩ := RowB.form hRv
            subst he
            have g1 : (w5.alloc (.cells #[.int .i64 0, .int .i64 0, .slice none 0 0] 31)).heap[w5.heap.size]? = some (.cells (pkC (.slice none 0 0) pk0) 31 (0, 0)) := (hH.alloc _).get
            have hH2 : Holds w ((w5.heap.size, .cells (pkC (.slice A5 bs.length c5) (⟨(j : Int) % 3, ((j : Int) + 1) % 3, bs⟩ : Pk)) 31) :: (h' ++ (hv ++ []))) ((w5.alloc (.cells #[.int .i64 0, .int .i64 0, .slice none 0 0] 31)).setRow w5.heap.size (pkC (.slice A5 bs.length c5) (⟨(j : Int) % 3, ((j : Int) + 1) % 3, bs⟩ : Pk))) := (hH.alloc (.cells #[.int .i64 0, .int .i64 0, .slice none 0 0] 31)).turn (row_grown _ w5.heap.size _) (setRow_heap _ _ _ _ _ _ g1)
            have hH3 := hH2.alloc (.cells #[] 5)
            have hc0 : (((w5.alloc (.cells #[.int .i64 0, .int .i64 0, .slice none 0 0] 31)).setRow w5.heap.size (pkC (.slice A5 bs.length c5) (⟨(j : Int) % 3, ((j : Int) + 1) % 3, bs⟩ : Pk))).alloc (.cells #[] 5)).cell? (ad.add j) = some (.slice Aj bw.length Cj) := (hH3.below.cell (World.block_lt_of_cell? w _ hcell)).trans hcell
            obtain ⟨v6, h6, w6, r1, r2, r3⟩ := bytes_append (bs := []) (RowB.lit hH2 #[] 0 (Nat.zero_le _) rfl) hH3 28 Aj Cj bw HIN.out.1 (HIN.out.2.2.2.below hH3.below) (by simp; omega)
            simp only [List.nil_append] at r2
            have e3 : ((w5.alloc (.cells #[.int .i64 0, .int .i64 0, .slice none 0 0] 31)).setRow w5.heap.size (pkC (.slice A5 bs.length c5) (⟨(j : Int) % 3, ((j : Int) + 1) % 3, bs⟩ : Pk))).heap.size = w5.heap.size + 1 := by simp
            rw [e3] at r1
            obtain ⟨g6, c6, rfl, hc6, hcs⟩ := RowB.at_ r2 (by omega)
            have r3' : Holds w (h6 ++ ((w5.heap.size, .cells (pkC (.slice A5 bs.length c5) (⟨(j : Int) % 3, ((j : Int) + 1) % 3, bs⟩ : Pk)) 31) :: (h' ++ (hv ++ [])))) w6 := r3
            obtain ⟨cur, rfl, hcz, hput⟩ := RowB.putn r2
            obtain ⟨z, hz⟩ : ∃ z, z = bw.getD 0 0 := ⟨_, rfl⟩
            have hz0 : (bv bw)[0]? = some (.int .u8 z.toNat) := by
              unfold bv
              rw [List.getElem?_map, List.getElem?_eq_getElem (by omega), hz, List.getD_eq_getElem?_getD, List.getElem?_eq_getElem (by omega)]
              rfl
            have q5 : w6.cell? ⟨g6, 0, none⟩ = some (.int .u8 z.toNat) := hcs w _ w6 r3' 0 _ hz0
            have q6 : w6.frozen? ⟨g6, 0, none⟩ = false := (show Holds w ((g6, .cells cur 5 (0, 0)) :: _) w6 from r3').froz 0
            obtain ⟨zz, hzz⟩ : ∃ zz, zz = z ^^^ y := ⟨_, rfl⟩
            have hx8 : Go.bits .xor .u8 (z.toNat : Int) (y.toNat : Int) = (zz.toNat : Nat) := by rw [hzz]; exact xorB z y
            have r3b : Holds w ((g6, .cells (cur.setIfInBounds 0 (.int .u8 zz.toNat)) 5 (0, 0)) :: ((w5.heap.size, .cells (pkC (.slice A5 bs.length c5) (⟨(j : Int) % 3, ((j : Int) + 1) % 3, bs⟩ : Pk)) 31) :: (h' ++ (hv ++ [])))) (w6.setCell ⟨g6, 0, none⟩ (.int .u8 zz.toNat)) := Holds.set (show Holds w ((g6, .cells cur 5 (0, 0)) :: _) w6 from r3') 0 _
            have r2b : RowB 5 1 (.slice (some ⟨g6, 0, none⟩) bs.length c6) bs.length (bv bs) [(g6, .cells (cur.setIfInBounds 0 (.int .u8 zz.toNat)) 5 (0, 0))] := by
              have := hput 0 (.int .u8 zz.toNat) (by omega)
              have e2 : bv bs = (bv bw).set 0 (.int .u8 zz.toNat) := by
                rw [hbs]
                unfold bv spoilB
                rw [List.map_set, ← hz, ← hzz]
              rw [e2, HBSL.out]
              exact this
            have r4 : Holds w ((w5.heap.size, .cells (pkC (.slice A5 bs.length c5) (⟨(j : Int) % 3, ((j : Int) + 1) % 3, bs⟩ : Pk)) 31) :: (hv ++ ([(g6, .cells (cur.setIfInBounds 0 (.int .u8 zz.toNat)) 5 (0, 0))] ++ h'))) (w6.setCell ⟨g6, 0, none⟩ (.int .u8 zz.toNat)) := r3b.perm (by classical rw [List.perm_iff_count]; intro a; simp only [List.count_append, List.count_cons, List.count_nil]; omega)
            have r5 : Holds w ([(g6, .cells (cur.setIfInBounds 0 (.int .u8 zz.toNat)) 5 (0, 0))] ++ (hv ++ (h' ++ [(w5.heap.size, .cells (pkC (.slice A5 bs.length c5) (⟨(j : Int) % 3, ((j : Int) + 1) % 3, bs⟩ : Pk)) 31)]))) (w6.setCell ⟨g6, 0, none⟩ (.int .u8 zz.toNat)) := r3b.perm (by classical rw [List.perm_iff_count]; intro a; simp only [List.count_append, List.count_cons, List.count_nil]; omega)
            have hcv2 : (convert 28 9 (.slice (some ⟨g6, 0, none⟩) bw.length c6)).run Try.prog (w6.setCell ⟨g6, 0, none⟩ (.int .u8 zz.toNat)) = .ok (.string ⟨bs.toArray⟩) (w6.setCell ⟨g6, 0, none⟩ (.int .u8 zz.toNat)) := by
              have := conv_str (b := bs) r2b r5
              rwa [HBSL.out] at this
            have q7 : (w6.setCell ⟨g6, 0, none⟩ (.int .u8 zz.toNat)).cell? ⟨w5.heap.size, 0, none⟩ = some (.int .i64 ((j : Int) % 3)) := r4.cell 0
            have q8 : (w6.setCell ⟨g6, 0, none⟩ (.int .u8 zz.toNat)).cell? ⟨w5.heap.size, 2, none⟩ = some (.slice A5 bs.length c5) := r4.cell 2
            have hcv1 : (convert 28 9 (.slice A5 bs.length c5)).run Try.prog (w6.setCell ⟨g6, 0, none⟩ (.int .u8 zz.toNat)) = .ok (.string ⟨bs.toArray⟩) (w6.setCell ⟨g6, 0, none⟩ (.int .u8 zz.toNat)) := conv_str (b := bs) hRv (r4.tail)
            have R1 := Lib.hid r1; have HHF := Lib.hid (r4.perm (k := h' ++ ((w5.heap.size, .cells (pkC (.slice A5 bs.length c5) (⟨(j : Int) % 3, ((j : Int) + 1) % 3, bs⟩ : Pk)) 31) :: (hv ++ [(g6, .cells (cur.setIfInBounds 0 (.int .u8 zz.toNat)) 5 (0, 0))]))) (by classical rw [List.perm_iff_count]; intro a; simp only [List.count_append, List.count_cons, List.count_nil]; omega))
            have HI2 := Lib.hid hI
            clear hH hH2 hH3 r1 r2 r3 r3' r4 r5 hRv hI hcs hcell HI1 HH1 r3b r2b hput hz0 hz hbs hzz
            have hb0 : 0 < bw.length := hbl.1
            have hb1 : (0 : Int) < (bw.length : Int) := by omega
            go_wp2_with (first | (with_reducible refine stP (.tmp 11) (.tmp 91) w5.heap.size (.slice A5 bs.length c5) (.slice none 0 0) (⟨(j : Int) % 3, ((j : Int) + 1) % 3, bs⟩ : Pk) pk0 rfl rfl rfl g1 ?_) | ((with_reducible refine apL (.tmp 99) (.tmp 103) ?_ ?_ R1.out ?_); rfl; rfl))
            go_roundw
            case rel => exact ⟨j + 1, h', by omega, by go_num, HI2.out, HHF.out.left⟩
            case measure => simp [intOf] <;> omega
          · by_cases hjl : j < l.length
            · obtain ⟨bw, hbw⟩ : ∃ b, l[j]? = some b := ⟨_, List.getElem?_eq_getElem (by omega)⟩
              have hbl := HLEN.out j bw (by omega) hbw
              obtain ⟨ad, Aj, Cj, hAe, hcell, hIn⟩ := HA.out j bw hbw
              subst hAe
              have hqp : qP l l.length k y j = (⟨(j : Int) % 3, ((j : Int) + 1) % 3, bw⟩ : Pk) := by
                unfold qP sentP
                rw [if_neg hjk, if_pos hjl, List.getD_eq_getElem?_getD, hbw]
                rfl
              obtain ⟨hta, htt⟩ := take_at l l.length k y hkl j (by omega)
              rw [hqp] at hta
              have HTA := Lib.hid hta; have HTT := Lib.hid htt; have HIN := Lib.hid hIn
              have HBW := Lib.hid hbw
              clear hta htt hqp hIn hbw
              go_wp2_with fail
              refine (take_calls g (mT l l.length k y j) h [] 0 w wr HI1.out (by simpa using HH1.out)).mono ?_
              rintro e w5 ⟨v, hv, he, hRv, h', hI, hH⟩
              rw [HTA.out] at he hRv
              rw [HTT.out] at hI
              simp only [Option.getD_some, Option.isSome_some] at he hRv
              obtain ⟨A5, c5, rfl, _, _⟩ := RowB.form hRv
              subst he
              have g1 : (w5.alloc (.cells #[.int .i64 0, .int .i64 0, .slice none 0 0] 31)).heap[w5.heap.size]? = some (.cells (pkC (.slice none 0 0) pk0) 31 (0, 0)) := (hH.alloc _).get
              have hH2 : Holds w ((w5.heap.size, .cells (pkC (.slice A5 bw.length c5) (⟨(j : Int) % 3, ((j : Int) + 1) % 3, bw⟩ : Pk)) 31) :: (h' ++ (hv ++ []))) ((w5.alloc (.cells #[.int .i64 0, .int .i64 0, .slice none 0 0] 31)).setRow w5.heap.size (pkC (.slice A5 bw.length c5) (⟨(j : Int) % 3, ((j : Int) + 1) % 3, bw⟩ : Pk))) := (hH.alloc (.cells #[.int .i64 0, .int .i64 0, .slice none 0 0] 31)).turn (row_grown _ w5.heap.size _) (setRow_heap _ _ _ _ _ _ g1)
              have hH3 := hH2.alloc (.cells #[] 5)
              have hc0 : (((w5.alloc (.cells #[.int .i64 0, .int .i64 0, .slice none 0 0] 31)).setRow w5.heap.size (pkC (.slice A5 bw.length c5) (⟨(j : Int) % 3, ((j : Int) + 1) % 3, bw⟩ : Pk))).alloc (.cells #[] 5)).cell? (ad.add j) = some (.slice Aj bw.length Cj) := (hH3.below.cell (World.block_lt_of_cell? w _ hcell)).trans hcell
              obtain ⟨v6, h6, w6, r1, r2, r3⟩ := bytes_append (bs := []) (RowB.lit hH2 #[] 0 (Nat.zero_le _) rfl) hH3 28 Aj Cj bw HIN.out.1 (HIN.out.2.2.2.below hH3.below) (by simp; omega)
              simp only [List.nil_append] at r2
              have e3 : ((w5.alloc (.cells #[.int .i64 0, .int .i64 0, .slice none 0 0] 31)).setRow w5.heap.size (pkC (.slice A5 bw.length c5) (⟨(j : Int) % 3, ((j : Int) + 1) % 3, bw⟩ : Pk))).heap.size = w5.heap.size + 1 := by simp
              rw [e3] at r1
              obtain ⟨g6, c6, rfl, hc6, hcs⟩ := RowB.at_ r2 (by omega)
              have r3' : Holds w (h6 ++ ((w5.heap.size, .cells (pkC (.slice A5 bw.length c5) (⟨(j : Int) % 3, ((j : Int) + 1) % 3, bw⟩ : Pk)) 31) :: (h' ++ (hv ++ [])))) w6 := r3
              have r4 : Holds w ((w5.heap.size, .cells (pkC (.slice A5 bw.length c5) (⟨(j : Int) % 3, ((j : Int) + 1) % 3, bw⟩ : Pk)) 31) :: (hv ++ (h6 ++ h'))) w6 := r3'.perm (by classical rw [List.perm_iff_count]; intro a; simp only [List.count_append, List.count_cons, List.count_nil]; omega)
              have r5 : Holds w (h6 ++ (hv ++ (h' ++ [(w5.heap.size, .cells (pkC (.slice A5 bw.length c5) (⟨(j : Int) % 3, ((j : Int) + 1) % 3, bw⟩ : Pk)) 31)]))) w6 := r3'.perm (by classical rw [List.perm_iff_count]; intro a; simp only [List.count_append, List.count_cons, List.count_nil]; omega)
              have hcv2 : (convert 28 9 (.slice (some ⟨g6, 0, none⟩) bw.length c6)).run Try.prog w6 = .ok (.string ⟨bw.toArray⟩) w6 := conv_str (b := bw) r2 r5
              have q7 : w6.cell? ⟨w5.heap.size, 0, none⟩ = some (.int .i64 ((j : Int) % 3)) := r4.cell 0
              have q8 : w6.cell? ⟨w5.heap.size, 2, none⟩ = some (.slice A5 bw.length c5) := r4.cell 2
              have hcv1 : (convert 28 9 (.slice A5 bw.length c5)).run Try.prog w6 = .ok (.string ⟨bw.toArray⟩) w6 := conv_str (b := bw) hRv (r4.tail)
              have R1 := Lib.hid r1; have HHF := Lib.hid (r4.perm (k := h' ++ ((w5.heap.size, .cells (pkC (.slice A5 bw.length c5) (⟨(j : Int) % 3, ((j : Int) + 1) % 3, bw⟩ : Pk)) 31) :: (hv ++ h6))) (by classical rw [List.perm_iff_count]; intro a; simp only [List.count_append, List.count_cons, List.count_nil]; omega))
              have HI2 := Lib.hid hI
              clear hH hH2 hH3 r1 r2 r3 r3' r4 r5 hRv hI hcs hcell HI1 HH1
              have hb0 : 0 < bw.length := hbl.1
              have hb1 : (0 : Int) < (bw.length : Int) := by omega
              go_wp2_with (first | (with_reducible refine stP (.tmp 11) (.tmp 91) w5.heap.size (.slice A5 bw.length c5) (.slice none 0 0) (⟨(j : Int) % 3, ((j : Int) + 1) % 3, bw⟩ : Pk) pk0 rfl rfl rfl g1 ?_) | ((with_reducible refine apL (.tmp 99) (.tmp 103) ?_ ?_ R1.out ?_); rfl; rfl))
              go_roundw
              case rel => exact ⟨j + 1, h', by omega, by go_num, HI2.out, HHF.out.left⟩
              case measure => simp [intOf] <;> omega
            · obtain rfl : j = l.length := by omega
              obtain ⟨bw, hbw⟩ : ∃ b, l[k]? = some b := ⟨_, List.getElem?_eq_getElem (by omega)⟩
              have hbl := HLEN.out k bw (by omega) hbw
              obtain ⟨ad, Aj, Cj, hAe, hcell, hIn⟩ := HA.out k bw hbw
              subst hAe
              have hqp : qP l l.length k y l.length = (⟨(k : Int) % 3, ((k : Int) + 1) % 3, bw⟩ : Pk) := by
                unfold qP sentP
                rw [if_neg hjk, if_neg hjl, List.getD_eq_getElem?_getD, hbw]
                rfl
              obtain ⟨hta, htt⟩ := take_at l l.length k y hkl l.length (by omega)
              rw [hqp] at hta
              have HTA := Lib.hid hta; have HTT := Lib.hid htt; have HIN := Lib.hid hIn
              have HBW := Lib.hid hbw
              clear hta htt hqp hIn hbw
              go_wp2_with fail
              refine (take_calls g (mT l l.length k y l.length) h [] 0 w wr HI1.out (by simpa using HH1.out)).mono ?_
              rintro e w5 ⟨v, hv, he, hRv, h', hI, hH⟩
              rw [HTA.out] at he hRv
              rw [HTT.out] at hI
              simp only [Option.getD_some, Option.isSome_some] at he hRv
              obtain ⟨A5, c5, rfl, _, _⟩ := RowB.form hRv
              subst he
              have g1 : (w5.alloc (.cells #[.int .i64 0, .int .i64 0, .slice none 0 0] 31)).heap[w5.heap.size]? = some (.cells (pkC (.slice none 0 0) pk0) 31 (0, 0)) := (hH.alloc _).get
              have hH2 : Holds w ((w5.heap.size, .cells (pkC (.slice A5 bw.length c5) (⟨(k : Int) % 3, ((k : Int) + 1) % 3, bw⟩ : Pk)) 31) :: (h' ++ (hv ++ []))) ((w5.alloc (.cells #[.int .i64 0, .int .i64 0, .slice none 0 0] 31)).setRow w5.heap.size (pkC (.slice A5 bw.length c5) (⟨(k : Int) % 3, ((k : Int) + 1) % 3, bw⟩ : Pk))) := (hH.alloc (.cells #[.int .i64 0, .int .i64 0, .slice none 0 0] 31)).turn (row_grown _ w5.heap.size _) (setRow_heap _ _ _ _ _ _ g1)
              have hH3 := hH2.alloc (.cells #[] 5)
              have hc0 : (((w5.alloc (.cells #[.int .i64 0, .int .i64 0, .slice none 0 0] 31)).setRow w5.heap.size (pkC (.slice A5 bw.length c5) (⟨(k : Int) % 3, ((k : Int) + 1) % 3, bw⟩ : Pk))).alloc (.cells #[] 5)).cell? (ad.add k) = some (.slice Aj bw.length Cj) := (hH3.below.cell (World.block_lt_of_cell? w _ hcell)).trans hcell
              obtain ⟨v6, h6, w6, r1, r2, r3⟩ := bytes_append (bs := []) (RowB.lit hH2 #[] 0 (Nat.zero_le _) rfl) hH3 28 Aj Cj bw HIN.out.1 (HIN.out.2.2.2.below hH3.below) (by simp; omega)
              simp only [List.nil_append] at r2
              have e3 : ((w5.alloc (.cells #[.int .i64 0, .int .i64 0, .slice none 0 0] 31)).setRow w5.heap.size (pkC (.slice A5 bw.length c5) (⟨(k : Int) % 3, ((k : Int) + 1) % 3, bw⟩ : Pk))).heap.size = w5.heap.size + 1 := by simp
              rw [e3] at r1
              obtain ⟨g6, c6, rfl, hc6, hcs⟩ := RowB.at_ r2 (by omega)
              have r3' : Holds w (h6 ++ ((w5.heap.size, .cells (pkC (.slice A5 bw.length c5) (⟨(k : Int) % 3, ((k : Int) + 1) % 3, bw⟩ : Pk)) 31) :: (h' ++ (hv ++ [])))) w6 := r3
              have r4 : Holds w ((w5.heap.size, .cells (pkC (.slice A5 bw.length c5) (⟨(k : Int) % 3, ((k : Int) + 1) % 3, bw⟩ : Pk)) 31) :: (hv ++ (h6 ++ h'))) w6 := r3'.perm (by classical rw [List.perm_iff_count]; intro a; simp only [List.count_append, List.count_cons, List.count_nil]; omega)
              have r5 : Holds w (h6 ++ (hv ++ (h' ++ [(w5.heap.size, .cells (pkC (.slice A5 bw.length c5) (⟨(k : Int) % 3, ((k : Int) + 1) % 3, bw⟩ : Pk)) 31)]))) w6 := r3'.perm (by classical rw [List.perm_iff_count]; intro a; simp only [List.count_append, List.count_cons, List.count_nil]; omega)
              have hcv2 : (convert 28 9 (.slice (some ⟨g6, 0, none⟩) bw.length c6)).run Try.prog w6 = .ok (.string ⟨bw.toArray⟩) w6 := conv_str (b := bw) r2 r5
              have q7 : w6.cell? ⟨w5.heap.size, 0, none⟩ = some (.int .i64 ((k : Int) % 3)) := r4.cell 0
              have q8 : w6.cell? ⟨w5.heap.size, 2, none⟩ = some (.slice A5 bw.length c5) := r4.cell 2
              have hcv1 : (convert 28 9 (.slice A5 bw.length c5)).run Try.prog w6 = .ok (.string ⟨bw.toArray⟩) w6 := conv_str (b := bw) hRv (r4.tail)
              have R1 := Lib.hid r1; have HHF := Lib.hid (r4.perm (k := h' ++ ((w5.heap.size, .cells (pkC (.slice A5 bw.length c5) (⟨(k : Int) % 3, ((k : Int) + 1) % 3, bw⟩ : Pk)) 31) :: (hv ++ h6))) (by classical rw [List.perm_iff_count]; intro a; simp only [List.count_append, List.count_cons, List.count_nil]; omega))
              have HI2 := Lib.hid hI
              clear hH hH2 hH3 r1 r2 r3 r3' r4 r5 hRv hI hcs hcell HI1 HH1
              have hb0 : 0 < bw.length := hbl.1
              have hb1 : (0 : Int) < (bw.length : Int) := by omega
              go_wp2_with (first | (with_reducible refine stP (.tmp 11) (.tmp 91) w5.heap.size (.slice A5 bw.length c5) (.slice none 0 0) (⟨(k : Int) % 3, ((k : Int) + 1) % 3, bw⟩ : Pk) pk0 rfl rfl rfl g1 ?_) | ((with_reducible refine apL (.tmp 99) (.tmp 103) ?_ ?_ R1.out ?_); rfl; rfl))
              go_roundw
              case rel => exact ⟨l.length + 1, h', by omega, by go_num, HI2.out, HHF.out.left⟩
              case measure => simp [intOf] <;> omega
        · obtain rfl : j = l.length + 1 := by omega
          have he := end_len l l.length k y
          go_wp2_with fail
          refine (len_calls g (mT l l.length k y (l.length + 1)) h [] w wr HI1.out (by simpa using HH1.out)).mono ?_
          rintro e w5 ⟨rfl, rfl⟩
          rw [he]
          go_wp2_with fail
          go_ret
          exact ⟨rfl, HH1.out.below⟩
end Go.Proofs.Ytopnbhinifejkaa
