/- WalCrash's walk. No condition. -/
import Derived.Test.YthgebchidkadhaaCr
namespace Go.Proofs.Ythgebchidkadhaa
open Go.RowKit Go.Proofs.Ythgebchidkadhaa.Sp Go.Proofs.Ythgebchidkadhaa.QWal
set_option linter.unusedVariables false
set_option linter.unusedSimpArgs false
theorem conv_reads {w : World} {A : Option Addr} {c : Nat} {b : List UInt8} (h2 : A = none → c = 0) (h3 : Reads w A b.length 1 (bv b)) : (convert 31 9 (.slice A b.length c)).run Try.prog w = .ok (.string ⟨b.toArray⟩) w := by
  cases A with
  | none =>
    obtain rfl := h2 rfl
    have hb : b = [] := List.eq_nil_of_length_eq_zero (by have := h3.2.1 rfl; omega)
    subst hb
    rfl
  | some ad => exact run_convert_bytes_back (P := Try.prog) w 31 9 5 ad c b Try.underlying31 Try.underlying5 Try.underlying9 (fun j hj => h3.2.2 ad rfl j _ (by simp [bv, hj]))
def LenR (w1 : World) (l : List (List UInt8)) (n : Nat) (i : Value) (wr : World) : Prop := wr = w1 ∧ ∃ k : Nat, k ≤ l.length ∧ i = .int .i64 k ∧ ∀ r ∈ l.take k, r.length ≤ n
def CmR (w : World) (gl gd : Nat) (m : LM) (d : DM) (n : Nat) (i : Value) (wr : World) : Prop := ∃ (k : Nat) (h hd : Hp), k ≤ n ∧ i = .int .i64 k ∧ IsL gl gd m h ∧ IsD gd d hd ∧ Holds w (h ++ (hd ++ [])) wr
theorem crF_safe (keep : Int) (torn : UInt8) (b : List UInt8) : crF keep torn ⟨b, b.length⟩ = ⟨b, b.length⟩ := by
  have e : crN keep ⟨b, b.length⟩ = b.length := by
    unfold crN mn mx
    have : ((b.length : Int) - (b.length : Int)) = 0 := by omega
    simp only [this]
    split <;> split <;> omega
  unfold crF crB
  rw [e, if_neg (by simp)]
  simp
def crS (l : List (List UInt8)) (s k : Nat) : Nat := if 1 ≤ s ∧ s ≤ k then (frsB (l.take s)).length else 0
def crD (l : List (List UInt8)) (s k : Nat) : DM := if k = 0 then ⟨20000, 1, true, []⟩ else dW 20000 1 true ⟨frsB (l.take k), crS l s k⟩
def CrR (w : World) (gl gd : Nat) (l : List (List UInt8)) (s : Nat) (i : Value) (wr : World) : Prop := ∃ (k : Nat) (h hd : Hp) (sf : Int), k ≤ l.length ∧ i = .int .i64 k ∧ (∀ r ∈ l.take k, r.length ≤ 300) ∧ IsL gl gd (lW (l.take k) sf 1) h ∧ IsD gd (crD l s k) hd ∧ Holds w (h ++ (hd ++ [])) wr
theorem add_step (l : List (List UInt8)) (s k : Nat) (r : List UInt8) (sf : Int) (hr : l[k]? = some r) (hk : l.length ≤ 20) (h : ∀ r ∈ l.take k, r.length ≤ 300) (h3 : r.length ≤ 300) : addM (crD l s k) (lW (l.take k) sf 1) [r] = (0, dW 20000 1 true ⟨frsB (l.take (k + 1)), crS l s k⟩, lW (l.take (k + 1)) sf 1) := by
  have hl := frsB_len (l.take k) 300 h
  rw [List.length_take] at hl
  have hlt := (List.getElem?_eq_some_iff.mp hr).1
  have e1 : frsB [r] = frB r := by simp [frsB]
  have h8 : ∀ x ∈ [r], x.length ≤ 8000 := by intro x hx; obtain rfl := List.mem_singleton.mp hx; omega
  have ef := frB_len r
  rw [take_snoc l k r hr, frsB_snoc]
  unfold crD
  by_cases hk0 : k = 0
  · subst hk0
    rw [if_pos rfl, List.take_zero, add_nil 20000 1 [r] sf h8, if_neg (by rw [e1, ef]; omega), e1]
    have : crS l s 0 = 0 := by unfold crS; split <;> first | omega | rfl
    rw [this]
    rfl
  · rw [if_neg hk0, add_one 20000 1 _ _ [r] sf h8 (by rw [e1, ef]; show ¬ (20000 : Int) - (frsB (l.take k)).length < _; omega), e1]
theorem crS_same (l : List (List UInt8)) (s k : Nat) (h : k + 1 ≠ s) : crS l s k = crS l s (k + 1) := by
  unfold crS
  by_cases h1 : 1 ≤ s ∧ s ≤ k
  · rw [if_pos h1, if_pos ⟨h1.1, by omega⟩]
  · rw [if_neg h1, if_neg (by omega)]
theorem crS_here (l : List (List UInt8)) (k : Nat) : crS l (k + 1) (k + 1) = (frsB (l.take (k + 1))).length := by
  unfold crS
  rw [if_pos ⟨by omega, by omega⟩]
theorem crD_succ (l : List (List UInt8)) (s k : Nat) : crD l s (k + 1) = dW 20000 1 true ⟨frsB (l.take (k + 1)), crS l s (k + 1)⟩ := if_neg (by omega)
/-- One record out of the arguments, in a slice of its own. -/
theorem arg_row {w0 : World} {G : Hp} (b : Nat) (Aj : Option Addr) (Cj : Nat) (r : List UInt8) (hI : InB w0 Aj Cj r) : ∃ Vf : Nat → Option Addr × Nat, ∀ w', Holds w0 ((b, .cells #[.slice Aj r.length Cj] 31 (0, 0)) :: G) w' → ∀ j r', ([r] : List (List UInt8))[j]? = some r' → ∃ ad, some (⟨b, 0, none⟩ : Addr) = some ad ∧ w'.cell? (ad.add j) = some (.slice (Vf j).1 r'.length (Vf j).2) ∧ InB w' (Vf j).1 (Vf j).2 r' := by
  refine ⟨fun _ => (Aj, Cj), fun w' H j r' hj => ?_⟩
  match j, hj with
  | 0, hj =>
    obtain rfl : r = r' := by simpa using hj
    exact ⟨_, rfl, H.cell 0, hI.1, hI.2.1, hI.2.2.1, hI.2.2.2.below H.below⟩
  | j + 1, hj => simp at hj
/-- The disk behind the crash: one more record has room. -/
def CrE (l : List (List UInt8)) (j : Nat) (D : DM) : Prop := D.power = true ∧ D.lives = 2 ∧ D.fl.length ≤ 1 ∧ ∃ D2, addM D (lW (l.take j) j 2) [[122]] = (0, D2, lW (l.take j ++ [[122]]) j 2)
def OpB (gd : Nat) (l : List (List UInt8)) (s : Nat) (F : Hp) (w0 : World) (e : Ending) (w' : World) : Prop :=
  ∃ gl j D h' hd', e = .returned (.tuple #[.pointer (some ⟨gl, 0, none⟩), .int .i64 0]) ∧ s ≤ j ∧ j ≤ l.length ∧ IsL gl gd (lW (l.take j) j 2) h' ∧ CrE l j D ∧ IsD gd D hd' ∧ Holds w0 (h' ++ (hd' ++ F)) w'
theorem open_B (gd : Nat) (l : List (List UInt8)) (s : Nat) (keep : Int) (torn : UInt8) (hd F : Hp) (w0 w : World) (hk : l.length ≤ 20) (hs : s ≤ l.length) (h3 : ∀ r ∈ l, r.length ≤ 300) (hD : IsD gd (onM (crM (crD l s l.length) keep torn)) hd) (H : Holds w0 (hd ++ F) w) :
    Calls Try.prog 11 #[.pointer (some ⟨gd, 0, none⟩), .string nW] w fun e w' => OpB gd l s F w0 e w' := by
  have h8 : ∀ r ∈ l, r.length ≤ 8000 := fun r hr => by have := h3 r hr; omega
  have hz8 : ∀ x ∈ [([122] : List UInt8)], x.length ≤ 8000 := by decide
  have ez : (frsB [[122]]).length = 13 := by rw [show frsB [[122]] = frB [122] by simp [frsB], frB_len]; rfl
  by_cases hl0 : l.length = 0
  · have e0 : l = [] := List.length_eq_zero_iff.mp hl0
    subst e0
    have hD : IsD gd ⟨20000, 2, true, []⟩ hd := hD
    refine (open_none gd _ hd F nW w0 w (by decide) hD H (by rw [read_nil])).mono ?_
    rintro e w' ⟨gl, rfl, h', hL, hd', hD', hH⟩
    rw [logN_W] at hL
    have hA : addM ⟨20000, 2, true, []⟩ (lW [] 0 2) [[122]] = (0, dW 20000 2 true ⟨frsB [[122]], 0⟩, lW [[122]] 0 2) := by
      rw [add_nil 20000 2 [[122]] 0 hz8, if_neg (by rw [ez]; decide)]
    exact ⟨gl, 0, ⟨20000, 2, true, []⟩, h', hd', rfl, hs, Nat.le_refl _, hL, ⟨rfl, rfl, Nat.zero_le _, _, hA⟩, hD', hH⟩
  · have e1 : crD l s l.length = dW 20000 1 true ⟨frsB l, crS l s l.length⟩ := by
      unfold crD
      rw [if_neg hl0, List.take_length]
    have hcs : crS l s l.length ≤ (frsB l).length := by
      unfold crS
      split
      · have := frsB_mono l hs
        rwa [List.take_length] at this
      · omega
    obtain ⟨n, hn1, hn2, hcr, hleft⟩ := crash_left keep torn (frsB l) (crS l s l.length) hcs
    rw [e1, crash_one, hcr] at hD
    have hsn : (frsB (l.take s)).length ≤ n := by
      by_cases h1 : 1 ≤ s
      · unfold crS at hn1
        rw [if_pos ⟨h1, hs⟩] at hn1
        exact hn1
      · have : s = 0 := by omega
        subst this
        simp [frsB]
    refine (open_crash gd 20000 2 l s n _ hd F w0 w h8 (by omega) hleft hs hsn hD H).mono ?_
    rintro e w' ⟨gl, j, h', hd', rfl, hj1, hj2, hL, hD', hH⟩
    have hb := frsB_len (l.take j) 300 (fun r hr => h3 r (List.mem_of_mem_take hr))
    rw [List.length_take] at hb
    have hA := add_one 20000 2 ⟨frsB (l.take j), (frsB (l.take j)).length⟩ (l.take j) [[122]] j hz8 (by rw [ez]; show ¬ (20000 : Int) - (frsB (l.take j)).length < _; omega)
    exact ⟨gl, j, _, h', hd', rfl, hj1, hj2, hL, ⟨rfl, rfl, Nat.le_refl _, _, hA⟩, hD', hH⟩
set_option maxRecDepth 100000 in
set_option maxHeartbeats 8000000 in
theorem crash_walk (A : Option Addr) (ca : Nat) (l : List (List UInt8)) (sy keep : Int) (torn : UInt8) (w : World) (hA : InBs w A l) :
    Calls Try.prog 3 #[.slice A l.length ca, .int .i64 sy, .int .i64 keep, .int .u8 torn.toNat] w fun e w' => e = .returned (.bool true) ∧ Below w.heap.size w w' := by
  have kc := fun (w : World) (C : Array Value) (n c : Nat) => Lib.run_convert_bytes_const (P := Try.prog) w 31 5 C n c Try.underlying31 Try.underlying5
  by_cases c1 : (20 : Int) < (l.length : Int)
  · go_enter Try.func3, Try.ntmps3
    go_wp2_with fail
    refine (awake_calls w).mono ?_
    rintro e w1 ⟨rfl, hb⟩
    go_wp2_with fail
    go_ret
    exact ⟨rfl, hb⟩
  by_cases c2 : sy < 0
  · go_enter Try.func3, Try.ntmps3
    go_wp2_with fail
    refine (awake_calls w).mono ?_
    rintro e w1 ⟨rfl, hb⟩
    go_wp2_with fail
    go_ret
    exact ⟨rfl, hb⟩
  by_cases c3 : (l.length : Int) < sy
  · go_enter Try.func3, Try.ntmps3
    go_wp2_with fail
    refine (awake_calls w).mono ?_
    rintro e w1 ⟨rfl, hb⟩
    go_wp2_with fail
    go_ret
    exact ⟨rfl, hb⟩
  obtain ⟨s, rfl⟩ : ∃ s : Nat, sy = s := ⟨sy.toNat, by omega⟩
  have HA := Lib.hid hA
  clear hA
  go_enter Try.func3, Try.ntmps3
  go_wp2_with fail
  refine (awake_calls w).mono ?_
  rintro e w1 ⟨rfl, hb⟩
  have HH0 := Lib.hid (Holds.of_below hb)
  clear hb
  go_wp2_with fail
  refine (new_calls 20000 (by omega) w w1 [] HH0.out).mono ?_
  rintro e w2 ⟨gd, rfl, hd, hD, hH⟩
  have HD := Lib.hid hD; have HH := Lib.hid hH
  clear hD hH
  go_wp2_with fail
  refine (open_none gd ⟨20000, 1, true, []⟩ hd [] nW w w2 (by decide) HD.out HH.out (by rw [read_nil])).mono ?_
  rintro e w3 ⟨gl, rfl, hl, hL, hd2, hD2, hH2⟩
  rw [logN_W] at hL
  have HL := Lib.hid hL; have HD2 := Lib.hid hD2; have HH2 := Lib.hid hH2
  clear hL hD2 hH2 HD HH HH0
  go_wp2_with fail
  go_loopw [13] (fun i wr => CrR w gl gd l s i wr) (fun i _ => l.length - (intOf i).toNat)
  case atStart => exact ⟨0, hl, hd2, 0, by omega, rfl, by simp, HL.out, HD2.out, HH2.out⟩
  case round =>
    clear HL HD2 HH2
    obtain ⟨k, hl, hd, sf, hk, rfl, h8, hL, hD, hH⟩ := hrel
    have H8 := Lib.hid h8; have HL := Lib.hid hL; have HD := Lib.hid hD; have HH := Lib.hid hH
    clear h8 hL hD hH
    by_cases hlt : k < l.length
    · obtain ⟨r, hr⟩ : ∃ r, l[k]? = some r := ⟨_, List.getElem?_eq_getElem hlt⟩
      obtain ⟨ad, Aj, Cj, rfl, hcell, hIB⟩ := HA.out k r hr
      have hc0 := (HH.out.below.cell (World.block_lt_of_cell? w _ hcell)).trans hcell
      have HR := Lib.hid hr; have HIB := Lib.hid hIB
      clear hr hcell hIB
      by_cases h2 : (300 : Int) < (r.length : Int)
      · go_wp2_with fail
        go_ret
        exact ⟨rfl, HH.out.below⟩
      · have h3 : r.length ≤ 300 := by omega
        have HADD := Lib.hid (add_step l s k r sf HR.out (by omega) H8.out h3)
        have H83 := Lib.hid (show ∀ x ∈ l.take (k + 1), x.length ≤ 300 by
          intro x hx
          rw [take_snoc l k r HR.out] at hx
          rcases List.mem_append.mp hx with hx | hx
          · exact H8.out x hx
          · obtain rfl := List.mem_singleton.mp hx
            exact h3)
        have HFL := Lib.hid (show (crD l s k).fl.length < 1000000000 by unfold crD; split <;> first | decide | exact (by decide : (1 : Nat) < 1000000000))
        have HRL := Lib.hid (show (lW (l.take k) sf 1).recs.length ≤ 100000 by show (l.take k).length ≤ _; rw [List.length_take]; omega)
        have HR1 := Lib.hid (show ∀ x ∈ [r], x.length ≤ 100000 by intro x hx; obtain rfl := List.mem_singleton.mp hx; omega)
        by_cases hks : k + 1 = s
        · have hksI : ((k : Int) + 1 == (s : Int)) = true := by rw [beq_iff_eq]; omega
          go_wp2_with fail
          obtain ⟨Vf, hVf⟩ := arg_row (w0 := w) (G := []) wr.heap.size Aj Cj r HIB.out
          have Ha := HH.out.alloc (.cells #[.slice Aj r.length Cj] 31)
          refine (add_calls gl gd _ _ [r] (some ⟨wr.heap.size, 0, none⟩) 1 hl hd [(wr.heap.size, .cells #[.slice Aj r.length Cj] 31)] w _ (show nW.size ≤ _ by decide) (show 1 ≤ 1000 by decide) HR1.out HRL.out HFL.out ⟨Vf, hVf⟩ HL.out HD.out (Ha.perm (by classical rw [List.perm_iff_count]; intro a; simp only [List.count_append, List.count_cons, List.count_nil]; omega))).mono ?_
          rintro e w4 ⟨rfl, h4, hL4, hd4, hD4, hH4⟩
          rw [HADD.out] at hL4 hD4 ⊢
          have HL4 := Lib.hid hL4; have HD4 := Lib.hid hD4
          have HH4 := Lib.hid (show Holds w (h4 ++ (hd4 ++ [])) w4 from hH4.sub (List.Sublist.append (List.Sublist.refl h4) (List.Sublist.append (List.Sublist.refl hd4) (List.nil_sublist _))))
          clear hL4 hD4 hH4 HL HD HH HADD Ha hVf
          go_wp2_with fail
          refine (lsync_calls gl gd _ _ h4 hd4 [] w w4 (show nW.size ≤ _ by decide) HL4.out HD4.out HH4.out).mono ?_
          rintro e w5 ⟨rfl, h5, hL5, hd5, hD5, hH5⟩
          rw [syncL_one] at hL5 hD5 ⊢
          have HL5 := Lib.hid hL5
          have HD5 := Lib.hid (show IsD gd (crD l s (k + 1)) hd5 by rw [crD_succ, ← hks, crS_here]; exact hD5)
          have HH5 := Lib.hid hH5
          clear hL5 hD5 hH5 HL4 HD4 HH4 hksI
          go_wp2_with fail
          exact ⟨⟨k + 1, h5, hd5, _, by omega, by simp, H83.out, HL5.out, HD5.out, HH5.out⟩, by simp [intOf]; omega⟩
        · have hksI : ((k : Int) + 1 == (s : Int)) = false := by rw [beq_eq_false_iff_ne]; omega
          go_wp2_with fail
          obtain ⟨Vf, hVf⟩ := arg_row (w0 := w) (G := []) wr.heap.size Aj Cj r HIB.out
          have Ha := HH.out.alloc (.cells #[.slice Aj r.length Cj] 31)
          refine (add_calls gl gd _ _ [r] (some ⟨wr.heap.size, 0, none⟩) 1 hl hd [(wr.heap.size, .cells #[.slice Aj r.length Cj] 31)] w _ (show nW.size ≤ _ by decide) (show 1 ≤ 1000 by decide) HR1.out HRL.out HFL.out ⟨Vf, hVf⟩ HL.out HD.out (Ha.perm (by classical rw [List.perm_iff_count]; intro a; simp only [List.count_append, List.count_cons, List.count_nil]; omega))).mono ?_
          rintro e w4 ⟨rfl, h4, hL4, hd4, hD4, hH4⟩
          rw [HADD.out] at hL4 hD4 ⊢
          have HL4 := Lib.hid hL4; have HD4 := Lib.hid hD4
          have HH4 := Lib.hid (show Holds w (h4 ++ (hd4 ++ [])) w4 from hH4.sub (List.Sublist.append (List.Sublist.refl h4) (List.Sublist.append (List.Sublist.refl hd4) (List.nil_sublist _))))
          clear hL4 hD4 hH4 HL HD HH HADD Ha hVf
          go_wp2_with fail
          have HD5 := Lib.hid (show IsD gd (crD l s (k + 1)) hd4 by rw [crD_succ, ← crS_same l s k hks]; exact HD4.out)
          exact ⟨⟨k + 1, h4, hd4, _, by omega, by simp, H83.out, HL4.out, HD5.out, HH4.out⟩, by simp [intOf]; omega⟩
    · have hkn : k = l.length := by omega
      subst hkn
      rw [List.take_length] at H8
      clear hk
      have hsl : s ≤ l.length := by omega
      go_wp2_with fail
      refine (crash_calls gd _ hd [] keep torn w _ HD.out HH.out.right).mono ?_
      rintro e w9 ⟨rfl, hd9, hD9, hH9⟩
      have HD9 := Lib.hid hD9; have HH9 := Lib.hid hH9
      clear hD9 hH9 HD HH HL
      go_wp2_with fail
      refine (on_calls gd (crM (crD l s l.length) keep torn) hd9 _ w w9 (show (crD l s l.length).lives < 1000000000 by unfold crD; split <;> exact (by decide : (1 : Int) < 1000000000)) HD9.out HH9.out).mono ?_
      rintro e w10 ⟨rfl, hd10, hD10, hH10⟩
      have HD10 := Lib.hid hD10; have HH10 := Lib.hid hH10
      clear hD10 hH10 HD9 HH9
      go_wp2_with fail
      refine (open_B gd l s keep torn hd10 [] w w10 (by omega) hsl H8.out HD10.out HH10.out).mono ?_
      rintro e w11 ⟨gk, j, D, h11, hd11, rfl, hsj, hjl, hL11, hE, hD11, hH11⟩
      have HL11 := Lib.hid hL11; have HD11 := Lib.hid hD11; have HH11 := Lib.hid hH11; have HE := Lib.hid hE
      clear hL11 hD11 hH11 HD10 HH10 hE
      have HTL := Lib.hid (show (lW (l.take j) j 2).recs.length = j by show (l.take j).length = j; rw [List.length_take]; omega)
      have HLN := Lib.hid (llen_calls gk gd _ h11 _ w w11 HL11.out HH11.out)
      have HSF := Lib.hid (lsafe_calls gk gd _ h11 _ w w11 HL11.out HH11.out)
      rw [HTL.out] at HLN
      go_wp2_with fail
      refine HLN.out.mono ?_
      rintro e w12 ⟨rfl, hw⟩
      rw [hw]
      clear hw w12
      go_wp2_with fail
      refine HLN.out.mono ?_
      rintro e w12 ⟨rfl, hw⟩
      rw [hw]
      clear hw w12
      go_wp2_with fail
      refine HSF.out.mono ?_
      rintro e w12 ⟨rfl, hw⟩
      rw [hw, show (lW (l.take j) j 2).safe = (j : Int) from rfl]
      clear hw w12
      go_wp2_with fail
      refine HLN.out.mono ?_
      rintro e w12 ⟨rfl, hw⟩
      rw [hw]
      clear hw w12 HLN HSF
      go_wp2_with fail
      have HSJ := Lib.hid hsj; have HJL := Lib.hid hjl
      clear hsj hjl
      first | (rename_i hq0; have hq1 : ¬j < s ∧ ¬l.length < j := hq0; clear hq1 hq0) | (rename_i hq0 _; have hq1 : ¬j < s ∧ ¬l.length < j := hq0; clear hq1 hq0) | (rename_i hq0 _ _; have hq1 : ¬j < s ∧ ¬l.length < j := hq0; clear hq1 hq0) | (rename_i hq0 _ _ _; have hq1 : ¬j < s ∧ ¬l.length < j := hq0; clear hq1 hq0) | (rename_i hq0 _ _ _ _; have hq1 : ¬j < s ∧ ¬l.length < j := hq0; clear hq1 hq0)
      go_loopw [16] (fun i wr => CmR w gk gd (lW (l.take j) j 2) D j i wr) (fun i _ => j - (intOf i).toNat)
      case atStart => exact ⟨0, h11, hd11, by omega, rfl, HL11.out, HD11.out, HH11.out⟩
      case round =>
        clear HL11 HD11 HH11
        obtain ⟨k, h5, hd5, hk, rfl, hL5, hD5, hH5⟩ := hrel
        have HLN := Lib.hid (llen_calls gk gd _ h5 _ w _ hL5 hH5)
        rw [HTL.out] at HLN
        by_cases hlt3 : k < j
        · have hkl : k < l.length := by have := HJL.out; omega
          obtain ⟨r, hr⟩ : ∃ r, l[k]? = some r := ⟨_, List.getElem?_eq_getElem hkl⟩
          have hr2 : (l.take j)[k]? = some r := by rw [List.getElem?_take, if_pos hlt3]; exact hr
          have HAT := Lib.hid (at_one D (l.take j) j k r HE.out.1 hr2)
          obtain ⟨ad, Aj, Cj, rfl, hcell, hIB⟩ := HA.out k r hr
          have HCX := Lib.hid (fun w' (hb : Below w.heap.size w w') => show w'.cell? (ad.add k) = some (.slice Aj r.length Cj) from (hb.cell (World.block_lt_of_cell? w _ hcell)).trans hcell)
          have HIB := Lib.hid hIB
          have HML := Lib.hid (show ∀ x ∈ (lW (l.take j) j 2).recs, x.length ≤ 140737488355328 from fun x hx => by have := H8.out x (List.mem_of_mem_take hx); omega)
          have HL5 := Lib.hid hL5; have HD5 := Lib.hid hD5; have HH5 := Lib.hid hH5
          clear hr hr2 hcell hIB hL5 hD5 hH5
          go_wp2_with fail
          refine HLN.out.mono ?_
          rintro e w12 ⟨rfl, hw⟩
          rw [hw]
          clear hw w12 HLN
          go_wp2_with fail
          refine (lat_calls gk gd D (lW (l.take j) j 2) (k : Nat) h5 hd5 [] w _ HML.out HL5.out HD5.out HH5.out).mono ?_
          rintro e w13 ⟨rv, he, hv, hR, h6, hL6, hH6⟩
          rw [show (lW (l.take j) j 2) = lW (l.take j) j D.lives by rw [HE.out.2.1], HAT.out] at he hR
          subst he
          rw [show ({ lW (l.take j) j 2 with done := offM D (lW (l.take j) j 2) } : LM) = lW (l.take j) j 2 by rw [off_no _ _ HE.out.1 HE.out.2.1 rfl]; rfl] at hL6
          have HL6 := Lib.hid hL6; have HHV := Lib.hid (show Holds w (hv ++ (h6 ++ hd5)) _ from by simpa using hH6); have HRV := Lib.hid hR
          clear hL6 hH6 hR HL5 HH5
          go_wp2_with fail
          refine wp_region_own 12 (fun _ => []) (by kernel_rfl) (by kernel_rfl) (by kernel_rfl) (by kernel_rfl) (Nat.le_of_ble_eq_true (by kernel_rfl)) w (fun Ls hs => hs = hv ++ (h6 ++ hd5)) (fun i v h => match i with | 0 => v = .int .i64 0 ∧ h = [] | 1 => v = .bool false ∧ h = [] | 2 => v = .bool false ∧ h = [] | 3 => v = rv ∧ h = [] | 4 => v = .string ⟨r.toArray⟩ ∧ h = [] | 5 => v = .slice (some ad) l.length ca ∧ h = [] | 6 => v = .int .i64 (k : Nat) ∧ h = [] | 7 => v = .pointer (some (ad.add k)) ∧ h = [] | 8 => v = .slice Aj r.length Cj ∧ h = [] | 9 => v = .string ⟨r.toArray⟩ ∧ h = [] | 10 => v = .bool false ∧ h = [] | 11 => v = .bool false ∧ h = [] | _ => True) ((hv ++ (h6 ++ hd5))) (rfl) (HHV.out.drew) ?_ ?_
          · intro i o hi ho Ls f Hf hs R w1 hI hL hd hH
            simp only [fill, List.take_succ_cons, List.take_zero, Act.put, List.setIfInBounds_toArray, List.set_cons_zero, List.set_cons_succ]
            match i, hi with
            | 0, _ =>
              obtain rfl := Option.some.inj ho
              clear hd ho
              have hH : Holds w (hs ++ ([] ++ R)) w1 := hH
              subst hI
              unfold wpOp
              refine Or.inl ?_
              unfold Oper.wp
              go_simp
              exact OwnBy.mk _ _ _ rfl (rfl) (⟨rfl, rfl⟩) (hH)
            | 1, _ =>
              obtain rfl := Option.some.inj ho
              have e0 : f 0 = .int .i64 0 := (hd ⟨0, .data⟩ (by simp) rfl).2.1
              clear hd ho
              have hH : Holds w (hs ++ ([] ++ R)) w1 := hH
              subst hI
              unfold wpOp
              refine Or.inl ?_
              simp only [e0]
              unfold Oper.wp
              go_simp
              exact OwnBy.mk _ _ _ rfl (rfl) (⟨rfl, rfl⟩) (hH)
            | 2, _ =>
              obtain rfl := Option.some.inj ho
              have e1 : f 1 = .bool false := (hd ⟨1, .data⟩ (by simp) rfl).2.1
              clear hd ho
              have hH : Holds w (hs ++ ([] ++ R)) w1 := hH
              subst hI
              unfold wpOp
              refine Or.inl ?_
              simp only [e1]
              unfold Oper.wp
              go_simp
              exact OwnBy.mk _ _ _ rfl (rfl) (⟨rfl, rfl⟩) (hH)
            | 3, _ =>
              obtain rfl := Option.some.inj ho
              have e2 : f 2 = .bool false := (hd ⟨2, .guard⟩ (by simp) rfl).2.1
              clear hd ho
              have hH : Holds w (hs ++ ([] ++ R)) w1 := hH
              subst hI
              unfold wpOp
              simp only [e2]
              refine Or.inl ?_
              unfold Oper.wp
              go_simp
              exact OwnBy.mk _ _ _ rfl (rfl) (⟨rfl, rfl⟩) (hH)
            | 4, _ =>
              obtain rfl := Option.some.inj ho
              have e3 : f 3 = rv := (hd ⟨3, .data⟩ (by simp) rfl).2.1
              have e2 : f 2 = .bool false := (hd ⟨2, .guard⟩ (by simp) rfl).2.1
              clear hd ho
              have hH : Holds w (hs ++ ([] ++ R)) w1 := hH
              subst hI
              unfold wpOp
              simp only [e3, e2]
              refine Or.inl ?_
              unfold Oper.wp
              have q := conv_str HRV.out (hH.perm (k := hv ++ ((h6 ++ hd5) ++ R)) (by classical rw [List.perm_iff_count]; intro a; simp only [List.count_append, List.count_cons, List.count_nil]; omega))
              go_simp
              exact OwnBy.mk _ _ _ rfl (rfl) (⟨rfl, rfl⟩) (hH)
            | 5, _ =>
              obtain rfl := Option.some.inj ho
              have e2 : f 2 = .bool false := (hd ⟨2, .guard⟩ (by simp) rfl).2.1
              clear hd ho
              have hH : Holds w (hs ++ ([] ++ R)) w1 := hH
              subst hI
              unfold wpOp
              simp only [e2]
              refine Or.inl ?_
              unfold Oper.wp
              go_simp
              exact OwnBy.mk _ _ _ rfl (rfl) (⟨rfl, rfl⟩) (hH)
            | 6, _ =>
              obtain rfl := Option.some.inj ho
              have e2 : f 2 = .bool false := (hd ⟨2, .guard⟩ (by simp) rfl).2.1
              clear hd ho
              have hH : Holds w (hs ++ ([] ++ R)) w1 := hH
              subst hI
              unfold wpOp
              simp only [e2]
              refine Or.inl ?_
              unfold Oper.wp
              go_simp
              exact OwnBy.mk _ _ _ rfl (rfl) (⟨rfl, rfl⟩) (hH)
            | 7, _ =>
              obtain rfl := Option.some.inj ho
              have e5 : f 5 = .slice (some ad) l.length ca := (hd ⟨5, .data⟩ (by simp) rfl).2.1
              have e6 : f 6 = .int .i64 (k : Nat) := (hd ⟨6, .data⟩ (by simp) rfl).2.1
              have e2 : f 2 = .bool false := (hd ⟨2, .guard⟩ (by simp) rfl).2.1
              clear hd ho
              have hH : Holds w (hs ++ ([] ++ R)) w1 := hH
              subst hI
              unfold wpOp
              simp only [e5, e6, e2]
              refine Or.inl ?_
              unfold Oper.wp
              go_simp
              exact OwnBy.mk _ _ _ rfl (rfl) (⟨rfl, rfl⟩) (hH)
            | 8, _ =>
              obtain rfl := Option.some.inj ho
              have e7 : f 7 = .pointer (some (ad.add k)) := (hd ⟨7, .data⟩ (by simp) rfl).2.1
              have e2 : f 2 = .bool false := (hd ⟨2, .guard⟩ (by simp) rfl).2.1
              clear hd ho
              have hH : Holds w (hs ++ ([] ++ R)) w1 := hH
              subst hI
              unfold wpOp
              simp only [e7, e2]
              refine Or.inl ?_
              unfold Oper.wp
              have q := HCX.out w1 hH.below
              go_simp
              exact OwnBy.mk _ _ _ rfl (rfl) (⟨rfl, rfl⟩) (hH)
            | 9, _ =>
              obtain rfl := Option.some.inj ho
              have e8 : f 8 = .slice Aj r.length Cj := (hd ⟨8, .data⟩ (by simp) rfl).2.1
              have e2 : f 2 = .bool false := (hd ⟨2, .guard⟩ (by simp) rfl).2.1
              clear hd ho
              have hH : Holds w (hs ++ ([] ++ R)) w1 := hH
              subst hI
              unfold wpOp
              simp only [e8, e2]
              refine Or.inl ?_
              unfold Oper.wp
              have q := conv_reads (HIB.out.1) (HIB.out.2.2.2.below hH.below)
              go_simp
              exact OwnBy.mk _ _ _ rfl (rfl) (⟨rfl, rfl⟩) (hH)
            | 10, _ =>
              obtain rfl := Option.some.inj ho
              have e4 : f 4 = .string ⟨r.toArray⟩ := (hd ⟨4, .data⟩ (by simp) rfl).2.1
              have e9 : f 9 = .string ⟨r.toArray⟩ := (hd ⟨9, .data⟩ (by simp) rfl).2.1
              have e2 : f 2 = .bool false := (hd ⟨2, .guard⟩ (by simp) rfl).2.1
              clear hd ho
              have hH : Holds w (hs ++ ([] ++ R)) w1 := hH
              subst hI
              unfold wpOp
              simp only [e4, e9, e2]
              refine Or.inl ?_
              unfold Oper.wp
              go_simp
              exact OwnBy.mk _ _ _ rfl (rfl) (⟨rfl, rfl⟩) (hH)
            | 11, _ =>
              obtain rfl := Option.some.inj ho
              have e2 : f 2 = .bool false := (hd ⟨2, .data⟩ (by simp) rfl).2.1
              have e10 : f 10 = .bool false := (hd ⟨10, .data⟩ (by simp) rfl).2.1
              clear hd ho
              have hH : Holds w (hs ++ ([] ++ R)) w1 := hH
              subst hI
              unfold wpOp
              refine Or.inl ?_
              simp only [e2, e10]
              unfold Oper.wp
              go_simp
              exact OwnBy.mk _ _ _ rfl (rfl) (⟨rfl, rfl⟩) (hH)
          · intro Ls f Hf hs w1 hI hL hV hH
            have e0 : f 0 = .int .i64 0 := (hV 0 (by decide)).1
            have e1 : f 1 = .bool false := (hV 1 (by decide)).1
            have e2 : f 2 = .bool false := (hV 2 (by decide)).1
            have e3 : f 3 = rv := (hV 3 (by decide)).1
            have e4 : f 4 = .string ⟨r.toArray⟩ := (hV 4 (by decide)).1
            have e5 : f 5 = .slice (some ad) l.length ca := (hV 5 (by decide)).1
            have e6 : f 6 = .int .i64 (k : Nat) := (hV 6 (by decide)).1
            have e7 : f 7 = .pointer (some (ad.add k)) := (hV 7 (by decide)).1
            have e8 : f 8 = .slice Aj r.length Cj := (hV 8 (by decide)).1
            have e9 : f 9 = .string ⟨r.toArray⟩ := (hV 9 (by decide)).1
            have e10 : f 10 = .bool false := (hV 10 (by decide)).1
            have e11 : f 11 = .bool false := (hV 11 (by decide)).1
            clear hV
            have hH : Holds w (hs ++ []) w1 := hH
            simp only [fill, List.take_succ_cons, List.take_zero, List.drop_succ_cons, List.drop_zero, Act.put, List.setIfInBounds_toArray, List.set_cons_zero, List.set_cons_succ, e0, e1, e2, e3, e4, e5, e6, e7, e8, e9, e10, e11]
            subst hI
            have HX := Lib.hid (show Holds w (hv ++ (h6 ++ hd5)) w1 from by simpa using hH)
            clear hH hL
            go_wp2_with fail
            refine ⟨⟨k + 1, h6, hd5, by omega, by simp, HL6.out, HD5.out, by simpa using HX.out.right⟩, by simp [intOf]; omega⟩
        · have hkn : k = j := by omega
          subst hkn
          have HL5 := Lib.hid hL5; have HD5 := Lib.hid hD5; have HH5 := Lib.hid hH5
          clear hL5 hD5 hH5
          go_wp2_with fail
          refine HLN.out.mono ?_
          rintro e w12 ⟨rfl, hw⟩
          rw [hw]
          clear hw w12 HLN
          go_wp2_with fail
          obtain ⟨D2, hD2⟩ := HE.out.2.2.2
          have HD2 := Lib.hid hD2
          clear hD2
          obtain ⟨Vf, hVf⟩ := one_row (w0 := w) (G := []) wr.heap.size (wr.heap.size + 1) 122 122 1 (by decide) (1, 2) (by decide)
          have Ha := HH5.out.alloc2 (.cells #[.int .u8 122] 5 (1, 2)) (.cells #[.slice (some ⟨wr.heap.size, 0, none⟩) 1 1] 31)
          refine (add_calls gk gd D _ [[122]] (some ⟨wr.heap.size + 1, 0, none⟩) 1 h5 hd5 [(wr.heap.size + 1, .cells #[.slice (some ⟨wr.heap.size, 0, none⟩) 1 1] 31), (wr.heap.size, .cells #[.int .u8 122] 5 (1, 2))] w _ (show nW.size ≤ _ by decide) (by decide) (by decide) (by rw [HTL.out]; have := HJL.out; omega) (by have := HE.out.2.2.1; omega) ⟨Vf, hVf⟩ HL5.out HD5.out (Ha.perm (by classical rw [List.perm_iff_count]; intro a; simp only [List.count_append, List.count_cons, List.count_nil]; omega))).mono ?_
          rintro e w4 ⟨rfl, h4, hL4, hd4, hD4, hH4⟩
          rw [HD2.out] at hL4 hD4 ⊢
          have HLN4 := Lib.hid (llen_calls gk gd _ h4 _ w w4 hL4 hH4)
          have HB4 := Lib.hid hH4.below
          rw [show (lW (l.take k ++ [[122]]) k 2).recs.length = k + 1 by show (l.take k ++ [[122]]).length = _; rw [List.length_append, List.length_take]; have := HJL.out; simp; omega] at HLN4
          clear hL4 hD4 hH4 HL5 HD5 HH5 Ha hVf HD2
          go_wp2_with fail
          refine HLN4.out.mono ?_
          rintro e w12 ⟨rfl, hw⟩
          rw [hw]
          clear hw w12 HLN4
          go_wp2_with fail
          go_ret
          exact ⟨by simp; omega, HB4.out⟩
end Go.Proofs.Ythgebchidkadhaa
