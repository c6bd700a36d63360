/- DiskRoom's walk. No condition. -/
import Derived.Test.YtocpelkgiebkjaaSafe
namespace Go.Proofs.Ytocpelkgiebkjaa
open Go.RowKit Go.Proofs.Ytocpelkgiebkjaa.Sp
set_option linter.unusedVariables false
set_option linter.unusedSimpArgs false
theorem tot_perm {l l' : List (ByteArray × Fl)} (h : l.Perm l') : totM l = totM l' := (h.map _).sum_nat
theorem tot_set (s : ByteArray) (d : List UInt8) : ∀ (l : List (ByteArray × Fl)) (x : ByteArray × Fl), l.Pairwise (fun x y => x.1 ≠ y.1) → l.find? (namedM s) = some x → totM (setM s { x.2 with b := x.2.b ++ d } l) = totM l + d.length
  | [], x, _, h => by simp at h
  | y :: l, x, hp, h => by
    rw [List.pairwise_cons] at hp
    rw [List.find?_cons] at h
    by_cases hy : y.1 = s
    · have : namedM s y = true := by simp [namedM, hy]
      rw [this] at h
      obtain rfl : y = x := by simpa using h
      have e : l.map (fun x => if x.1 = s then (s, ({ y.2 with b := y.2.b ++ d } : Fl)) else x) = l := by
        conv => rhs; rw [← List.map_id l]
        refine List.map_congr_left fun z hz => ?_
        rw [if_neg (by have := hp.1 z hz; rw [hy] at this; exact fun q => this q.symm)]
        rfl
      unfold setM
      rw [List.map_cons, e, if_pos hy]
      simp [totM]
      omega
    · have : namedM s y = false := by simp [namedM, hy]
      rw [this] at h
      have ih := tot_set s d l x hp.2 h
      unfold setM at ih ⊢
      rw [List.map_cons, if_neg hy]
      simp only [totM, List.map_cons, List.sum_cons] at ih ⊢
      omega
theorem app_room (room : Int) (fl : List (ByteArray × Fl)) (s : ByteArray) (d : List UInt8) (hs : goodN s = true) (ha : fl.Pairwise fun x y => x.1 ≠ y.1) :
    (room - totM fl < d.length → appM ⟨room, 1, true, fl⟩ s d = (6, ⟨room, 1, true, fl⟩)) ∧ (¬ room - totM fl < d.length → ∃ fl', appM ⟨room, 1, true, fl⟩ s d = (0, ⟨room, 1, true, fl'⟩) ∧ totM fl' = totM fl + d.length ∧ fl'.length ≤ fl.length + 1) := by
  constructor
  · intro h
    simp only [appM, hs, if_true, if_pos h]
  · intro h
    simp only [appM, hs, if_true, if_neg h]
    refine ⟨_, rfl, ?_, ?_⟩
    · split
      · rename_i x hx
        exact tot_set s d fl x ha hx
      · rw [tot_perm (ins_permM _ _)]
        simp [totM]
        omega
    · split
      · simp [setM]
      · rw [(ins_permM _ _).length_eq]
        simp
def PostD (w : World) (g : Nat) (m : DM) (w' : World) : Prop := ∃ h, IsD g m h ∧ Holds w h w'
def RmI (w : World) (g gb : Nat) (h : Hp) (m : DM) (L : Nat → Bool) (w' : World) : Prop :=
  (L 5 = true → L 4 = true) ∧ (L 4 = true → L 1 = true) ∧ (L 10 = true → L 5 = true) ∧ (L 10 = false → (L 1 = false → w'.heap.size = gb ∧ Holds w h w') ∧ (L 1 = true → Holds w (h ++ [(gb, .cells #[.string ⟨#[97]⟩, .string ⟨#[98]⟩] 9 (0, 0))]) w')) ∧ (L 10 = true → PostD w g m w')
theorem RmI.below {w : World} {g gb : Nat} {h : Hp} {m : DM} {L : Nat → Bool} {w' : World} (H : RmI w g gb h m L w') : Below w.heap.size w w' := by
  cases h10 : L 10
  · cases h1 : L 1
    · exact ((H.2.2.2.1 h10).1 h1).2.below
    · exact ((H.2.2.2.1 h10).2 h1).below
  · obtain ⟨_, _, hH⟩ := H.2.2.2.2 h10
    exact hH.below
def RelR (w : World) (g : Nat) (room : Int) (n : Nat) (size i : Value) (wr : World) : Prop :=
  ∃ (k : Nat) (fl : List (ByteArray × Fl)) (h : Hp), k ≤ n ∧ i = .int .i64 k ∧ size = .int .i64 (totM fl) ∧ fl.length ≤ k ∧ IsD g ⟨room, 1, true, fl⟩ h ∧ Holds w h wr
theorem parity (k : Nat) (hk : k < 30) : ∃ p : Nat, p < 2 ∧ Go.bits .and .i64 (k : Int) 1 = p := by
  have : ∀ j : Fin 30, ∃ p : Fin 2, Go.bits .and .i64 ((j.val : Nat) : Int) 1 = (p.val : Nat) := by decide +kernel
  obtain ⟨p, hp⟩ := this ⟨k, hk⟩
  exact ⟨p.val, p.isLt, hp⟩
def nm (p : Nat) : ByteArray := if p = 0 then ⟨#[97]⟩ else ⟨#[98]⟩
theorem good_nm (p : Nat) : goodN (nm p) = true := by
  unfold nm
  split <;> kernel_rfl
theorem nm_size (p : Nat) : (nm p).size ≤ 9223372036854775807 := by
  unfold nm
  split <;> decide
theorem nm_cell {p : Nat} (hp : p < 2) : (#[Value.string ⟨#[97]⟩, Value.string ⟨#[98]⟩] : Array Value)[p]? = some (.string (nm p)) := by
  match p, hp with
  | 0, _ => rfl
  | 1, _ => rfl
set_option maxRecDepth 100000 in
set_option maxHeartbeats 4000000 in
theorem room_walk (room : Int) (A : Option Addr) (ca : Nat) (l : List (List UInt8)) (w : World) (hA : InBs w A l) :
    Calls Try.prog 3 #[.int .i64 room, .slice A l.length ca] w fun e w' => e = .returned (.bool true) ∧ Below w.heap.size w w' := by
  by_cases c1 : room < 64
  · go_enter Try.func3, Try.ntmps3
    go_wp2_with fail
    refine (awake_calls w).mono ?_
    rintro e w1 ⟨rfl, hb⟩
    go_wp2_with fail
    go_ret
    exact ⟨rfl, hb⟩
  by_cases c2 : 500 < room
  · go_enter Try.func3, Try.ntmps3
    go_wp2_with fail
    refine (awake_calls w).mono ?_
    rintro e w1 ⟨rfl, hb⟩
    go_wp2_with fail
    go_ret
    exact ⟨rfl, hb⟩
  by_cases c3 : (30 : Int) < (l.length : Int)
  · go_enter Try.func3, Try.ntmps3
    go_wp2_with fail
    refine (awake_calls w).mono ?_
    rintro e w1 ⟨rfl, hb⟩
    go_wp2_with fail
    go_ret
    exact ⟨rfl, hb⟩
  have HA := Lib.hid hA
  clear hA
  go_enter Try.func3, Try.ntmps3
  go_wp2_with fail
  refine (awake_calls w).mono ?_
  rintro e w1 ⟨rfl, hb⟩
  have HH0 := Lib.hid (Holds.of_below hb)
  clear hb
  go_wp2_with fail
  refine (new_calls room (by omega) w w1 [] HH0.out).mono ?_
  rintro e w2 ⟨g, rfl, h, hI, hH⟩
  have HI := Lib.hid hI; have HH := Lib.hid hH
  clear hI hH HH0
  go_wp2_with fail
  go_loopw [7, 8] (fun size i wr => RelR w g room l.length size i wr) (fun _ i _ => l.length - (intOf i).toNat)
  case atStart => exact ⟨0, [], h, by omega, rfl, rfl, by simp, HI.out, by simpa using HH.out⟩
  case round =>
    obtain ⟨k, fl, hs, hk, rfl, rfl, hfl, hI, hH⟩ := hrel
    have hok : DM.ok ⟨room, 1, true, fl⟩ := by obtain ⟨_, _, _, _, _, _, _, _, h⟩ := hI; exact h
    have hap := hok.apart
    have htr : (totM fl : Int) ≤ room := hok.tot
    have HAP := Lib.hid hap
    clear hap hok
    have HI1 := Lib.hid hI; have HH1 := Lib.hid hH
    clear hI hH HI HH
    by_cases hlt : k < l.length
    · obtain ⟨b, hb⟩ : ∃ b, l[k]? = some b := ⟨_, List.getElem?_eq_getElem hlt⟩
      obtain ⟨ad, Aj, Cj, hAe, hcell, hIn⟩ := HA.out k b hb
      subst hAe
      have HIN := Lib.hid hIn
      have HB := Lib.hid hb
      have HCELL := Lib.hid hcell
      clear hIn hb hcell
      have hc0 : wr.cell? (ad.add k) = some (.slice Aj b.length Cj) := (HH1.out.below.cell (World.block_lt_of_cell? w _ HCELL.out)).trans HCELL.out
      by_cases h3 : (300 : Int) < (b.length : Int)
      · go_wp2_with fail
        go_ret
        exact ⟨rfl, HH1.out.below⟩
      obtain ⟨T, hT⟩ : ∃ T, T = totM fl := ⟨_, rfl⟩
      rw [← hT] at htr ⊢
      obtain ⟨p, hp2, hpar⟩ := parity k (by omega)
      have hp2' : (p : Int) < 2 := by omega
      have hap := app_room room fl (nm p) b (good_nm p) HAP.out
      rw [← hT] at hap
      have HT := Lib.hid hT
      clear hT
      have hwr : IntKind.i64.wrap (room - (T : Int)) = room - (T : Int) := by rw [IntKind.wrap_i64]; omega
      have hwr2 : IntKind.i64.wrap ((T : Int) + (b.length : Int)) = (T : Int) + (b.length : Int) := by rw [IntKind.wrap_i64]; omega
      by_cases hfu : room - (T : Int) < (b.length : Int)
      · have HAPP := Lib.hid (hap.1 hfu)
        clear hap
        go_wp2_with fail
        refine wp_region_vals 11 (by kernel_rfl) (by kernel_rfl) (by kernel_rfl) (fun L w' => RmI w g wr.heap.size hs ⟨room, 1, true, fl⟩ L w') (fun w1 w2 => True) (fun i w v => match i with | 0 => v = .pointer (some ⟨g, 0, none⟩) | 1 => v = .slice (some ⟨wr.heap.size, 0, none⟩) 2 2 | 2 => v = .int .i64 k | 3 => v = .int .i64 p | 4 => v = .pointer (some ⟨wr.heap.size, p, none⟩) | 5 => v = .string (nm p) | 6 => v = .slice (some ad) l.length ca | 7 => v = .int .i64 k | 8 => v = .pointer (some (ad.add k)) | 9 => v = .slice Aj b.length Cj | 10 => v = .int .i64 6 | _ => True) ⟨fun h => (by cases h), fun h => (by cases h), fun h => (by cases h), fun _ => ⟨fun _ => ⟨rfl, HH1.out.drew⟩, fun h => (by cases h)⟩, fun h => (by cases h)⟩ ?_ ?_ ?_
        · intro i v w1 w2 hS h
          match i, h with
          | 0, h => exact h
          | 1, h => exact h
          | 2, h => exact h
          | 3, h => exact h
          | 4, h => exact h
          | 5, h => exact h
          | 6, h => exact h
          | 7, h => exact h
          | 8, h => exact h
          | 9, h => exact h
          | 10, h => exact h
          | _ + 11, h => exact trivial
        · intro i o hi ho L f w1 hI hL hd
          match i, hi with
          | 0, _ =>
            obtain rfl := Option.some.inj ho
            have hc1 : w1.cell? (ad.add k) = some (.slice Aj b.length Cj) := ((RmI.below hI).cell (World.block_lt_of_cell? w _ HCELL.out)).trans HCELL.out
            clear hd ho
            unfold wpOp
            refine Or.inl ?_
            simp only [fill, List.take_succ_cons, List.take_zero, Act.put, List.setIfInBounds_toArray, List.set_cons_zero, List.set_cons_succ]
            unfold Oper.wp
            go_simp
            exact LeftBy.mk _ rfl (hI) (trivial) (rfl)
          | 1, _ =>
            obtain rfl := Option.some.inj ho
            have hc1 : w1.cell? (ad.add k) = some (.slice Aj b.length Cj) := ((RmI.below hI).cell (World.block_lt_of_cell? w _ HCELL.out)).trans HCELL.out
            clear hd ho
            unfold wpOp
            refine Or.inl ?_
            simp only [fill, List.take_succ_cons, List.take_zero, Act.put, List.setIfInBounds_toArray, List.set_cons_zero, List.set_cons_succ]
            unfold Oper.wp
            have h10 : L 10 = false := by
              cases hh : L 10
              · rfl
              · exact absurd (hI.2.1 (hI.1 (hI.2.2.1 hh))) (by rw [hL]; decide)
            obtain ⟨hsz, hH⟩ := (hI.2.2.2.1 h10).1 hL
            go_simp
            exact LeftBy.mk _ rfl (⟨hI.1, fun _ => rfl, hI.2.2.1, fun _ => ⟨fun h => (by cases h), fun _ => (by have h9 := hH.alloc (.cells #[.string ⟨#[97]⟩, .string ⟨#[98]⟩] 9 (0, 0)); rw [hsz] at h9; exact h9.perm (by classical rw [List.perm_iff_count]; intro a; simp only [List.count_append, List.count_cons, List.count_nil]; omega))⟩, fun h => absurd (show L 10 = true from h) (by rw [h10]; decide)⟩) (trivial) (rfl)
          | 2, _ =>
            obtain rfl := Option.some.inj ho
            have hc1 : w1.cell? (ad.add k) = some (.slice Aj b.length Cj) := ((RmI.below hI).cell (World.block_lt_of_cell? w _ HCELL.out)).trans HCELL.out
            clear hd ho
            unfold wpOp
            refine Or.inl ?_
            simp only [fill, List.take_succ_cons, List.take_zero, Act.put, List.setIfInBounds_toArray, List.set_cons_zero, List.set_cons_succ]
            unfold Oper.wp
            go_simp
            exact LeftBy.mk _ rfl (hI) (trivial) (rfl)
          | 3, _ =>
            obtain rfl := Option.some.inj ho
            have e2 : f 2 = .int .i64 k := (hd ⟨2, .data⟩ (by simp) rfl).2
            have hc1 : w1.cell? (ad.add k) = some (.slice Aj b.length Cj) := ((RmI.below hI).cell (World.block_lt_of_cell? w _ HCELL.out)).trans HCELL.out
            clear hd ho
            unfold wpOp
            refine Or.inl ?_
            simp only [fill, List.take_succ_cons, List.take_zero, Act.put, List.setIfInBounds_toArray, List.set_cons_zero, List.set_cons_succ, e2]
            unfold Oper.wp
            go_simp
            exact LeftBy.mk _ rfl (hI) (trivial) (rfl)
          | 4, _ =>
            obtain rfl := Option.some.inj ho
            have e1 : f 1 = .slice (some ⟨wr.heap.size, 0, none⟩) 2 2 := (hd ⟨1, .data⟩ (by simp) rfl).2
            have hL1 : L 1 = true := (hd ⟨1, .data⟩ (by simp) rfl).1
            have e3 : f 3 = .int .i64 p := (hd ⟨3, .data⟩ (by simp) rfl).2
            have hc1 : w1.cell? (ad.add k) = some (.slice Aj b.length Cj) := ((RmI.below hI).cell (World.block_lt_of_cell? w _ HCELL.out)).trans HCELL.out
            clear hd ho
            unfold wpOp
            refine Or.inl ?_
            simp only [fill, List.take_succ_cons, List.take_zero, Act.put, List.setIfInBounds_toArray, List.set_cons_zero, List.set_cons_succ, e1, e3]
            unfold Oper.wp
            go_simp
            exact LeftBy.mk _ rfl (⟨fun _ => rfl, fun _ => hL1, hI.2.2.1, hI.2.2.2.1, hI.2.2.2.2⟩) (trivial) (rfl)
          | 5, _ =>
            obtain rfl := Option.some.inj ho
            have e4 : f 4 = .pointer (some ⟨wr.heap.size, p, none⟩) := (hd ⟨4, .data⟩ (by simp) rfl).2
            have hL4 : L 4 = true := (hd ⟨4, .data⟩ (by simp) rfl).1
            have hc1 : w1.cell? (ad.add k) = some (.slice Aj b.length Cj) := ((RmI.below hI).cell (World.block_lt_of_cell? w _ HCELL.out)).trans HCELL.out
            clear hd ho
            unfold wpOp
            refine Or.inl ?_
            simp only [fill, List.take_succ_cons, List.take_zero, Act.put, List.setIfInBounds_toArray, List.set_cons_zero, List.set_cons_succ, e4]
            unfold Oper.wp
            have h10 : L 10 = false := by
              cases hh : L 10
              · rfl
              · exact absurd (hI.2.2.1 hh) (by rw [hL]; decide)
            have hcs : w1.cell? ⟨wr.heap.size, p, none⟩ = some (.string (nm p)) := (((hI.2.2.2.1 h10).2 (hI.2.1 hL4)).right.cell p).trans (nm_cell hp2)
            go_simp
            exact LeftBy.mk _ rfl (⟨fun _ => hL4, hI.2.1, fun _ => rfl, hI.2.2.2.1, hI.2.2.2.2⟩) (trivial) (rfl)
          | 6, _ =>
            obtain rfl := Option.some.inj ho
            have hc1 : w1.cell? (ad.add k) = some (.slice Aj b.length Cj) := ((RmI.below hI).cell (World.block_lt_of_cell? w _ HCELL.out)).trans HCELL.out
            clear hd ho
            unfold wpOp
            refine Or.inl ?_
            simp only [fill, List.take_succ_cons, List.take_zero, Act.put, List.setIfInBounds_toArray, List.set_cons_zero, List.set_cons_succ]
            unfold Oper.wp
            go_simp
            exact LeftBy.mk _ rfl (hI) (trivial) (rfl)
          | 7, _ =>
            obtain rfl := Option.some.inj ho
            have hc1 : w1.cell? (ad.add k) = some (.slice Aj b.length Cj) := ((RmI.below hI).cell (World.block_lt_of_cell? w _ HCELL.out)).trans HCELL.out
            clear hd ho
            unfold wpOp
            refine Or.inl ?_
            simp only [fill, List.take_succ_cons, List.take_zero, Act.put, List.setIfInBounds_toArray, List.set_cons_zero, List.set_cons_succ]
            unfold Oper.wp
            go_simp
            exact LeftBy.mk _ rfl (hI) (trivial) (rfl)
          | 8, _ =>
            obtain rfl := Option.some.inj ho
            have e6 : f 6 = .slice (some ad) l.length ca := (hd ⟨6, .data⟩ (by simp) rfl).2
            have e7 : f 7 = .int .i64 k := (hd ⟨7, .data⟩ (by simp) rfl).2
            have hc1 : w1.cell? (ad.add k) = some (.slice Aj b.length Cj) := ((RmI.below hI).cell (World.block_lt_of_cell? w _ HCELL.out)).trans HCELL.out
            clear hd ho
            unfold wpOp
            refine Or.inl ?_
            simp only [fill, List.take_succ_cons, List.take_zero, Act.put, List.setIfInBounds_toArray, List.set_cons_zero, List.set_cons_succ, e6, e7]
            unfold Oper.wp
            go_simp
            exact LeftBy.mk _ rfl (hI) (trivial) (rfl)
          | 9, _ =>
            obtain rfl := Option.some.inj ho
            have e8 : f 8 = .pointer (some (ad.add k)) := (hd ⟨8, .data⟩ (by simp) rfl).2
            have hc1 : w1.cell? (ad.add k) = some (.slice Aj b.length Cj) := ((RmI.below hI).cell (World.block_lt_of_cell? w _ HCELL.out)).trans HCELL.out
            clear hd ho
            unfold wpOp
            refine Or.inl ?_
            simp only [fill, List.take_succ_cons, List.take_zero, Act.put, List.setIfInBounds_toArray, List.set_cons_zero, List.set_cons_succ, e8]
            unfold Oper.wp
            go_simp
            exact LeftBy.mk _ rfl (hI) (trivial) (rfl)
          | 10, _ =>
            obtain rfl := Option.some.inj ho
            have e0 : f 0 = .pointer (some ⟨g, 0, none⟩) := (hd ⟨0, .data⟩ (by simp) rfl).2
            have e5 : f 5 = .string (nm p) := (hd ⟨5, .data⟩ (by simp) rfl).2
            have hL5 : L 5 = true := (hd ⟨5, .data⟩ (by simp) rfl).1
            have e9 : f 9 = .slice Aj b.length Cj := (hd ⟨9, .data⟩ (by simp) rfl).2
            have hc1 : w1.cell? (ad.add k) = some (.slice Aj b.length Cj) := ((RmI.below hI).cell (World.block_lt_of_cell? w _ HCELL.out)).trans HCELL.out
            clear hd ho
            unfold wpOp
            refine Or.inl ?_
            simp only [fill, List.take_succ_cons, List.take_zero, Act.put, List.setIfInBounds_toArray, List.set_cons_zero, List.set_cons_succ, e0, e5, e9]
            unfold Oper.wp
            have h10 : L 10 = false := hL
            have hH := (hI.2.2.2.1 h10).2 (hI.2.1 (hI.1 hL5))
            go_simp
            refine (append_calls g _ hs _ (nm p) Aj Cj b w w1 (nm_size p) HIN.out.1 (by omega) (show fl.length < 1000000000 by omega) HI1.out hH (fun w' hw => HIN.out.at_ hw)).mono ?_
            rintro e w3 ⟨he, h3, hI3, hH3⟩
            rw [HAPP.out] at he hI3
            subst he
            exact LeftBy.mk _ rfl ⟨hI.1, hI.2.1, fun _ => hL5, fun h => (by cases h), fun _ => ⟨h3, hI3, hH3.left⟩⟩ trivial rfl
        · intro L f w1 hI hL hV
          have e0 : f 0 = .pointer (some ⟨g, 0, none⟩) := hV 0 (by decide) (by simp)
          have e1 : f 1 = .slice (some ⟨wr.heap.size, 0, none⟩) 2 2 := hV 1 (by decide) (by simp)
          have e2 : f 2 = .int .i64 k := hV 2 (by decide) (by simp)
          have e3 : f 3 = .int .i64 p := hV 3 (by decide) (by simp)
          have e4 : f 4 = .pointer (some ⟨wr.heap.size, p, none⟩) := hV 4 (by decide) (by simp)
          have e5 : f 5 = .string (nm p) := hV 5 (by decide) (by simp)
          have e6 : f 6 = .slice (some ad) l.length ca := hV 6 (by decide) (by simp)
          have e7 : f 7 = .int .i64 k := hV 7 (by decide) (by simp)
          have e8 : f 8 = .pointer (some (ad.add k)) := hV 8 (by decide) (by simp)
          have e9 : f 9 = .slice Aj b.length Cj := hV 9 (by decide) (by simp)
          have e10 : f 10 = .int .i64 6 := hV 10 (by decide) (by simp)
          have hLL : ∀ i, i < 11 → L i = true := fun i hi => hL i hi (by simp at *; omega)
          clear hV hL
          simp only [fill, List.take_succ_cons, List.take_zero, List.drop_succ_cons, List.drop_zero, Act.put, List.setIfInBounds_toArray, List.set_cons_zero, List.set_cons_succ, e0, e1, e2, e3, e4, e5, e6, e7, e8, e9, e10]
          obtain ⟨h3, hI3, hH3⟩ := hI.2.2.2.2 (hLL 10 (by decide))
          have HI3 := Lib.hid hI3; have HH3 := Lib.hid hH3
          clear hI3 hH3 hI hLL
          have hc3 : w1.cell? (ad.add k) = some (.slice Aj b.length Cj) := (HH3.out.below.cell (World.block_lt_of_cell? w _ HCELL.out)).trans HCELL.out
          go_wp2_with fail
          refine (size_calls g _ h3 [] w w1 HI3.out (by simpa using HH3.out)).mono ?_
          rintro e w4 ⟨he, h4, hI4, hH4⟩
          subst he
          have hsz : sizeM ⟨room, 1, true, fl⟩ = T := by
            show ((totM fl : Nat) : Int) = _
            rw [← HT.out]
          rw [hsz]
          clear hsz
          have HI4 := Lib.hid hI4; have HH4 := Lib.hid hH4
          clear hI4 hH4
          go_wp2_with fail
          refine ⟨⟨k + 1, fl, h4, by omega, by simp, by rw [← HT.out], by omega, HI4.out, by simpa using HH4.out⟩, by simp [intOf]; omega⟩
      · obtain ⟨fl', happ, htot, hlen⟩ := hap.2 hfu
        have HAPP := Lib.hid happ
        have HLEN := Lib.hid hlen
        have HTOT := Lib.hid htot
        clear hap happ hlen htot
        go_wp2_with fail
        refine wp_region_vals 11 (by kernel_rfl) (by kernel_rfl) (by kernel_rfl) (fun L w' => RmI w g wr.heap.size hs ⟨room, 1, true, fl'⟩ L w') (fun w1 w2 => True) (fun i w v => match i with | 0 => v = .pointer (some ⟨g, 0, none⟩) | 1 => v = .slice (some ⟨wr.heap.size, 0, none⟩) 2 2 | 2 => v = .int .i64 k | 3 => v = .int .i64 p | 4 => v = .pointer (some ⟨wr.heap.size, p, none⟩) | 5 => v = .string (nm p) | 6 => v = .slice (some ad) l.length ca | 7 => v = .int .i64 k | 8 => v = .pointer (some (ad.add k)) | 9 => v = .slice Aj b.length Cj | 10 => v = .int .i64 0 | _ => True) ⟨fun h => (by cases h), fun h => (by cases h), fun h => (by cases h), fun _ => ⟨fun _ => ⟨rfl, HH1.out.drew⟩, fun h => (by cases h)⟩, fun h => (by cases h)⟩ ?_ ?_ ?_
        · intro i v w1 w2 hS h
          match i, h with
          | 0, h => exact h
          | 1, h => exact h
          | 2, h => exact h
          | 3, h => exact h
          | 4, h => exact h
          | 5, h => exact h
          | 6, h => exact h
          | 7, h => exact h
          | 8, h => exact h
          | 9, h => exact h
          | 10, h => exact h
          | _ + 11, h => exact trivial
        · intro i o hi ho L f w1 hI hL hd
          match i, hi with
          | 0, _ =>
            obtain rfl := Option.some.inj ho
            have hc1 : w1.cell? (ad.add k) = some (.slice Aj b.length Cj) := ((RmI.below hI).cell (World.block_lt_of_cell? w _ HCELL.out)).trans HCELL.out
            clear hd ho
            unfold wpOp
            refine Or.inl ?_
            simp only [fill, List.take_succ_cons, List.take_zero, Act.put, List.setIfInBounds_toArray, List.set_cons_zero, List.set_cons_succ]
            unfold Oper.wp
            go_simp
            exact LeftBy.mk _ rfl (hI) (trivial) (rfl)
          | 1, _ =>
            obtain rfl := Option.some.inj ho
            have hc1 : w1.cell? (ad.add k) = some (.slice Aj b.length Cj) := ((RmI.below hI).cell (World.block_lt_of_cell? w _ HCELL.out)).trans HCELL.out
            clear hd ho
            unfold wpOp
            refine Or.inl ?_
            simp only [fill, List.take_succ_cons, List.take_zero, Act.put, List.setIfInBounds_toArray, List.set_cons_zero, List.set_cons_succ]
            unfold Oper.wp
            have h10 : L 10 = false := by
              cases hh : L 10
              · rfl
              · exact absurd (hI.2.1 (hI.1 (hI.2.2.1 hh))) (by rw [hL]; decide)
            obtain ⟨hsz, hH⟩ := (hI.2.2.2.1 h10).1 hL
            go_simp
            exact LeftBy.mk _ rfl (⟨hI.1, fun _ => rfl, hI.2.2.1, fun _ => ⟨fun h => (by cases h), fun _ => (by have h9 := hH.alloc (.cells #[.string ⟨#[97]⟩, .string ⟨#[98]⟩] 9 (0, 0)); rw [hsz] at h9; exact h9.perm (by classical rw [List.perm_iff_count]; intro a; simp only [List.count_append, List.count_cons, List.count_nil]; omega))⟩, fun h => absurd (show L 10 = true from h) (by rw [h10]; decide)⟩) (trivial) (rfl)
          | 2, _ =>
            obtain rfl := Option.some.inj ho
            have hc1 : w1.cell? (ad.add k) = some (.slice Aj b.length Cj) := ((RmI.below hI).cell (World.block_lt_of_cell? w _ HCELL.out)).trans HCELL.out
            clear hd ho
            unfold wpOp
            refine Or.inl ?_
            simp only [fill, List.take_succ_cons, List.take_zero, Act.put, List.setIfInBounds_toArray, List.set_cons_zero, List.set_cons_succ]
            unfold Oper.wp
            go_simp
            exact LeftBy.mk _ rfl (hI) (trivial) (rfl)
          | 3, _ =>
            obtain rfl := Option.some.inj ho
            have e2 : f 2 = .int .i64 k := (hd ⟨2, .data⟩ (by simp) rfl).2
            have hc1 : w1.cell? (ad.add k) = some (.slice Aj b.length Cj) := ((RmI.below hI).cell (World.block_lt_of_cell? w _ HCELL.out)).trans HCELL.out
            clear hd ho
            unfold wpOp
            refine Or.inl ?_
            simp only [fill, List.take_succ_cons, List.take_zero, Act.put, List.setIfInBounds_toArray, List.set_cons_zero, List.set_cons_succ, e2]
            unfold Oper.wp
            go_simp
            exact LeftBy.mk _ rfl (hI) (trivial) (rfl)
          | 4, _ =>
            obtain rfl := Option.some.inj ho
            have e1 : f 1 = .slice (some ⟨wr.heap.size, 0, none⟩) 2 2 := (hd ⟨1, .data⟩ (by simp) rfl).2
            have hL1 : L 1 = true := (hd ⟨1, .data⟩ (by simp) rfl).1
            have e3 : f 3 = .int .i64 p := (hd ⟨3, .data⟩ (by simp) rfl).2
            have hc1 : w1.cell? (ad.add k) = some (.slice Aj b.length Cj) := ((RmI.below hI).cell (World.block_lt_of_cell? w _ HCELL.out)).trans HCELL.out
            clear hd ho
            unfold wpOp
            refine Or.inl ?_
            simp only [fill, List.take_succ_cons, List.take_zero, Act.put, List.setIfInBounds_toArray, List.set_cons_zero, List.set_cons_succ, e1, e3]
            unfold Oper.wp
            go_simp
            exact LeftBy.mk _ rfl (⟨fun _ => rfl, fun _ => hL1, hI.2.2.1, hI.2.2.2.1, hI.2.2.2.2⟩) (trivial) (rfl)
          | 5, _ =>
            obtain rfl := Option.some.inj ho
            have e4 : f 4 = .pointer (some ⟨wr.heap.size, p, none⟩) := (hd ⟨4, .data⟩ (by simp) rfl).2
            have hL4 : L 4 = true := (hd ⟨4, .data⟩ (by simp) rfl).1
            have hc1 : w1.cell? (ad.add k) = some (.slice Aj b.length Cj) := ((RmI.below hI).cell (World.block_lt_of_cell? w _ HCELL.out)).trans HCELL.out
            clear hd ho
            unfold wpOp
            refine Or.inl ?_
            simp only [fill, List.take_succ_cons, List.take_zero, Act.put, List.setIfInBounds_toArray, List.set_cons_zero, List.set_cons_succ, e4]
            unfold Oper.wp
            have h10 : L 10 = false := by
              cases hh : L 10
              · rfl
              · exact absurd (hI.2.2.1 hh) (by rw [hL]; decide)
            have hcs : w1.cell? ⟨wr.heap.size, p, none⟩ = some (.string (nm p)) := (((hI.2.2.2.1 h10).2 (hI.2.1 hL4)).right.cell p).trans (nm_cell hp2)
            go_simp
            exact LeftBy.mk _ rfl (⟨fun _ => hL4, hI.2.1, fun _ => rfl, hI.2.2.2.1, hI.2.2.2.2⟩) (trivial) (rfl)
          | 6, _ =>
            obtain rfl := Option.some.inj ho
            have hc1 : w1.cell? (ad.add k) = some (.slice Aj b.length Cj) := ((RmI.below hI).cell (World.block_lt_of_cell? w _ HCELL.out)).trans HCELL.out
            clear hd ho
            unfold wpOp
            refine Or.inl ?_
            simp only [fill, List.take_succ_cons, List.take_zero, Act.put, List.setIfInBounds_toArray, List.set_cons_zero, List.set_cons_succ]
            unfold Oper.wp
            go_simp
            exact LeftBy.mk _ rfl (hI) (trivial) (rfl)
          | 7, _ =>
            obtain rfl := Option.some.inj ho
            have hc1 : w1.cell? (ad.add k) = some (.slice Aj b.length Cj) := ((RmI.below hI).cell (World.block_lt_of_cell? w _ HCELL.out)).trans HCELL.out
            clear hd ho
            unfold wpOp
            refine Or.inl ?_
            simp only [fill, List.take_succ_cons, List.take_zero, Act.put, List.setIfInBounds_toArray, List.set_cons_zero, List.set_cons_succ]
            unfold Oper.wp
            go_simp
            exact LeftBy.mk _ rfl (hI) (trivial) (rfl)
          | 8, _ =>
            obtain rfl := Option.some.inj ho
            have e6 : f 6 = .slice (some ad) l.length ca := (hd ⟨6, .data⟩ (by simp) rfl).2
            have e7 : f 7 = .int .i64 k := (hd ⟨7, .data⟩ (by simp) rfl).2
            have hc1 : w1.cell? (ad.add k) = some (.slice Aj b.length Cj) := ((RmI.below hI).cell (World.block_lt_of_cell? w _ HCELL.out)).trans HCELL.out
            clear hd ho
            unfold wpOp
            refine Or.inl ?_
            simp only [fill, List.take_succ_cons, List.take_zero, Act.put, List.setIfInBounds_toArray, List.set_cons_zero, List.set_cons_succ, e6, e7]
            unfold Oper.wp
            go_simp
            exact LeftBy.mk _ rfl (hI) (trivial) (rfl)
          | 9, _ =>
            obtain rfl := Option.some.inj ho
            have e8 : f 8 = .pointer (some (ad.add k)) := (hd ⟨8, .data⟩ (by simp) rfl).2
            have hc1 : w1.cell? (ad.add k) = some (.slice Aj b.length Cj) := ((RmI.below hI).cell (World.block_lt_of_cell? w _ HCELL.out)).trans HCELL.out
            clear hd ho
            unfold wpOp
            refine Or.inl ?_
            simp only [fill, List.take_succ_cons, List.take_zero, Act.put, List.setIfInBounds_toArray, List.set_cons_zero, List.set_cons_succ, e8]
            unfold Oper.wp
            go_simp
            exact LeftBy.mk _ rfl (hI) (trivial) (rfl)
          | 10, _ =>
            obtain rfl := Option.some.inj ho
            have e0 : f 0 = .pointer (some ⟨g, 0, none⟩) := (hd ⟨0, .data⟩ (by simp) rfl).2
            have e5 : f 5 = .string (nm p) := (hd ⟨5, .data⟩ (by simp) rfl).2
            have hL5 : L 5 = true := (hd ⟨5, .data⟩ (by simp) rfl).1
            have e9 : f 9 = .slice Aj b.length Cj := (hd ⟨9, .data⟩ (by simp) rfl).2
            have hc1 : w1.cell? (ad.add k) = some (.slice Aj b.length Cj) := ((RmI.below hI).cell (World.block_lt_of_cell? w _ HCELL.out)).trans HCELL.out
            clear hd ho
            unfold wpOp
            refine Or.inl ?_
            simp only [fill, List.take_succ_cons, List.take_zero, Act.put, List.setIfInBounds_toArray, List.set_cons_zero, List.set_cons_succ, e0, e5, e9]
            unfold Oper.wp
            have h10 : L 10 = false := hL
            have hH := (hI.2.2.2.1 h10).2 (hI.2.1 (hI.1 hL5))
            go_simp
            refine (append_calls g _ hs _ (nm p) Aj Cj b w w1 (nm_size p) HIN.out.1 (by omega) (show fl.length < 1000000000 by omega) HI1.out hH (fun w' hw => HIN.out.at_ hw)).mono ?_
            rintro e w3 ⟨he, h3, hI3, hH3⟩
            rw [HAPP.out] at he hI3
            subst he
            exact LeftBy.mk _ rfl ⟨hI.1, hI.2.1, fun _ => hL5, fun h => (by cases h), fun _ => ⟨h3, hI3, hH3.left⟩⟩ trivial rfl
        · intro L f w1 hI hL hV
          have e0 : f 0 = .pointer (some ⟨g, 0, none⟩) := hV 0 (by decide) (by simp)
          have e1 : f 1 = .slice (some ⟨wr.heap.size, 0, none⟩) 2 2 := hV 1 (by decide) (by simp)
          have e2 : f 2 = .int .i64 k := hV 2 (by decide) (by simp)
          have e3 : f 3 = .int .i64 p := hV 3 (by decide) (by simp)
          have e4 : f 4 = .pointer (some ⟨wr.heap.size, p, none⟩) := hV 4 (by decide) (by simp)
          have e5 : f 5 = .string (nm p) := hV 5 (by decide) (by simp)
          have e6 : f 6 = .slice (some ad) l.length ca := hV 6 (by decide) (by simp)
          have e7 : f 7 = .int .i64 k := hV 7 (by decide) (by simp)
          have e8 : f 8 = .pointer (some (ad.add k)) := hV 8 (by decide) (by simp)
          have e9 : f 9 = .slice Aj b.length Cj := hV 9 (by decide) (by simp)
          have e10 : f 10 = .int .i64 0 := hV 10 (by decide) (by simp)
          have hLL : ∀ i, i < 11 → L i = true := fun i hi => hL i hi (by simp at *; omega)
          clear hV hL
          simp only [fill, List.take_succ_cons, List.take_zero, List.drop_succ_cons, List.drop_zero, Act.put, List.setIfInBounds_toArray, List.set_cons_zero, List.set_cons_succ, e0, e1, e2, e3, e4, e5, e6, e7, e8, e9, e10]
          obtain ⟨h3, hI3, hH3⟩ := hI.2.2.2.2 (hLL 10 (by decide))
          have HI3 := Lib.hid hI3; have HH3 := Lib.hid hH3
          clear hI3 hH3 hI hLL
          have hc3 : w1.cell? (ad.add k) = some (.slice Aj b.length Cj) := (HH3.out.below.cell (World.block_lt_of_cell? w _ HCELL.out)).trans HCELL.out
          go_wp2_with fail
          refine (size_calls g _ h3 [] w w1 HI3.out (by simpa using HH3.out)).mono ?_
          rintro e w4 ⟨he, h4, hI4, hH4⟩
          subst he
          have hsz : sizeM ⟨room, 1, true, fl'⟩ = T + (b.length : Int) := by
            show ((totM fl' : Nat) : Int) = _
            rw [HTOT.out]; rfl
          rw [hsz]
          clear hsz
          have HI4 := Lib.hid hI4; have HH4 := Lib.hid hH4
          clear hI4 hH4
          go_wp2_with fail
          refine ⟨⟨k + 1, fl', h4, by omega, by simp, by rw [HTOT.out]; rfl, by have := HLEN.out; omega, HI4.out, by simpa using HH4.out⟩, by simp [intOf]; omega⟩
    · go_wp2_with fail
      go_ret
      exact ⟨rfl, HH1.out.below⟩
end Go.Proofs.Ytocpelkgiebkjaa
