/- DiskPlays' walk. No condition. -/
import Derived.Test.YtocpelkgiebkjaaSame
import Derived.Test.YtocpelkgiebkjaaRy
import Derived.Test.YtocpelkgiebkjaaOa
namespace Go.Proofs.Ytocpelkgiebkjaa
open Go.RowKit Go.Proofs.Ytocpelkgiebkjaa.Sp
set_option linter.unusedVariables false
set_option linter.unusedSimpArgs false
theorem IsD.ok {g : Nat} {m : DM} {h : Hp} (H : IsD g m h) : m.ok := by
  obtain ⟨_, _, _, _, _, _, _, _, hok⟩ := H
  exact hok
theorem rises_ins (s : ByteArray) (f : Fl) : ∀ L : List (ByteArray × Fl), (∀ y ∈ L, y.1 ≠ s) → Rises L → Rises (insM (s, f) L)
  | [], _, _ => List.pairwise_singleton _ _
  | y :: L, hne, hr => by
    unfold Rises at hr ⊢
    have hr2 := hr
    rw [List.pairwise_cons] at hr
    unfold insM
    split
    · rename_i hb
      rw [List.pairwise_cons]
      refine ⟨fun z hz => ?_, hr2⟩
      rcases List.mem_cons.1 hz with rfl | hz
      · exact hb
      · exact before_trans _ _ _ hb (hr.1 z hz)
    · rename_i hb
      rw [List.pairwise_cons]
      refine ⟨fun z hz => ?_, rises_ins s f L (fun z hz => hne z (List.mem_cons_of_mem _ hz)) hr.2⟩
      rcases List.mem_cons.1 ((ins_permM (s, f) L).mem_iff.mp hz) with rfl | hz
      · exact before_tri _ _ (fun e => hne y List.mem_cons_self (data_inj e).symm) (by simpa using hb)
      · exact hr.1 z hz
theorem set_names (s : ByteArray) (f : Fl) (L : List (ByteArray × Fl)) : (setM s f L).map (·.1) = L.map (·.1) := by
  unfold setM
  rw [List.map_map]
  refine List.map_congr_left fun x _ => ?_
  simp only [Function.comp]
  split
  · rename_i h; exact h.symm
  · rfl
theorem rises_names {L L' : List (ByteArray × Fl)} (e : L'.map (·.1) = L.map (·.1)) (h : Rises L) : Rises L' := by
  have h1 : (L.map (·.1)).Pairwise (fun a b => bytesBefore a.data.toList b.data.toList = true) := by rw [List.pairwise_map]; exact h
  rw [← e, List.pairwise_map] at h1
  exact h1
theorem rises_off (s : ByteArray) {L : List (ByteArray × Fl)} (h : Rises L) : Rises (offM s L) := h.filter _
def Good8 (k : Nat) (m : DM) : Prop := Rises m.fl ∧ m.fl.length ≤ k ∧ m.lives ≤ (k : Int) + 1 ∧ ∀ x ∈ m.fl, x.1.size ≤ 9223372036854775807
theorem Good8.up {k : Nat} {m : DM} (h : Good8 k m) : Good8 (k + 1) m := ⟨h.1, by have := h.2.1; omega, by have := h.2.2.1; omega, h.2.2.2⟩
theorem size_names {L L' : List (ByteArray × Fl)} (e : L'.map (·.1) = L.map (·.1)) (h : ∀ x ∈ L, x.1.size ≤ 9223372036854775807) : ∀ x ∈ L', x.1.size ≤ 9223372036854775807 := fun x hx => by
  have h1 : x.1 ∈ L'.map (·.1) := List.mem_map.mpr ⟨x, hx, rfl⟩
  rw [e] at h1
  obtain ⟨z, hz, ez⟩ := List.mem_map.mp h1
  rw [← ez]
  exact h z hz
theorem good_set {k : Nat} {m : DM} (h : Good8 k m) (s : ByteArray) (f : Fl) : Good8 (k + 1) { m with fl := setM s f m.fl } :=
  ⟨rises_names (set_names s f m.fl) h.1, by have := h.2.1; have e := congrArg List.length (set_names s f m.fl); simp only [List.length_map] at e; show (setM s f m.fl).length ≤ _; omega, by have := h.2.2.1; show m.lives ≤ _; omega, size_names (set_names s f m.fl) h.2.2.2⟩
theorem size_ins {s : ByteArray} {f : Fl} {L : List (ByteArray × Fl)} (hs : s.size ≤ 9223372036854775807) (h : ∀ x ∈ L, x.1.size ≤ 9223372036854775807) : ∀ x ∈ insM (s, f) L, x.1.size ≤ 9223372036854775807 := fun x hx => by
  rcases List.mem_cons.1 ((ins_permM (s, f) L).mem_iff.mp hx) with rfl | hx
  · exact hs
  · exact h x hx
theorem good_app {k : Nat} {m : DM} (h : Good8 k m) (s : ByteArray) (b : List UInt8) (hs : s.size ≤ 9223372036854775807) : Good8 (k + 1) (appM m s b).2 := by
  unfold appM
  split
  · split
    · split
      · exact h.up
      · cases hf : m.fl.find? (namedM s) with
        | some x => exact good_set h s _
        | none =>
          have hne : ∀ y ∈ m.fl, y.1 ≠ s := fun y hy e => by have := List.find?_eq_none.mp hf y hy; simp [namedM, e] at this
          exact ⟨rises_ins s _ m.fl hne h.1, by rw [show (insM (s, (⟨b, 0⟩ : Fl)) m.fl).length = m.fl.length + 1 from (ins_permM _ m.fl).length_eq]; have := h.2.1; omega, by have := h.2.2.1; show m.lives ≤ _; omega, size_ins hs h.2.2.2⟩
    · exact h.up
  · exact h.up
theorem good_sync {k : Nat} {m : DM} (h : Good8 k m) (s : ByteArray) : Good8 (k + 1) (syncM m s).2 := by
  unfold syncM
  split
  · exact good_set h s _
  · exact h.up
theorem good_cut {k : Nat} {m : DM} (h : Good8 k m) (s : ByteArray) (n : Int) : Good8 (k + 1) (cutM m s n).2 := by
  unfold cutM
  split
  · split
    · exact h.up
    · exact good_set h s _
  · exact h.up
theorem good_off {k : Nat} {m : DM} (h : Good8 k m) (s : ByteArray) : Good8 k { m with fl := offM s m.fl } :=
  ⟨rises_off s h.1, Nat.le_trans (List.length_filter_le _ _) h.2.1, h.2.2.1, fun x hx => h.2.2.2 x (List.mem_filter.mp hx).1⟩
theorem good_drop {k : Nat} {m : DM} (h : Good8 k m) (s : ByteArray) : Good8 (k + 1) (dropM m s).2 := by
  unfold dropM
  split
  · exact (good_off h s).up
  · exact h.up
theorem good_ren {k : Nat} {m : DM} (h : Good8 k m) (a b : ByteArray) (hb : b.size ≤ 9223372036854775807) : Good8 (k + 1) (renM m a b).2 := by
  unfold renM
  split
  · split
    · split
      · unfold putM
        refine ⟨rises_ins b _ _ (off_none b _) (rises_off b (rises_off a h.1)), ?_, by have := h.2.2.1; show m.lives ≤ _; omega, size_ins hb (fun x hx => h.2.2.2 x (List.mem_filter.mp (List.mem_filter.mp hx).1).1)⟩
        show (insM (b, _) (offM b (offM a m.fl))).length ≤ _
        rw [(ins_permM _ _).length_eq, List.length_cons]
        have h1 : (offM b (offM a m.fl)).length ≤ (offM a m.fl).length := List.length_filter_le _ _
        have h2 : (offM a m.fl).length ≤ m.fl.length := List.length_filter_le _ _
        have := h.2.1
        omega
      · exact h.up
    · exact h.up
  · exact h.up
theorem crash_names (m : DM) (keep : Int) (torn : UInt8) : (crM m keep torn).fl.map (·.1) = m.fl.map (·.1) := by
  show (m.fl.map _).map _ = _
  rw [List.map_map]
  rfl
theorem good_crash {k : Nat} {m : DM} (h : Good8 k m) (keep : Int) (torn : UInt8) : Good8 (k + 1) (crM m keep torn) :=
  ⟨rises_names (crash_names m keep torn) h.1, by show (m.fl.map _).length ≤ _; rw [List.length_map]; have := h.2.1; omega, by have := h.2.2.1; show m.lives ≤ _; omega, size_names (crash_names m keep torn) h.2.2.2⟩
theorem good_on {k : Nat} {m : DM} (h : Good8 k m) : Good8 (k + 1) (onM m) := ⟨h.1, by have := h.2.1; show m.fl.length ≤ _; omega, by have := h.2.2.1; show m.lives + 1 ≤ _; omega, h.2.2.2⟩
theorem file_len {m : DM} (hok : m.ok) : ∀ x ∈ m.fl, x.2.b.length ≤ 100000000 := fun x hx => by
  have := mem_tot m.fl x hx; have := hok.tot; have := hok.room; omega
def BothD (g d a b : Nat) (M2 m : DM) (F : Hp) (Ls : Nat → Bool) (hs : Hp) : Prop := ∃ h hr, IsD g (if Ls a = true then M2 else m) h ∧ IsR d (if Ls b = true then M2 else m) hr ∧ hs = h ++ (hr ++ F)
theorem BothD.mk {g d a b : Nat} {M2 m : DM} {F : Hp} {Ls : Nat → Bool} {h hr : Hp} (hC : IsD g (if Ls a = true then M2 else m) h) (hR : IsR d (if Ls b = true then M2 else m) hr) : BothD g d a b M2 m F Ls (h ++ (hr ++ F)) := ⟨h, hr, hC, hR, rfl⟩
theorem info48 (y : Act8) (B : Option Addr) (c : Nat) : (Try.prog.info? 48).map (·.size) = some (actC y B c).size := by kernel_rfl
def y0 : Act8 := ⟨0, 0, 0, ⟨#[]⟩, ⟨#[]⟩, []⟩
theorem stA8 {ops : Array Oper} {rest : List Oper} {dst : Option Tmp} {ty : TypeId} {pos : String} {af : Array Edge} {a : Act} {w : World} {Q : Exit → Act → World → Prop} (x z : Operand) (gb : Nat) (y : Act8) (B : Option Addr) (c : Nat)
    (hx : a.eval x = .pointer (some ⟨gb, 0, none⟩)) (hy : a.eval z = .agg (actC y B c)) (hg : w.heap[gb]? = some (.cells (actC y0 none 0) 48 (0, 0)))
    (hh : wpList Try.prog ops Q rest (a.put dst undef) (w.setRow gb (actC y B c))) : wpList Try.prog ops Q ({ dst := dst, op := .store 48 x z, type := ty, pos := pos, after := af, guard := none } :: rest) a w :=
  wpList_store_row rfl 48 x z rfl gb (actC y B c) hx hy 48 (actC y0 none 0) hg (info48 _ _ _) rfl (by simp [actC, Value.oneCell']) hh
theorem add_field' (a : Addr) (i j : Nat) (hj : 0 < j) : a.add (i + j) = ⟨(a.add i).block, (a.add i).off + j, none⟩ := by
  unfold Addr.add
  by_cases h : i = 0
  · subst h; simp [show ¬ j = 0 by omega]
  · simp [h, Nat.add_assoc]
set_option maxRecDepth 100000 in
set_option maxHeartbeats 32000000 in
theorem plays_walk (room : Int) (A : Option Addr) (cap : Nat) (l : List Act8) (w : World) (hcap : l.length ≤ cap) (hl : ActAt w A l) :
    Calls Try.prog 7 #[.int .i64 room, .slice A l.length cap] w fun e w' => e = .returned (.bool true) ∧ Below w.heap.size w w' := by
  have HF := Lib.hid (Holds.nil w)
  have HL := Lib.hid hl
  obtain ⟨n, hn⟩ : ∃ n, l.length = n := ⟨_, rfl⟩
  have HN := Lib.hid hn
  rw [hn] at hcap ⊢
  clear hl hn
  by_cases hbad : room < 64 ∨ 1048576 < room
  · have HNO := Lib.hid (fun w => new_no room hbad w)
    rcases hbad with hb1 | hb1
    · go_enter Try.func7, Try.ntmps7
      go_wp2_with fail
      refine (awake_calls _).mono ?_
      rintro e w1 ⟨rfl, hb⟩
      have HB := Lib.hid hb
      clear hb
      go_wp2_with fail
      refine (HNO.out w1).mono ?_
      rintro e w2 ⟨rfl, rfl⟩
      go_wp2_with fail
      go_ret
      exact ⟨rfl, HB.out⟩
    · have hb0 : ¬ room < 64 := by omega
      go_enter Try.func7, Try.ntmps7
      go_wp2_with fail
      refine (awake_calls _).mono ?_
      rintro e w1 ⟨rfl, hb⟩
      have HB := Lib.hid hb
      clear hb
      go_wp2_with fail
      refine (HNO.out w1).mono ?_
      rintro e w2 ⟨rfl, rfl⟩
      go_wp2_with fail
      go_ret
      exact ⟨rfl, HB.out⟩
  have hb0 : ¬ room < 64 := by omega
  have hb1 : ¬ 1048576 < room := by omega
  have hroom : 64 ≤ room ∧ room ≤ 1048576 := by omega
  clear hbad
  by_cases h80 : (80 : Int) < (n : Int)
  · go_enter Try.func7, Try.ntmps7
    go_wp2_with fail
    refine (awake_calls _).mono ?_
    rintro e w1 ⟨rfl, hb⟩
    have HB := Lib.hid (HF.out.grow hb)
    clear hb
    go_wp2_with fail
    refine (new_calls room hroom w _ _ HB.out).mono ?_
    rintro e w2 ⟨g, rfl, h0, hI, hH⟩
    have HBB := Lib.hid hH.below
    clear hI hH
    go_wp2_with fail
    go_ret
    exact ⟨rfl, HBB.out⟩
  go_enter Try.func7, Try.ntmps7
  go_wp2_with fail
  refine (awake_calls _).mono ?_
  rintro e w1 ⟨rfl, hb⟩
  have HB := Lib.hid (HF.out.grow hb)
  clear hb
  go_wp2_with fail
  refine (new_calls room hroom w _ _ HB.out).mono ?_
  rintro e w2 ⟨g, rfl, h0, hI, hH⟩
  have HI0 := Lib.hid hI
  obtain ⟨d, hd⟩ : ∃ d, d = w2.heap.size := ⟨_, rfl⟩
  have HD := Lib.hid hd
  have HK := Lib.hid (show Holds w (h0 ++ ([(d, rO ⟨room, 1, true, []⟩ (.slice none 0 0))] ++ [])) (w2.alloc (.cells #[.int .i64 room, .slice none 0 0, .bool false, .int .i64 1] 46)) by
    have hK : Holds w ((d, rO ⟨room, 1, true, []⟩ (.slice none 0 0)) :: (h0 ++ [])) (w2.alloc (.cells #[.int .i64 room, .slice none 0 0, .bool false, .int .i64 1] 46)) := by rw [hd]; exact hH.alloc (.cells #[.int .i64 room, .slice none 0 0, .bool false, .int .i64 1] 46)
    exact hK.perm (by classical rw [List.perm_iff_count]; intro a; simp only [List.count_append, List.count_cons, List.count_nil] <;> omega))
  have HIR := Lib.hid (show IsR d ⟨room, 1, true, []⟩ [(d, rO ⟨room, 1, true, []⟩ (.slice none 0 0))] from ⟨_, [], [], [], RowB.nil _ _, ⟨rfl, rfl⟩, rfl⟩)
  have HGI := Lib.hid (show Good8 0 ⟨room, 1, true, []⟩ from ⟨List.Pairwise.nil, Nat.le_refl _, by show (1 : Int) ≤ 0 + 1; decide, fun x hx => by cases hx⟩)
  clear hI hH hd
  go_wp2_with fail
  rw [← HD.out]
  go_loopw [8] (fun i wr => ∃ (k : Nat) (m : DM) (h hr : Hp), k ≤ n ∧ i = .int .i64 k ∧ IsD g m h ∧ IsR d m hr ∧ Good8 k m ∧ Holds w (h ++ (hr ++ [])) wr) (fun i _ => n - (intOf i).toNat)
  case atStart => exact ⟨0, _, h0, _, by omega, rfl, HI0.out, HIR.out, HGI.out, HK.out⟩
  case round =>
    obtain ⟨k, m, h, hr, hk, rfl, hI, hR, hg, hH⟩ := hrel
    have HC0 := Lib.hid hI; have HR0 := Lib.hid hR; have HHr := Lib.hid hH; have HGD0 := Lib.hid hg
    have HOK := Lib.hid hI.ok
    have HRI := Lib.hid hg.1
    have hcn : m.fl.length ≤ k := hg.2.1
    clear hI hR hH hg HI0 HIR HK HGI
    by_cases hlt : k < n
    · have hki : (k : Int) < (n : Int) := by omega
      obtain ⟨y, hy⟩ : ∃ y, l[k]? = some y := ⟨_, List.getElem?_eq_getElem (by rw [HN.out]; exact hlt)⟩
      obtain ⟨ad, B, c, rfl, hcel, hss, htt, hin⟩ := HL.out k y hy
      have hcw : ∀ i v, (actC y B c)[i]? = some v → wr.cell? (ad.add (k * 6 + i)) = some v := fun i v hv => (HHr.out.below.cell (World.block_lt_of_cell? w _ (hcel i v hv))).trans (hcel i v hv)
      have q0 := hcw 0 _ rfl
      rw [Nat.add_zero] at q0
      have q1 : wr.cell? ⟨(ad.add (k * 6)).block, (ad.add (k * 6)).off + 1, none⟩ = some (.int .i64 y.n) := by rw [← add_field' ad (k * 6) 1 (by omega)]; exact hcw 1 _ rfl
      have q2 : wr.cell? ⟨(ad.add (k * 6)).block, (ad.add (k * 6)).off + 2, none⟩ = some (.int .u8 (y.bt.toNat : Nat)) := by rw [← add_field' ad (k * 6) 2 (by omega)]; exact hcw 2 _ rfl
      have q3 : wr.cell? ⟨(ad.add (k * 6)).block, (ad.add (k * 6)).off + 3, none⟩ = some (.string y.s) := by rw [← add_field' ad (k * 6) 3 (by omega)]; exact hcw 3 _ rfl
      have q4 : wr.cell? ⟨(ad.add (k * 6)).block, (ad.add (k * 6)).off + 4, none⟩ = some (.string y.t) := by rw [← add_field' ad (k * 6) 4 (by omega)]; exact hcw 4 _ rfl
      have q5 : wr.cell? ⟨(ad.add (k * 6)).block, (ad.add (k * 6)).off + 5, none⟩ = some (.slice B y.b.length c) := by rw [← add_field' ad (k * 6) 5 (by omega)]; exact hcw 5 _ rfl
      have HSS := Lib.hid (show y.s.size ≤ 9223372036854775807 from hss)
      have HTT := Lib.hid (show y.t.size ≤ 9223372036854775807 from htt)
      have HBN := Lib.hid hin.1
      have HRDx := Lib.hid hin
      have HRD := Lib.hid (show ∀ (F' : Hp) w', Holds w F' w' → Reads w' B y.b.length 1 (bv y.b) from fun F' w' H' => HRDx.out.2.2.2.below H'.below)
      have k1 := HHr.out.alloc (.cells (actC y0 none 0) 48)
      have g1 : (wr.alloc (.cells #[.int .i64 0, .int .i64 0, .int .u8 0, .string ⟨#[]⟩, .string ⟨#[]⟩, .slice none 0 0] 48)).heap[wr.heap.size]? = some (.cells (actC y0 none 0) 48 (0, 0)) := k1.get
      have k2 := k1.turn (row_grown _ wr.heap.size (actC y B c)) (setRow_heap _ _ _ _ _ _ k1.get)
      obtain ⟨W5, hW5⟩ : ∃ W5, W5 = (wr.alloc (.cells #[.int .i64 0, .int .i64 0, .int .u8 0, .string ⟨#[]⟩, .string ⟨#[]⟩, .slice none 0 0] 48)).setRow wr.heap.size (actC y B c) := ⟨_, rfl⟩
      have k3 : Holds w ((wr.heap.size, .cells (actC y B c) 48) :: (h ++ (hr ++ []))) W5 := by rw [hW5]; exact k2
      have HW5 := Lib.hid hW5
      have r0 : W5.cell? ⟨wr.heap.size, 0, none⟩ = some (.int .i64 y.op) := k3.cell 0
      have r1 : W5.cell? ⟨wr.heap.size, 1, none⟩ = some (.int .i64 y.n) := k3.cell 1
      have r2 : W5.cell? ⟨wr.heap.size, 2, none⟩ = some (.int .u8 (y.bt.toNat : Nat)) := k3.cell 2
      have r3 : W5.cell? ⟨wr.heap.size, 3, none⟩ = some (.string y.s) := k3.cell 3
      have r4 : W5.cell? ⟨wr.heap.size, 4, none⟩ = some (.string y.t) := k3.cell 4
      have r5 : W5.cell? ⟨wr.heap.size, 5, none⟩ = some (.slice B y.b.length c) := k3.cell 5
      obtain ⟨xb, hxb⟩ : ∃ xb, xb = wr.heap.size := ⟨_, rfl⟩
      have HXB := Lib.hid hxb
      have HH0 := Lib.hid (show Holds w (h ++ (hr ++ ((xb, Obj.cells (actC y B c) 48) :: []))) W5 by rw [hxb]; exact k3.perm (by classical rw [List.perm_iff_count]; intro a; simp only [List.count_append, List.count_cons, List.count_nil] <;> omega))
      rw [hW5] at r0 r1 r2 r3 r4 r5
      clear k1 k2 k3 hW5 hxb HHr hcel hcw hin hy
      by_cases hbig : (300 : Int) < (y.b.length : Int) ∨ (30 : Int) < (y.s.size : Int) ∨ (30 : Int) < (y.t.size : Int)
      · by_cases z1 : (300 : Int) < (y.b.length : Int)
        · go_wp2_with (with_reducible refine stA8 (.tmp 9) (.tmp 52) wr.heap.size y B c rfl rfl g1 ?_)
          rw [← HW5.out]
          have hbel := HH0.out.below
          go_ret
          exact ⟨rfl, hbel⟩
        · by_cases z2 : (30 : Int) < (y.s.size : Int)
          · go_wp2_with (with_reducible refine stA8 (.tmp 9) (.tmp 52) wr.heap.size y B c rfl rfl g1 ?_)
            rw [← HW5.out]
            have hbel := HH0.out.below
            go_ret
            exact ⟨rfl, hbel⟩
          · have z3 : (30 : Int) < (y.t.size : Int) := by omega
            go_wp2_with (with_reducible refine stA8 (.tmp 9) (.tmp 52) wr.heap.size y B c rfl rfl g1 ?_)
            rw [← HW5.out]
            have hbel := HH0.out.below
            go_ret
            exact ⟨rfl, hbel⟩
      have z1 : ¬ (300 : Int) < (y.b.length : Int) := fun h => hbig (.inl h)
      have z2 : ¬ (30 : Int) < (y.s.size : Int) := fun h => hbig (.inr (.inl h))
      have z3 : ¬ (30 : Int) < (y.t.size : Int) := fun h => hbig (.inr (.inr h))
      have HBL := Lib.hid (show y.b.length ≤ 100000000 by omega)
      clear hbig
      by_cases p0 : y.op = 0
      · have o0 : (y.op == 0) = true := by rw [p0]; rfl
        clear  p0
        go_wp2_with (with_reducible refine stA8 (.tmp 9) (.tmp 52) wr.heap.size y B c rfl rfl g1 ?_)
        rw [← HW5.out, ← HXB.out]
        clear r0 r1 r2 r3 r4 r5 q0 q1 q2 q3 q4 q5 g1 HW5
        refine wp_region_own 13 (fun _ => []) (by kernel_rfl) (by kernel_rfl) (by kernel_rfl) (by kernel_rfl) (Nat.le_of_ble_eq_true (by kernel_rfl)) w (fun Ls hs => BothD g d 5 11 (appM m y.s y.b).2 m ((xb, Obj.cells (actC y B c) 48) :: []) Ls hs) (fun i v h => match i with | 0 => v = .pointer (some ⟨g, 0, none⟩) ∧ h = [] | 1 => v = .pointer (some ⟨xb, 3, none⟩) ∧ h = [] | 2 => v = .string y.s ∧ h = [] | 3 => v = .pointer (some ⟨xb, 5, none⟩) ∧ h = [] | 4 => v = Value.slice B y.b.length c ∧ h = [] | 5 => v = .int .i64 (appM m y.s y.b).1 ∧ h = [] | 6 => v = .pointer (some ⟨d, 0, none⟩) ∧ h = [] | 7 => v = .pointer (some ⟨xb, 3, none⟩) ∧ h = [] | 8 => v = .string y.s ∧ h = [] | 9 => v = .pointer (some ⟨xb, 5, none⟩) ∧ h = [] | 10 => v = Value.slice B y.b.length c ∧ h = [] | 11 => v = .int .i64 (appM m y.s y.b).1 ∧ h = [] | 12 => v = .bool true ∧ h = [] | _ => True) ((h ++ (hr ++ ((xb, Obj.cells (actC y B c) 48) :: [])))) (BothD.mk HC0.out HR0.out) (HH0.out.drew) ?_ ?_
        · intro i o hi ho Ls f Hf hs R w1 hI hL hd hH
          simp only [fill, List.take_succ_cons, List.take_zero, Act.put, List.setIfInBounds_toArray, List.set_cons_zero, List.set_cons_succ]
          match i, hi with
          | 0, _ =>
            obtain rfl := Option.some.inj ho
            clear hd ho
            have hH : Holds w (hs ++ ([] ++ R)) w1 := hH
            obtain ⟨h, hr, hC, hR, rfl⟩ := hI
            unfold wpOp
            refine Or.inl ?_
            unfold Oper.wp
            go_simp
            exact OwnBy.mk _ _ _ rfl (BothD.mk hC hR) (⟨rfl, rfl⟩) (hH)
          | 1, _ =>
            obtain rfl := Option.some.inj ho
            clear hd ho
            have hH : Holds w (hs ++ ([] ++ R)) w1 := hH
            obtain ⟨h, hr, hC, hR, rfl⟩ := hI
            unfold wpOp
            refine Or.inl ?_
            unfold Oper.wp
            go_simp
            exact OwnBy.mk _ _ _ rfl (BothD.mk hC hR) (⟨rfl, rfl⟩) (hH)
          | 2, _ =>
            obtain rfl := Option.some.inj ho
            have e1 : f 1 = .pointer (some ⟨xb, 3, none⟩) := (hd ⟨1, .data⟩ (by simp) rfl).2.1
            clear hd ho
            have hH : Holds w (hs ++ ([] ++ R)) w1 := hH
            obtain ⟨h, hr, hC, hR, rfl⟩ := hI
            unfold wpOp
            refine Or.inl ?_
            simp only [e1]
            unfold Oper.wp
            have hX : Holds w ((xb, Obj.cells (actC y B c) 48) :: ((h ++ hr) ++ R)) w1 := hH.perm (by classical rw [List.perm_iff_count]; intro a; simp only [List.count_append, List.count_cons, List.count_nil] <;> omega)
            have q : w1.cell? ⟨xb, 3, none⟩ = some (.string y.s) := hX.cell 3
            go_simp
            exact OwnBy.mk _ _ _ rfl (BothD.mk hC hR) (⟨rfl, rfl⟩) (hH)
          | 3, _ =>
            obtain rfl := Option.some.inj ho
            clear hd ho
            have hH : Holds w (hs ++ ([] ++ R)) w1 := hH
            obtain ⟨h, hr, hC, hR, rfl⟩ := hI
            unfold wpOp
            refine Or.inl ?_
            unfold Oper.wp
            go_simp
            exact OwnBy.mk _ _ _ rfl (BothD.mk hC hR) (⟨rfl, rfl⟩) (hH)
          | 4, _ =>
            obtain rfl := Option.some.inj ho
            have e3 : f 3 = .pointer (some ⟨xb, 5, none⟩) := (hd ⟨3, .data⟩ (by simp) rfl).2.1
            clear hd ho
            have hH : Holds w (hs ++ ([] ++ R)) w1 := hH
            obtain ⟨h, hr, hC, hR, rfl⟩ := hI
            unfold wpOp
            refine Or.inl ?_
            simp only [e3]
            unfold Oper.wp
            have hX : Holds w ((xb, Obj.cells (actC y B c) 48) :: ((h ++ hr) ++ R)) w1 := hH.perm (by classical rw [List.perm_iff_count]; intro a; simp only [List.count_append, List.count_cons, List.count_nil] <;> omega)
            have q : w1.cell? ⟨xb, 5, none⟩ = some (.slice B y.b.length c) := hX.cell 5
            go_simp
            exact OwnBy.mk _ _ _ rfl (BothD.mk hC hR) (⟨rfl, rfl⟩) (hH)
          | 5, _ =>
            obtain rfl := Option.some.inj ho
            have e0 : f 0 = .pointer (some ⟨g, 0, none⟩) := (hd ⟨0, .data⟩ (by simp) rfl).2.1
            have e2 : f 2 = .string y.s := (hd ⟨2, .data⟩ (by simp) rfl).2.1
            have e4 : f 4 = Value.slice B y.b.length c := (hd ⟨4, .data⟩ (by simp) rfl).2.1
            clear hd ho
            have hH : Holds w (hs ++ ([] ++ R)) w1 := hH
            obtain ⟨h, hr, hC, hR, rfl⟩ := hI
            unfold wpOp
            refine Or.inl ?_
            simp only [e0, e2, e4]
            unfold Oper.wp
            rw [hL, if_neg (by decide)] at hC
            have hHp : Holds w (h ++ (hr ++ ((xb, Obj.cells (actC y B c) 48) :: []) ++ R)) w1 := hH.perm (by classical rw [List.perm_iff_count]; intro a; simp only [List.count_append, List.count_cons, List.count_nil] <;> omega)
            have hc := append_calls g m h _ y.s B c y.b w w1 HSS.out HBN.out HBL.out (by omega) hC hHp (HRD.out _)
            have HCC := Lib.hid hc
            clear hc
            go_simp
            refine HCC.out.mono ?_
            rintro e w3 ⟨rfl, h3, hC3, hH3⟩
            exact OwnBy.mk _ [] _ rfl (BothD.mk hC3 hR) ⟨rfl, rfl⟩ (hH3.perm (by classical rw [List.perm_iff_count]; intro a; simp only [List.count_append, List.count_cons, List.count_nil] <;> omega))
          | 6, _ =>
            obtain rfl := Option.some.inj ho
            clear hd ho
            have hH : Holds w (hs ++ ([] ++ R)) w1 := hH
            obtain ⟨h, hr, hC, hR, rfl⟩ := hI
            unfold wpOp
            refine Or.inl ?_
            unfold Oper.wp
            go_simp
            exact OwnBy.mk _ _ _ rfl (BothD.mk hC hR) (⟨rfl, rfl⟩) (hH)
          | 7, _ =>
            obtain rfl := Option.some.inj ho
            clear hd ho
            have hH : Holds w (hs ++ ([] ++ R)) w1 := hH
            obtain ⟨h, hr, hC, hR, rfl⟩ := hI
            unfold wpOp
            refine Or.inl ?_
            unfold Oper.wp
            go_simp
            exact OwnBy.mk _ _ _ rfl (BothD.mk hC hR) (⟨rfl, rfl⟩) (hH)
          | 8, _ =>
            obtain rfl := Option.some.inj ho
            have e7 : f 7 = .pointer (some ⟨xb, 3, none⟩) := (hd ⟨7, .data⟩ (by simp) rfl).2.1
            clear hd ho
            have hH : Holds w (hs ++ ([] ++ R)) w1 := hH
            obtain ⟨h, hr, hC, hR, rfl⟩ := hI
            unfold wpOp
            refine Or.inl ?_
            simp only [e7]
            unfold Oper.wp
            have hX : Holds w ((xb, Obj.cells (actC y B c) 48) :: ((h ++ hr) ++ R)) w1 := hH.perm (by classical rw [List.perm_iff_count]; intro a; simp only [List.count_append, List.count_cons, List.count_nil] <;> omega)
            have q : w1.cell? ⟨xb, 3, none⟩ = some (.string y.s) := hX.cell 3
            go_simp
            exact OwnBy.mk _ _ _ rfl (BothD.mk hC hR) (⟨rfl, rfl⟩) (hH)
          | 9, _ =>
            obtain rfl := Option.some.inj ho
            clear hd ho
            have hH : Holds w (hs ++ ([] ++ R)) w1 := hH
            obtain ⟨h, hr, hC, hR, rfl⟩ := hI
            unfold wpOp
            refine Or.inl ?_
            unfold Oper.wp
            go_simp
            exact OwnBy.mk _ _ _ rfl (BothD.mk hC hR) (⟨rfl, rfl⟩) (hH)
          | 10, _ =>
            obtain rfl := Option.some.inj ho
            have e9 : f 9 = .pointer (some ⟨xb, 5, none⟩) := (hd ⟨9, .data⟩ (by simp) rfl).2.1
            clear hd ho
            have hH : Holds w (hs ++ ([] ++ R)) w1 := hH
            obtain ⟨h, hr, hC, hR, rfl⟩ := hI
            unfold wpOp
            refine Or.inl ?_
            simp only [e9]
            unfold Oper.wp
            have hX : Holds w ((xb, Obj.cells (actC y B c) 48) :: ((h ++ hr) ++ R)) w1 := hH.perm (by classical rw [List.perm_iff_count]; intro a; simp only [List.count_append, List.count_cons, List.count_nil] <;> omega)
            have q : w1.cell? ⟨xb, 5, none⟩ = some (.slice B y.b.length c) := hX.cell 5
            go_simp
            exact OwnBy.mk _ _ _ rfl (BothD.mk hC hR) (⟨rfl, rfl⟩) (hH)
          | 11, _ =>
            obtain rfl := Option.some.inj ho
            have e6 : f 6 = .pointer (some ⟨d, 0, none⟩) := (hd ⟨6, .data⟩ (by simp) rfl).2.1
            have e8 : f 8 = .string y.s := (hd ⟨8, .data⟩ (by simp) rfl).2.1
            have e10 : f 10 = Value.slice B y.b.length c := (hd ⟨10, .data⟩ (by simp) rfl).2.1
            have e5 : f 5 = .int .i64 (appM m y.s y.b).1 := (hd ⟨5, .chain⟩ (by simp) rfl).2.1
            clear hd ho
            have hH : Holds w (hs ++ ([] ++ R)) w1 := hH
            obtain ⟨h, hr, hC, hR, rfl⟩ := hI
            unfold wpOp
            refine Or.inl ?_
            simp only [e6, e8, e10, e5]
            unfold Oper.wp
            rw [hL, if_neg (by decide)] at hR
            have hHp : Holds w (hr ++ (h ++ ((xb, Obj.cells (actC y B c) 48) :: []) ++ R)) w1 := hH.perm (by classical rw [List.perm_iff_count]; intro a; simp only [List.count_append, List.count_cons, List.count_nil] <;> omega)
            have hc := rappend_calls d m hr _ y.s B c y.b w w1 HBN.out (by omega) HOK.out HBL.out hR hHp (HRD.out _)
            have HCC := Lib.hid hc
            clear hc
            go_simp
            refine HCC.out.mono ?_
            rintro e w3 ⟨rfl, h3, hC3, hH3⟩
            exact OwnBy.mk _ [] _ rfl (BothD.mk hC hC3) ⟨rfl, rfl⟩ (hH3.perm (by classical rw [List.perm_iff_count]; intro a; simp only [List.count_append, List.count_cons, List.count_nil] <;> omega))
          | 12, _ =>
            obtain rfl := Option.some.inj ho
            have e5 : f 5 = .int .i64 (appM m y.s y.b).1 := (hd ⟨5, .data⟩ (by simp) rfl).2.1
            have e11 : f 11 = .int .i64 (appM m y.s y.b).1 := (hd ⟨11, .data⟩ (by simp) rfl).2.1
            clear hd ho
            have hH : Holds w (hs ++ ([] ++ R)) w1 := hH
            obtain ⟨h, hr, hC, hR, rfl⟩ := hI
            unfold wpOp
            refine Or.inl ?_
            simp only [e5, e11]
            unfold Oper.wp
            go_simp
            exact OwnBy.mk _ _ _ rfl (BothD.mk hC hR) (⟨rfl, rfl⟩) (hH)
        · intro Ls f Hf hs w1 hI hL hV hH
          have e0 : f 0 = .pointer (some ⟨g, 0, none⟩) := (hV 0 (by decide)).1
          have e1 : f 1 = .pointer (some ⟨xb, 3, none⟩) := (hV 1 (by decide)).1
          have e2 : f 2 = .string y.s := (hV 2 (by decide)).1
          have e3 : f 3 = .pointer (some ⟨xb, 5, none⟩) := (hV 3 (by decide)).1
          have e4 : f 4 = Value.slice B y.b.length c := (hV 4 (by decide)).1
          have e5 : f 5 = .int .i64 (appM m y.s y.b).1 := (hV 5 (by decide)).1
          have e6 : f 6 = .pointer (some ⟨d, 0, none⟩) := (hV 6 (by decide)).1
          have e7 : f 7 = .pointer (some ⟨xb, 3, none⟩) := (hV 7 (by decide)).1
          have e8 : f 8 = .string y.s := (hV 8 (by decide)).1
          have e9 : f 9 = .pointer (some ⟨xb, 5, none⟩) := (hV 9 (by decide)).1
          have e10 : f 10 = Value.slice B y.b.length c := (hV 10 (by decide)).1
          have e11 : f 11 = .int .i64 (appM m y.s y.b).1 := (hV 11 (by decide)).1
          have e12 : f 12 = .bool true := (hV 12 (by decide)).1
          clear hV
          have hH : Holds w (hs ++ []) w1 := hH
          simp only [fill, List.take_succ_cons, List.take_zero, List.drop_succ_cons, List.drop_zero, Act.put, List.setIfInBounds_toArray, List.set_cons_zero, List.set_cons_succ, e0, e1, e2, e3, e4, e5, e6, e7, e8, e9, e10, e11, e12]
          obtain ⟨h2, hr2, hC2, hR2, rfl⟩ := hI
          rw [hL 5 (by decide), if_pos rfl] at hC2
          rw [hL 11 (by decide), if_pos rfl] at hR2
          obtain ⟨M, hM⟩ : ∃ M, M = (appM m y.s y.b).2 := ⟨_, rfl⟩
          rw [← hM] at hC2 hR2
          have HC := Lib.hid hC2; have HR := Lib.hid hR2
          have HGD := Lib.hid (show Good8 (k + 1) M by rw [hM]; exact good_app HGD0.out y.s y.b HSS.out)
          have hcn2 : M.fl.length ≤ k + 1 := HGD.out.2.1
          have HH := Lib.hid (show Holds w (h2 ++ (hr2 ++ ((xb, Obj.cells (actC y B c) 48) :: []))) w1 from by simpa using hH)
          have HS3 := Lib.hid (show w1.cell? ⟨xb, 3, none⟩ = some (.string y.s) from Holds.cell (HH.out.perm (k := (xb, Obj.cells (actC y B c) 48) :: (h2 ++ hr2)) (by classical rw [List.perm_iff_count]; intro a; simp only [List.count_append, List.count_cons, List.count_nil] <;> omega)) 3)
          clear hM hC2 hR2 hH hL e0 e1 e2 e3 e4 e5 e6 e7 e8 e9 e10 e11 e12
          have hs3 := HS3.out
          go_wp2_with fail
          refine (same_calls g d M h2 hr2 ((xb, Obj.cells (actC y B c) 48) :: []) y.s w w1 HSS.out (by omega) HGD.out.1 HC.out HR.out HH.out).mono ?_
          rintro e w9 ⟨rfl, h9, hC9, hH9⟩
          have HC9 := Lib.hid hC9; have HH9 := Lib.hid hH9
          clear hC9 hH9 hs3
          go_wp2_with fail
          go_roundw
          case rel => exact ⟨k + 1, M, h9, hr2, by omega, by go_num, HC9.out, HR.out, HGD.out, ((HH9.out.perm (k := (h9 ++ (hr2 ++ [])) ++ [(xb, Obj.cells (actC y B c) 48)]) (by classical rw [List.perm_iff_count]; intro a; simp only [List.count_append, List.count_cons, List.count_nil] <;> omega))).left⟩
          case measure => simp [intOf]; omega
      by_cases p1 : y.op = 1
      · have o0 : (y.op == 0) = false := by rw [beq_eq_false_iff_ne]; exact p0
        have o1 : (y.op == 1) = true := by rw [p1]; rfl
        clear p0 p1
        go_wp2_with (with_reducible refine stA8 (.tmp 9) (.tmp 52) wr.heap.size y B c rfl rfl g1 ?_)
        rw [← HW5.out, ← HXB.out]
        clear r0 r1 r2 r3 r4 r5 q0 q1 q2 q3 q4 q5 g1 HW5
        refine wp_region_own 9 (fun _ => []) (by kernel_rfl) (by kernel_rfl) (by kernel_rfl) (by kernel_rfl) (Nat.le_of_ble_eq_true (by kernel_rfl)) w (fun Ls hs => BothD g d 3 7 (syncM m y.s).2 m ((xb, Obj.cells (actC y B c) 48) :: []) Ls hs) (fun i v h => match i with | 0 => v = .pointer (some ⟨g, 0, none⟩) ∧ h = [] | 1 => v = .pointer (some ⟨xb, 3, none⟩) ∧ h = [] | 2 => v = .string y.s ∧ h = [] | 3 => v = .int .i64 (syncM m y.s).1 ∧ h = [] | 4 => v = .pointer (some ⟨d, 0, none⟩) ∧ h = [] | 5 => v = .pointer (some ⟨xb, 3, none⟩) ∧ h = [] | 6 => v = .string y.s ∧ h = [] | 7 => v = .int .i64 (syncM m y.s).1 ∧ h = [] | 8 => v = .bool true ∧ h = [] | _ => True) ((h ++ (hr ++ ((xb, Obj.cells (actC y B c) 48) :: [])))) (BothD.mk HC0.out HR0.out) (HH0.out.drew) ?_ ?_
        · intro i o hi ho Ls f Hf hs R w1 hI hL hd hH
          simp only [fill, List.take_succ_cons, List.take_zero, Act.put, List.setIfInBounds_toArray, List.set_cons_zero, List.set_cons_succ]
          match i, hi with
          | 0, _ =>
            obtain rfl := Option.some.inj ho
            clear hd ho
            have hH : Holds w (hs ++ ([] ++ R)) w1 := hH
            obtain ⟨h, hr, hC, hR, rfl⟩ := hI
            unfold wpOp
            refine Or.inl ?_
            unfold Oper.wp
            go_simp
            exact OwnBy.mk _ _ _ rfl (BothD.mk hC hR) (⟨rfl, rfl⟩) (hH)
          | 1, _ =>
            obtain rfl := Option.some.inj ho
            clear hd ho
            have hH : Holds w (hs ++ ([] ++ R)) w1 := hH
            obtain ⟨h, hr, hC, hR, rfl⟩ := hI
            unfold wpOp
            refine Or.inl ?_
            unfold Oper.wp
            go_simp
            exact OwnBy.mk _ _ _ rfl (BothD.mk hC hR) (⟨rfl, rfl⟩) (hH)
          | 2, _ =>
            obtain rfl := Option.some.inj ho
            have e1 : f 1 = .pointer (some ⟨xb, 3, none⟩) := (hd ⟨1, .data⟩ (by simp) rfl).2.1
            clear hd ho
            have hH : Holds w (hs ++ ([] ++ R)) w1 := hH
            obtain ⟨h, hr, hC, hR, rfl⟩ := hI
            unfold wpOp
            refine Or.inl ?_
            simp only [e1]
            unfold Oper.wp
            have hX : Holds w ((xb, Obj.cells (actC y B c) 48) :: ((h ++ hr) ++ R)) w1 := hH.perm (by classical rw [List.perm_iff_count]; intro a; simp only [List.count_append, List.count_cons, List.count_nil] <;> omega)
            have q : w1.cell? ⟨xb, 3, none⟩ = some (.string y.s) := hX.cell 3
            go_simp
            exact OwnBy.mk _ _ _ rfl (BothD.mk hC hR) (⟨rfl, rfl⟩) (hH)
          | 3, _ =>
            obtain rfl := Option.some.inj ho
            have e0 : f 0 = .pointer (some ⟨g, 0, none⟩) := (hd ⟨0, .data⟩ (by simp) rfl).2.1
            have e2 : f 2 = .string y.s := (hd ⟨2, .data⟩ (by simp) rfl).2.1
            clear hd ho
            have hH : Holds w (hs ++ ([] ++ R)) w1 := hH
            obtain ⟨h, hr, hC, hR, rfl⟩ := hI
            unfold wpOp
            refine Or.inl ?_
            simp only [e0, e2]
            unfold Oper.wp
            rw [hL, if_neg (by decide)] at hC
            have hHp : Holds w (h ++ (hr ++ ((xb, Obj.cells (actC y B c) 48) :: []) ++ R)) w1 := hH.perm (by classical rw [List.perm_iff_count]; intro a; simp only [List.count_append, List.count_cons, List.count_nil] <;> omega)
            have hc := sync_calls g m h _ y.s w w1 HSS.out hC hHp
            have HCC := Lib.hid hc
            clear hc
            go_simp
            refine HCC.out.mono ?_
            rintro e w3 ⟨rfl, h3, hC3, hH3⟩
            exact OwnBy.mk _ [] _ rfl (BothD.mk hC3 hR) ⟨rfl, rfl⟩ (hH3.perm (by classical rw [List.perm_iff_count]; intro a; simp only [List.count_append, List.count_cons, List.count_nil] <;> omega))
          | 4, _ =>
            obtain rfl := Option.some.inj ho
            clear hd ho
            have hH : Holds w (hs ++ ([] ++ R)) w1 := hH
            obtain ⟨h, hr, hC, hR, rfl⟩ := hI
            unfold wpOp
            refine Or.inl ?_
            unfold Oper.wp
            go_simp
            exact OwnBy.mk _ _ _ rfl (BothD.mk hC hR) (⟨rfl, rfl⟩) (hH)
          | 5, _ =>
            obtain rfl := Option.some.inj ho
            clear hd ho
            have hH : Holds w (hs ++ ([] ++ R)) w1 := hH
            obtain ⟨h, hr, hC, hR, rfl⟩ := hI
            unfold wpOp
            refine Or.inl ?_
            unfold Oper.wp
            go_simp
            exact OwnBy.mk _ _ _ rfl (BothD.mk hC hR) (⟨rfl, rfl⟩) (hH)
          | 6, _ =>
            obtain rfl := Option.some.inj ho
            have e5 : f 5 = .pointer (some ⟨xb, 3, none⟩) := (hd ⟨5, .data⟩ (by simp) rfl).2.1
            clear hd ho
            have hH : Holds w (hs ++ ([] ++ R)) w1 := hH
            obtain ⟨h, hr, hC, hR, rfl⟩ := hI
            unfold wpOp
            refine Or.inl ?_
            simp only [e5]
            unfold Oper.wp
            have hX : Holds w ((xb, Obj.cells (actC y B c) 48) :: ((h ++ hr) ++ R)) w1 := hH.perm (by classical rw [List.perm_iff_count]; intro a; simp only [List.count_append, List.count_cons, List.count_nil] <;> omega)
            have q : w1.cell? ⟨xb, 3, none⟩ = some (.string y.s) := hX.cell 3
            go_simp
            exact OwnBy.mk _ _ _ rfl (BothD.mk hC hR) (⟨rfl, rfl⟩) (hH)
          | 7, _ =>
            obtain rfl := Option.some.inj ho
            have e4 : f 4 = .pointer (some ⟨d, 0, none⟩) := (hd ⟨4, .data⟩ (by simp) rfl).2.1
            have e6 : f 6 = .string y.s := (hd ⟨6, .data⟩ (by simp) rfl).2.1
            have e3 : f 3 = .int .i64 (syncM m y.s).1 := (hd ⟨3, .chain⟩ (by simp) rfl).2.1
            clear hd ho
            have hH : Holds w (hs ++ ([] ++ R)) w1 := hH
            obtain ⟨h, hr, hC, hR, rfl⟩ := hI
            unfold wpOp
            refine Or.inl ?_
            simp only [e4, e6, e3]
            unfold Oper.wp
            rw [hL, if_neg (by decide)] at hR
            have hHp : Holds w (hr ++ (h ++ ((xb, Obj.cells (actC y B c) 48) :: []) ++ R)) w1 := hH.perm (by classical rw [List.perm_iff_count]; intro a; simp only [List.count_append, List.count_cons, List.count_nil] <;> omega)
            have hc := rsync_calls d m hr _ y.s w w1 (by omega) HOK.out.apart hR hHp
            have HCC := Lib.hid hc
            clear hc
            go_simp
            refine HCC.out.mono ?_
            rintro e w3 ⟨rfl, h3, hC3, hH3⟩
            exact OwnBy.mk _ [] _ rfl (BothD.mk hC hC3) ⟨rfl, rfl⟩ (hH3.perm (by classical rw [List.perm_iff_count]; intro a; simp only [List.count_append, List.count_cons, List.count_nil] <;> omega))
          | 8, _ =>
            obtain rfl := Option.some.inj ho
            have e3 : f 3 = .int .i64 (syncM m y.s).1 := (hd ⟨3, .data⟩ (by simp) rfl).2.1
            have e7 : f 7 = .int .i64 (syncM m y.s).1 := (hd ⟨7, .data⟩ (by simp) rfl).2.1
            clear hd ho
            have hH : Holds w (hs ++ ([] ++ R)) w1 := hH
            obtain ⟨h, hr, hC, hR, rfl⟩ := hI
            unfold wpOp
            refine Or.inl ?_
            simp only [e3, e7]
            unfold Oper.wp
            go_simp
            exact OwnBy.mk _ _ _ rfl (BothD.mk hC hR) (⟨rfl, rfl⟩) (hH)
        · intro Ls f Hf hs w1 hI hL hV hH
          have e0 : f 0 = .pointer (some ⟨g, 0, none⟩) := (hV 0 (by decide)).1
          have e1 : f 1 = .pointer (some ⟨xb, 3, none⟩) := (hV 1 (by decide)).1
          have e2 : f 2 = .string y.s := (hV 2 (by decide)).1
          have e3 : f 3 = .int .i64 (syncM m y.s).1 := (hV 3 (by decide)).1
          have e4 : f 4 = .pointer (some ⟨d, 0, none⟩) := (hV 4 (by decide)).1
          have e5 : f 5 = .pointer (some ⟨xb, 3, none⟩) := (hV 5 (by decide)).1
          have e6 : f 6 = .string y.s := (hV 6 (by decide)).1
          have e7 : f 7 = .int .i64 (syncM m y.s).1 := (hV 7 (by decide)).1
          have e8 : f 8 = .bool true := (hV 8 (by decide)).1
          clear hV
          have hH : Holds w (hs ++ []) w1 := hH
          simp only [fill, List.take_succ_cons, List.take_zero, List.drop_succ_cons, List.drop_zero, Act.put, List.setIfInBounds_toArray, List.set_cons_zero, List.set_cons_succ, e0, e1, e2, e3, e4, e5, e6, e7, e8]
          obtain ⟨h2, hr2, hC2, hR2, rfl⟩ := hI
          rw [hL 3 (by decide), if_pos rfl] at hC2
          rw [hL 7 (by decide), if_pos rfl] at hR2
          obtain ⟨M, hM⟩ : ∃ M, M = (syncM m y.s).2 := ⟨_, rfl⟩
          rw [← hM] at hC2 hR2
          have HC := Lib.hid hC2; have HR := Lib.hid hR2
          have HGD := Lib.hid (show Good8 (k + 1) M by rw [hM]; exact good_sync HGD0.out y.s)
          have hcn2 : M.fl.length ≤ k + 1 := HGD.out.2.1
          have HH := Lib.hid (show Holds w (h2 ++ (hr2 ++ ((xb, Obj.cells (actC y B c) 48) :: []))) w1 from by simpa using hH)
          have HS3 := Lib.hid (show w1.cell? ⟨xb, 3, none⟩ = some (.string y.s) from Holds.cell (HH.out.perm (k := (xb, Obj.cells (actC y B c) 48) :: (h2 ++ hr2)) (by classical rw [List.perm_iff_count]; intro a; simp only [List.count_append, List.count_cons, List.count_nil] <;> omega)) 3)
          clear hM hC2 hR2 hH hL e0 e1 e2 e3 e4 e5 e6 e7 e8
          have hs3 := HS3.out
          go_wp2_with fail
          refine (same_calls g d M h2 hr2 ((xb, Obj.cells (actC y B c) 48) :: []) y.s w w1 HSS.out (by omega) HGD.out.1 HC.out HR.out HH.out).mono ?_
          rintro e w9 ⟨rfl, h9, hC9, hH9⟩
          have HC9 := Lib.hid hC9; have HH9 := Lib.hid hH9
          clear hC9 hH9 hs3
          go_wp2_with fail
          go_roundw
          case rel => exact ⟨k + 1, M, h9, hr2, by omega, by go_num, HC9.out, HR.out, HGD.out, ((HH9.out.perm (k := (h9 ++ (hr2 ++ [])) ++ [(xb, Obj.cells (actC y B c) 48)]) (by classical rw [List.perm_iff_count]; intro a; simp only [List.count_append, List.count_cons, List.count_nil] <;> omega))).left⟩
          case measure => simp [intOf]; omega
      by_cases p2 : y.op = 2
      · have o0 : (y.op == 0) = false := by rw [beq_eq_false_iff_ne]; exact p0
        have o1 : (y.op == 1) = false := by rw [beq_eq_false_iff_ne]; exact p1
        have o2 : (y.op == 2) = true := by rw [p2]; rfl
        clear p0 p1 p2
        go_wp2_with (with_reducible refine stA8 (.tmp 9) (.tmp 52) wr.heap.size y B c rfl rfl g1 ?_)
        rw [← HW5.out, ← HXB.out]
        clear r0 r1 r2 r3 r4 r5 q0 q1 q2 q3 q4 q5 g1 HW5
        refine wp_region_own 13 (fun _ => []) (by kernel_rfl) (by kernel_rfl) (by kernel_rfl) (by kernel_rfl) (Nat.le_of_ble_eq_true (by kernel_rfl)) w (fun Ls hs => BothD g d 5 11 (cutM m y.s y.n).2 m ((xb, Obj.cells (actC y B c) 48) :: []) Ls hs) (fun i v h => match i with | 0 => v = .pointer (some ⟨g, 0, none⟩) ∧ h = [] | 1 => v = .pointer (some ⟨xb, 3, none⟩) ∧ h = [] | 2 => v = .string y.s ∧ h = [] | 3 => v = .pointer (some ⟨xb, 1, none⟩) ∧ h = [] | 4 => v = .int .i64 y.n ∧ h = [] | 5 => v = .int .i64 (cutM m y.s y.n).1 ∧ h = [] | 6 => v = .pointer (some ⟨d, 0, none⟩) ∧ h = [] | 7 => v = .pointer (some ⟨xb, 3, none⟩) ∧ h = [] | 8 => v = .string y.s ∧ h = [] | 9 => v = .pointer (some ⟨xb, 1, none⟩) ∧ h = [] | 10 => v = .int .i64 y.n ∧ h = [] | 11 => v = .int .i64 (cutM m y.s y.n).1 ∧ h = [] | 12 => v = .bool true ∧ h = [] | _ => True) ((h ++ (hr ++ ((xb, Obj.cells (actC y B c) 48) :: [])))) (BothD.mk HC0.out HR0.out) (HH0.out.drew) ?_ ?_
        · intro i o hi ho Ls f Hf hs R w1 hI hL hd hH
          simp only [fill, List.take_succ_cons, List.take_zero, Act.put, List.setIfInBounds_toArray, List.set_cons_zero, List.set_cons_succ]
          match i, hi with
          | 0, _ =>
            obtain rfl := Option.some.inj ho
            clear hd ho
            have hH : Holds w (hs ++ ([] ++ R)) w1 := hH
            obtain ⟨h, hr, hC, hR, rfl⟩ := hI
            unfold wpOp
            refine Or.inl ?_
            unfold Oper.wp
            go_simp
            exact OwnBy.mk _ _ _ rfl (BothD.mk hC hR) (⟨rfl, rfl⟩) (hH)
          | 1, _ =>
            obtain rfl := Option.some.inj ho
            clear hd ho
            have hH : Holds w (hs ++ ([] ++ R)) w1 := hH
            obtain ⟨h, hr, hC, hR, rfl⟩ := hI
            unfold wpOp
            refine Or.inl ?_
            unfold Oper.wp
            go_simp
            exact OwnBy.mk _ _ _ rfl (BothD.mk hC hR) (⟨rfl, rfl⟩) (hH)
          | 2, _ =>
            obtain rfl := Option.some.inj ho
            have e1 : f 1 = .pointer (some ⟨xb, 3, none⟩) := (hd ⟨1, .data⟩ (by simp) rfl).2.1
            clear hd ho
            have hH : Holds w (hs ++ ([] ++ R)) w1 := hH
            obtain ⟨h, hr, hC, hR, rfl⟩ := hI
            unfold wpOp
            refine Or.inl ?_
            simp only [e1]
            unfold Oper.wp
            have hX : Holds w ((xb, Obj.cells (actC y B c) 48) :: ((h ++ hr) ++ R)) w1 := hH.perm (by classical rw [List.perm_iff_count]; intro a; simp only [List.count_append, List.count_cons, List.count_nil] <;> omega)
            have q : w1.cell? ⟨xb, 3, none⟩ = some (.string y.s) := hX.cell 3
            go_simp
            exact OwnBy.mk _ _ _ rfl (BothD.mk hC hR) (⟨rfl, rfl⟩) (hH)
          | 3, _ =>
            obtain rfl := Option.some.inj ho
            clear hd ho
            have hH : Holds w (hs ++ ([] ++ R)) w1 := hH
            obtain ⟨h, hr, hC, hR, rfl⟩ := hI
            unfold wpOp
            refine Or.inl ?_
            unfold Oper.wp
            go_simp
            exact OwnBy.mk _ _ _ rfl (BothD.mk hC hR) (⟨rfl, rfl⟩) (hH)
          | 4, _ =>
            obtain rfl := Option.some.inj ho
            have e3 : f 3 = .pointer (some ⟨xb, 1, none⟩) := (hd ⟨3, .data⟩ (by simp) rfl).2.1
            clear hd ho
            have hH : Holds w (hs ++ ([] ++ R)) w1 := hH
            obtain ⟨h, hr, hC, hR, rfl⟩ := hI
            unfold wpOp
            refine Or.inl ?_
            simp only [e3]
            unfold Oper.wp
            have hX : Holds w ((xb, Obj.cells (actC y B c) 48) :: ((h ++ hr) ++ R)) w1 := hH.perm (by classical rw [List.perm_iff_count]; intro a; simp only [List.count_append, List.count_cons, List.count_nil] <;> omega)
            have q : w1.cell? ⟨xb, 1, none⟩ = some (.int .i64 y.n) := hX.cell 1
            go_simp
            exact OwnBy.mk _ _ _ rfl (BothD.mk hC hR) (⟨rfl, rfl⟩) (hH)
          | 5, _ =>
            obtain rfl := Option.some.inj ho
            have e0 : f 0 = .pointer (some ⟨g, 0, none⟩) := (hd ⟨0, .data⟩ (by simp) rfl).2.1
            have e2 : f 2 = .string y.s := (hd ⟨2, .data⟩ (by simp) rfl).2.1
            have e4 : f 4 = .int .i64 y.n := (hd ⟨4, .data⟩ (by simp) rfl).2.1
            clear hd ho
            have hH : Holds w (hs ++ ([] ++ R)) w1 := hH
            obtain ⟨h, hr, hC, hR, rfl⟩ := hI
            unfold wpOp
            refine Or.inl ?_
            simp only [e0, e2, e4]
            unfold Oper.wp
            rw [hL, if_neg (by decide)] at hC
            have hHp : Holds w (h ++ (hr ++ ((xb, Obj.cells (actC y B c) 48) :: []) ++ R)) w1 := hH.perm (by classical rw [List.perm_iff_count]; intro a; simp only [List.count_append, List.count_cons, List.count_nil] <;> omega)
            have hc := cut_calls g m h _ y.s y.n w w1 HSS.out hC hHp
            have HCC := Lib.hid hc
            clear hc
            go_simp
            refine HCC.out.mono ?_
            rintro e w3 ⟨rfl, h3, hC3, hH3⟩
            exact OwnBy.mk _ [] _ rfl (BothD.mk hC3 hR) ⟨rfl, rfl⟩ (hH3.perm (by classical rw [List.perm_iff_count]; intro a; simp only [List.count_append, List.count_cons, List.count_nil] <;> omega))
          | 6, _ =>
            obtain rfl := Option.some.inj ho
            clear hd ho
            have hH : Holds w (hs ++ ([] ++ R)) w1 := hH
            obtain ⟨h, hr, hC, hR, rfl⟩ := hI
            unfold wpOp
            refine Or.inl ?_
            unfold Oper.wp
            go_simp
            exact OwnBy.mk _ _ _ rfl (BothD.mk hC hR) (⟨rfl, rfl⟩) (hH)
          | 7, _ =>
            obtain rfl := Option.some.inj ho
            clear hd ho
            have hH : Holds w (hs ++ ([] ++ R)) w1 := hH
            obtain ⟨h, hr, hC, hR, rfl⟩ := hI
            unfold wpOp
            refine Or.inl ?_
            unfold Oper.wp
            go_simp
            exact OwnBy.mk _ _ _ rfl (BothD.mk hC hR) (⟨rfl, rfl⟩) (hH)
          | 8, _ =>
            obtain rfl := Option.some.inj ho
            have e7 : f 7 = .pointer (some ⟨xb, 3, none⟩) := (hd ⟨7, .data⟩ (by simp) rfl).2.1
            clear hd ho
            have hH : Holds w (hs ++ ([] ++ R)) w1 := hH
            obtain ⟨h, hr, hC, hR, rfl⟩ := hI
            unfold wpOp
            refine Or.inl ?_
            simp only [e7]
            unfold Oper.wp
            have hX : Holds w ((xb, Obj.cells (actC y B c) 48) :: ((h ++ hr) ++ R)) w1 := hH.perm (by classical rw [List.perm_iff_count]; intro a; simp only [List.count_append, List.count_cons, List.count_nil] <;> omega)
            have q : w1.cell? ⟨xb, 3, none⟩ = some (.string y.s) := hX.cell 3
            go_simp
            exact OwnBy.mk _ _ _ rfl (BothD.mk hC hR) (⟨rfl, rfl⟩) (hH)
          | 9, _ =>
            obtain rfl := Option.some.inj ho
            clear hd ho
            have hH : Holds w (hs ++ ([] ++ R)) w1 := hH
            obtain ⟨h, hr, hC, hR, rfl⟩ := hI
            unfold wpOp
            refine Or.inl ?_
            unfold Oper.wp
            go_simp
            exact OwnBy.mk _ _ _ rfl (BothD.mk hC hR) (⟨rfl, rfl⟩) (hH)
          | 10, _ =>
            obtain rfl := Option.some.inj ho
            have e9 : f 9 = .pointer (some ⟨xb, 1, none⟩) := (hd ⟨9, .data⟩ (by simp) rfl).2.1
            clear hd ho
            have hH : Holds w (hs ++ ([] ++ R)) w1 := hH
            obtain ⟨h, hr, hC, hR, rfl⟩ := hI
            unfold wpOp
            refine Or.inl ?_
            simp only [e9]
            unfold Oper.wp
            have hX : Holds w ((xb, Obj.cells (actC y B c) 48) :: ((h ++ hr) ++ R)) w1 := hH.perm (by classical rw [List.perm_iff_count]; intro a; simp only [List.count_append, List.count_cons, List.count_nil] <;> omega)
            have q : w1.cell? ⟨xb, 1, none⟩ = some (.int .i64 y.n) := hX.cell 1
            go_simp
            exact OwnBy.mk _ _ _ rfl (BothD.mk hC hR) (⟨rfl, rfl⟩) (hH)
          | 11, _ =>
            obtain rfl := Option.some.inj ho
            have e6 : f 6 = .pointer (some ⟨d, 0, none⟩) := (hd ⟨6, .data⟩ (by simp) rfl).2.1
            have e8 : f 8 = .string y.s := (hd ⟨8, .data⟩ (by simp) rfl).2.1
            have e10 : f 10 = .int .i64 y.n := (hd ⟨10, .data⟩ (by simp) rfl).2.1
            have e5 : f 5 = .int .i64 (cutM m y.s y.n).1 := (hd ⟨5, .chain⟩ (by simp) rfl).2.1
            clear hd ho
            have hH : Holds w (hs ++ ([] ++ R)) w1 := hH
            obtain ⟨h, hr, hC, hR, rfl⟩ := hI
            unfold wpOp
            refine Or.inl ?_
            simp only [e6, e8, e10, e5]
            unfold Oper.wp
            rw [hL, if_neg (by decide)] at hR
            have hHp : Holds w (hr ++ (h ++ ((xb, Obj.cells (actC y B c) 48) :: []) ++ R)) w1 := hH.perm (by classical rw [List.perm_iff_count]; intro a; simp only [List.count_append, List.count_cons, List.count_nil] <;> omega)
            have hc := rcut_calls d m hr _ y.s y.n w w1 (by omega) HOK.out.apart (file_len HOK.out) hR hHp
            have HCC := Lib.hid hc
            clear hc
            go_simp
            refine HCC.out.mono ?_
            rintro e w3 ⟨rfl, h3, hC3, hH3⟩
            exact OwnBy.mk _ [] _ rfl (BothD.mk hC hC3) ⟨rfl, rfl⟩ (hH3.perm (by classical rw [List.perm_iff_count]; intro a; simp only [List.count_append, List.count_cons, List.count_nil] <;> omega))
          | 12, _ =>
            obtain rfl := Option.some.inj ho
            have e5 : f 5 = .int .i64 (cutM m y.s y.n).1 := (hd ⟨5, .data⟩ (by simp) rfl).2.1
            have e11 : f 11 = .int .i64 (cutM m y.s y.n).1 := (hd ⟨11, .data⟩ (by simp) rfl).2.1
            clear hd ho
            have hH : Holds w (hs ++ ([] ++ R)) w1 := hH
            obtain ⟨h, hr, hC, hR, rfl⟩ := hI
            unfold wpOp
            refine Or.inl ?_
            simp only [e5, e11]
            unfold Oper.wp
            go_simp
            exact OwnBy.mk _ _ _ rfl (BothD.mk hC hR) (⟨rfl, rfl⟩) (hH)
        · intro Ls f Hf hs w1 hI hL hV hH
          have e0 : f 0 = .pointer (some ⟨g, 0, none⟩) := (hV 0 (by decide)).1
          have e1 : f 1 = .pointer (some ⟨xb, 3, none⟩) := (hV 1 (by decide)).1
          have e2 : f 2 = .string y.s := (hV 2 (by decide)).1
          have e3 : f 3 = .pointer (some ⟨xb, 1, none⟩) := (hV 3 (by decide)).1
          have e4 : f 4 = .int .i64 y.n := (hV 4 (by decide)).1
          have e5 : f 5 = .int .i64 (cutM m y.s y.n).1 := (hV 5 (by decide)).1
          have e6 : f 6 = .pointer (some ⟨d, 0, none⟩) := (hV 6 (by decide)).1
          have e7 : f 7 = .pointer (some ⟨xb, 3, none⟩) := (hV 7 (by decide)).1
          have e8 : f 8 = .string y.s := (hV 8 (by decide)).1
          have e9 : f 9 = .pointer (some ⟨xb, 1, none⟩) := (hV 9 (by decide)).1
          have e10 : f 10 = .int .i64 y.n := (hV 10 (by decide)).1
          have e11 : f 11 = .int .i64 (cutM m y.s y.n).1 := (hV 11 (by decide)).1
          have e12 : f 12 = .bool true := (hV 12 (by decide)).1
          clear hV
          have hH : Holds w (hs ++ []) w1 := hH
          simp only [fill, List.take_succ_cons, List.take_zero, List.drop_succ_cons, List.drop_zero, Act.put, List.setIfInBounds_toArray, List.set_cons_zero, List.set_cons_succ, e0, e1, e2, e3, e4, e5, e6, e7, e8, e9, e10, e11, e12]
          obtain ⟨h2, hr2, hC2, hR2, rfl⟩ := hI
          rw [hL 5 (by decide), if_pos rfl] at hC2
          rw [hL 11 (by decide), if_pos rfl] at hR2
          obtain ⟨M, hM⟩ : ∃ M, M = (cutM m y.s y.n).2 := ⟨_, rfl⟩
          rw [← hM] at hC2 hR2
          have HC := Lib.hid hC2; have HR := Lib.hid hR2
          have HGD := Lib.hid (show Good8 (k + 1) M by rw [hM]; exact good_cut HGD0.out y.s y.n)
          have hcn2 : M.fl.length ≤ k + 1 := HGD.out.2.1
          have HH := Lib.hid (show Holds w (h2 ++ (hr2 ++ ((xb, Obj.cells (actC y B c) 48) :: []))) w1 from by simpa using hH)
          have HS3 := Lib.hid (show w1.cell? ⟨xb, 3, none⟩ = some (.string y.s) from Holds.cell (HH.out.perm (k := (xb, Obj.cells (actC y B c) 48) :: (h2 ++ hr2)) (by classical rw [List.perm_iff_count]; intro a; simp only [List.count_append, List.count_cons, List.count_nil] <;> omega)) 3)
          clear hM hC2 hR2 hH hL e0 e1 e2 e3 e4 e5 e6 e7 e8 e9 e10 e11 e12
          have hs3 := HS3.out
          go_wp2_with fail
          refine (same_calls g d M h2 hr2 ((xb, Obj.cells (actC y B c) 48) :: []) y.s w w1 HSS.out (by omega) HGD.out.1 HC.out HR.out HH.out).mono ?_
          rintro e w9 ⟨rfl, h9, hC9, hH9⟩
          have HC9 := Lib.hid hC9; have HH9 := Lib.hid hH9
          clear hC9 hH9 hs3
          go_wp2_with fail
          go_roundw
          case rel => exact ⟨k + 1, M, h9, hr2, by omega, by go_num, HC9.out, HR.out, HGD.out, ((HH9.out.perm (k := (h9 ++ (hr2 ++ [])) ++ [(xb, Obj.cells (actC y B c) 48)]) (by classical rw [List.perm_iff_count]; intro a; simp only [List.count_append, List.count_cons, List.count_nil] <;> omega))).left⟩
          case measure => simp [intOf]; omega
      by_cases p3 : y.op = 3
      · have o0 : (y.op == 0) = false := by rw [beq_eq_false_iff_ne]; exact p0
        have o1 : (y.op == 1) = false := by rw [beq_eq_false_iff_ne]; exact p1
        have o2 : (y.op == 2) = false := by rw [beq_eq_false_iff_ne]; exact p2
        have o3 : (y.op == 3) = true := by rw [p3]; rfl
        clear p0 p1 p2 p3
        go_wp2_with (with_reducible refine stA8 (.tmp 9) (.tmp 52) wr.heap.size y B c rfl rfl g1 ?_)
        rw [← HW5.out, ← HXB.out]
        clear r0 r1 r2 r3 r4 r5 q0 q1 q2 q3 q4 q5 g1 HW5
        refine wp_region_own 13 (fun _ => []) (by kernel_rfl) (by kernel_rfl) (by kernel_rfl) (by kernel_rfl) (Nat.le_of_ble_eq_true (by kernel_rfl)) w (fun Ls hs => BothD g d 5 11 (renM m y.s y.t).2 m ((xb, Obj.cells (actC y B c) 48) :: []) Ls hs) (fun i v h => match i with | 0 => v = .pointer (some ⟨g, 0, none⟩) ∧ h = [] | 1 => v = .pointer (some ⟨xb, 3, none⟩) ∧ h = [] | 2 => v = .string y.s ∧ h = [] | 3 => v = .pointer (some ⟨xb, 4, none⟩) ∧ h = [] | 4 => v = .string y.t ∧ h = [] | 5 => v = .int .i64 (renM m y.s y.t).1 ∧ h = [] | 6 => v = .pointer (some ⟨d, 0, none⟩) ∧ h = [] | 7 => v = .pointer (some ⟨xb, 3, none⟩) ∧ h = [] | 8 => v = .string y.s ∧ h = [] | 9 => v = .pointer (some ⟨xb, 4, none⟩) ∧ h = [] | 10 => v = .string y.t ∧ h = [] | 11 => v = .int .i64 (renM m y.s y.t).1 ∧ h = [] | 12 => v = .bool true ∧ h = [] | _ => True) ((h ++ (hr ++ ((xb, Obj.cells (actC y B c) 48) :: [])))) (BothD.mk HC0.out HR0.out) (HH0.out.drew) ?_ ?_
        · intro i o hi ho Ls f Hf hs R w1 hI hL hd hH
          simp only [fill, List.take_succ_cons, List.take_zero, Act.put, List.setIfInBounds_toArray, List.set_cons_zero, List.set_cons_succ]
          match i, hi with
          | 0, _ =>
            obtain rfl := Option.some.inj ho
            clear hd ho
            have hH : Holds w (hs ++ ([] ++ R)) w1 := hH
            obtain ⟨h, hr, hC, hR, rfl⟩ := hI
            unfold wpOp
            refine Or.inl ?_
            unfold Oper.wp
            go_simp
            exact OwnBy.mk _ _ _ rfl (BothD.mk hC hR) (⟨rfl, rfl⟩) (hH)
          | 1, _ =>
            obtain rfl := Option.some.inj ho
            clear hd ho
            have hH : Holds w (hs ++ ([] ++ R)) w1 := hH
            obtain ⟨h, hr, hC, hR, rfl⟩ := hI
            unfold wpOp
            refine Or.inl ?_
            unfold Oper.wp
            go_simp
            exact OwnBy.mk _ _ _ rfl (BothD.mk hC hR) (⟨rfl, rfl⟩) (hH)
          | 2, _ =>
            obtain rfl := Option.some.inj ho
            have e1 : f 1 = .pointer (some ⟨xb, 3, none⟩) := (hd ⟨1, .data⟩ (by simp) rfl).2.1
            clear hd ho
            have hH : Holds w (hs ++ ([] ++ R)) w1 := hH
            obtain ⟨h, hr, hC, hR, rfl⟩ := hI
            unfold wpOp
            refine Or.inl ?_
            simp only [e1]
            unfold Oper.wp
            have hX : Holds w ((xb, Obj.cells (actC y B c) 48) :: ((h ++ hr) ++ R)) w1 := hH.perm (by classical rw [List.perm_iff_count]; intro a; simp only [List.count_append, List.count_cons, List.count_nil] <;> omega)
            have q : w1.cell? ⟨xb, 3, none⟩ = some (.string y.s) := hX.cell 3
            go_simp
            exact OwnBy.mk _ _ _ rfl (BothD.mk hC hR) (⟨rfl, rfl⟩) (hH)
          | 3, _ =>
            obtain rfl := Option.some.inj ho
            clear hd ho
            have hH : Holds w (hs ++ ([] ++ R)) w1 := hH
            obtain ⟨h, hr, hC, hR, rfl⟩ := hI
            unfold wpOp
            refine Or.inl ?_
            unfold Oper.wp
            go_simp
            exact OwnBy.mk _ _ _ rfl (BothD.mk hC hR) (⟨rfl, rfl⟩) (hH)
          | 4, _ =>
            obtain rfl := Option.some.inj ho
            have e3 : f 3 = .pointer (some ⟨xb, 4, none⟩) := (hd ⟨3, .data⟩ (by simp) rfl).2.1
            clear hd ho
            have hH : Holds w (hs ++ ([] ++ R)) w1 := hH
            obtain ⟨h, hr, hC, hR, rfl⟩ := hI
            unfold wpOp
            refine Or.inl ?_
            simp only [e3]
            unfold Oper.wp
            have hX : Holds w ((xb, Obj.cells (actC y B c) 48) :: ((h ++ hr) ++ R)) w1 := hH.perm (by classical rw [List.perm_iff_count]; intro a; simp only [List.count_append, List.count_cons, List.count_nil] <;> omega)
            have q : w1.cell? ⟨xb, 4, none⟩ = some (.string y.t) := hX.cell 4
            go_simp
            exact OwnBy.mk _ _ _ rfl (BothD.mk hC hR) (⟨rfl, rfl⟩) (hH)
          | 5, _ =>
            obtain rfl := Option.some.inj ho
            have e0 : f 0 = .pointer (some ⟨g, 0, none⟩) := (hd ⟨0, .data⟩ (by simp) rfl).2.1
            have e2 : f 2 = .string y.s := (hd ⟨2, .data⟩ (by simp) rfl).2.1
            have e4 : f 4 = .string y.t := (hd ⟨4, .data⟩ (by simp) rfl).2.1
            clear hd ho
            have hH : Holds w (hs ++ ([] ++ R)) w1 := hH
            obtain ⟨h, hr, hC, hR, rfl⟩ := hI
            unfold wpOp
            refine Or.inl ?_
            simp only [e0, e2, e4]
            unfold Oper.wp
            rw [hL, if_neg (by decide)] at hC
            have hHp : Holds w (h ++ (hr ++ ((xb, Obj.cells (actC y B c) 48) :: []) ++ R)) w1 := hH.perm (by classical rw [List.perm_iff_count]; intro a; simp only [List.count_append, List.count_cons, List.count_nil] <;> omega)
            have hc := rename_calls g m h _ y.s y.t w w1 HSS.out HTT.out (by omega) hC hHp
            have HCC := Lib.hid hc
            clear hc
            go_simp
            refine HCC.out.mono ?_
            rintro e w3 ⟨rfl, h3, hC3, hH3⟩
            exact OwnBy.mk _ [] _ rfl (BothD.mk hC3 hR) ⟨rfl, rfl⟩ (hH3.perm (by classical rw [List.perm_iff_count]; intro a; simp only [List.count_append, List.count_cons, List.count_nil] <;> omega))
          | 6, _ =>
            obtain rfl := Option.some.inj ho
            clear hd ho
            have hH : Holds w (hs ++ ([] ++ R)) w1 := hH
            obtain ⟨h, hr, hC, hR, rfl⟩ := hI
            unfold wpOp
            refine Or.inl ?_
            unfold Oper.wp
            go_simp
            exact OwnBy.mk _ _ _ rfl (BothD.mk hC hR) (⟨rfl, rfl⟩) (hH)
          | 7, _ =>
            obtain rfl := Option.some.inj ho
            clear hd ho
            have hH : Holds w (hs ++ ([] ++ R)) w1 := hH
            obtain ⟨h, hr, hC, hR, rfl⟩ := hI
            unfold wpOp
            refine Or.inl ?_
            unfold Oper.wp
            go_simp
            exact OwnBy.mk _ _ _ rfl (BothD.mk hC hR) (⟨rfl, rfl⟩) (hH)
          | 8, _ =>
            obtain rfl := Option.some.inj ho
            have e7 : f 7 = .pointer (some ⟨xb, 3, none⟩) := (hd ⟨7, .data⟩ (by simp) rfl).2.1
            clear hd ho
            have hH : Holds w (hs ++ ([] ++ R)) w1 := hH
            obtain ⟨h, hr, hC, hR, rfl⟩ := hI
            unfold wpOp
            refine Or.inl ?_
            simp only [e7]
            unfold Oper.wp
            have hX : Holds w ((xb, Obj.cells (actC y B c) 48) :: ((h ++ hr) ++ R)) w1 := hH.perm (by classical rw [List.perm_iff_count]; intro a; simp only [List.count_append, List.count_cons, List.count_nil] <;> omega)
            have q : w1.cell? ⟨xb, 3, none⟩ = some (.string y.s) := hX.cell 3
            go_simp
            exact OwnBy.mk _ _ _ rfl (BothD.mk hC hR) (⟨rfl, rfl⟩) (hH)
          | 9, _ =>
            obtain rfl := Option.some.inj ho
            clear hd ho
            have hH : Holds w (hs ++ ([] ++ R)) w1 := hH
            obtain ⟨h, hr, hC, hR, rfl⟩ := hI
            unfold wpOp
            refine Or.inl ?_
            unfold Oper.wp
            go_simp
            exact OwnBy.mk _ _ _ rfl (BothD.mk hC hR) (⟨rfl, rfl⟩) (hH)
          | 10, _ =>
            obtain rfl := Option.some.inj ho
            have e9 : f 9 = .pointer (some ⟨xb, 4, none⟩) := (hd ⟨9, .data⟩ (by simp) rfl).2.1
            clear hd ho
            have hH : Holds w (hs ++ ([] ++ R)) w1 := hH
            obtain ⟨h, hr, hC, hR, rfl⟩ := hI
            unfold wpOp
            refine Or.inl ?_
            simp only [e9]
            unfold Oper.wp
            have hX : Holds w ((xb, Obj.cells (actC y B c) 48) :: ((h ++ hr) ++ R)) w1 := hH.perm (by classical rw [List.perm_iff_count]; intro a; simp only [List.count_append, List.count_cons, List.count_nil] <;> omega)
            have q : w1.cell? ⟨xb, 4, none⟩ = some (.string y.t) := hX.cell 4
            go_simp
            exact OwnBy.mk _ _ _ rfl (BothD.mk hC hR) (⟨rfl, rfl⟩) (hH)
          | 11, _ =>
            obtain rfl := Option.some.inj ho
            have e6 : f 6 = .pointer (some ⟨d, 0, none⟩) := (hd ⟨6, .data⟩ (by simp) rfl).2.1
            have e8 : f 8 = .string y.s := (hd ⟨8, .data⟩ (by simp) rfl).2.1
            have e10 : f 10 = .string y.t := (hd ⟨10, .data⟩ (by simp) rfl).2.1
            have e5 : f 5 = .int .i64 (renM m y.s y.t).1 := (hd ⟨5, .chain⟩ (by simp) rfl).2.1
            clear hd ho
            have hH : Holds w (hs ++ ([] ++ R)) w1 := hH
            obtain ⟨h, hr, hC, hR, rfl⟩ := hI
            unfold wpOp
            refine Or.inl ?_
            simp only [e6, e8, e10, e5]
            unfold Oper.wp
            rw [hL, if_neg (by decide)] at hR
            have hHp : Holds w (hr ++ (h ++ ((xb, Obj.cells (actC y B c) 48) :: []) ++ R)) w1 := hH.perm (by classical rw [List.perm_iff_count]; intro a; simp only [List.count_append, List.count_cons, List.count_nil] <;> omega)
            have hc := rrename_calls d m hr _ y.s y.t w w1 (by omega) HOK.out.apart HRI.out hR hHp
            have HCC := Lib.hid hc
            clear hc
            go_simp
            refine HCC.out.mono ?_
            rintro e w3 ⟨rfl, h3, hC3, hH3⟩
            exact OwnBy.mk _ [] _ rfl (BothD.mk hC hC3) ⟨rfl, rfl⟩ (hH3.perm (by classical rw [List.perm_iff_count]; intro a; simp only [List.count_append, List.count_cons, List.count_nil] <;> omega))
          | 12, _ =>
            obtain rfl := Option.some.inj ho
            have e5 : f 5 = .int .i64 (renM m y.s y.t).1 := (hd ⟨5, .data⟩ (by simp) rfl).2.1
            have e11 : f 11 = .int .i64 (renM m y.s y.t).1 := (hd ⟨11, .data⟩ (by simp) rfl).2.1
            clear hd ho
            have hH : Holds w (hs ++ ([] ++ R)) w1 := hH
            obtain ⟨h, hr, hC, hR, rfl⟩ := hI
            unfold wpOp
            refine Or.inl ?_
            simp only [e5, e11]
            unfold Oper.wp
            go_simp
            exact OwnBy.mk _ _ _ rfl (BothD.mk hC hR) (⟨rfl, rfl⟩) (hH)
        · intro Ls f Hf hs w1 hI hL hV hH
          have e0 : f 0 = .pointer (some ⟨g, 0, none⟩) := (hV 0 (by decide)).1
          have e1 : f 1 = .pointer (some ⟨xb, 3, none⟩) := (hV 1 (by decide)).1
          have e2 : f 2 = .string y.s := (hV 2 (by decide)).1
          have e3 : f 3 = .pointer (some ⟨xb, 4, none⟩) := (hV 3 (by decide)).1
          have e4 : f 4 = .string y.t := (hV 4 (by decide)).1
          have e5 : f 5 = .int .i64 (renM m y.s y.t).1 := (hV 5 (by decide)).1
          have e6 : f 6 = .pointer (some ⟨d, 0, none⟩) := (hV 6 (by decide)).1
          have e7 : f 7 = .pointer (some ⟨xb, 3, none⟩) := (hV 7 (by decide)).1
          have e8 : f 8 = .string y.s := (hV 8 (by decide)).1
          have e9 : f 9 = .pointer (some ⟨xb, 4, none⟩) := (hV 9 (by decide)).1
          have e10 : f 10 = .string y.t := (hV 10 (by decide)).1
          have e11 : f 11 = .int .i64 (renM m y.s y.t).1 := (hV 11 (by decide)).1
          have e12 : f 12 = .bool true := (hV 12 (by decide)).1
          clear hV
          have hH : Holds w (hs ++ []) w1 := hH
          simp only [fill, List.take_succ_cons, List.take_zero, List.drop_succ_cons, List.drop_zero, Act.put, List.setIfInBounds_toArray, List.set_cons_zero, List.set_cons_succ, e0, e1, e2, e3, e4, e5, e6, e7, e8, e9, e10, e11, e12]
          obtain ⟨h2, hr2, hC2, hR2, rfl⟩ := hI
          rw [hL 5 (by decide), if_pos rfl] at hC2
          rw [hL 11 (by decide), if_pos rfl] at hR2
          obtain ⟨M, hM⟩ : ∃ M, M = (renM m y.s y.t).2 := ⟨_, rfl⟩
          rw [← hM] at hC2 hR2
          have HC := Lib.hid hC2; have HR := Lib.hid hR2
          have HGD := Lib.hid (show Good8 (k + 1) M by rw [hM]; exact good_ren HGD0.out y.s y.t HTT.out)
          have hcn2 : M.fl.length ≤ k + 1 := HGD.out.2.1
          have HH := Lib.hid (show Holds w (h2 ++ (hr2 ++ ((xb, Obj.cells (actC y B c) 48) :: []))) w1 from by simpa using hH)
          have HS3 := Lib.hid (show w1.cell? ⟨xb, 3, none⟩ = some (.string y.s) from Holds.cell (HH.out.perm (k := (xb, Obj.cells (actC y B c) 48) :: (h2 ++ hr2)) (by classical rw [List.perm_iff_count]; intro a; simp only [List.count_append, List.count_cons, List.count_nil] <;> omega)) 3)
          clear hM hC2 hR2 hH hL e0 e1 e2 e3 e4 e5 e6 e7 e8 e9 e10 e11 e12
          have hs3 := HS3.out
          go_wp2_with fail
          refine (same_calls g d M h2 hr2 ((xb, Obj.cells (actC y B c) 48) :: []) y.s w w1 HSS.out (by omega) HGD.out.1 HC.out HR.out HH.out).mono ?_
          rintro e w9 ⟨rfl, h9, hC9, hH9⟩
          have HC9 := Lib.hid hC9; have HH9 := Lib.hid hH9
          clear hC9 hH9 hs3
          go_wp2_with fail
          go_roundw
          case rel => exact ⟨k + 1, M, h9, hr2, by omega, by go_num, HC9.out, HR.out, HGD.out, ((HH9.out.perm (k := (h9 ++ (hr2 ++ [])) ++ [(xb, Obj.cells (actC y B c) 48)]) (by classical rw [List.perm_iff_count]; intro a; simp only [List.count_append, List.count_cons, List.count_nil] <;> omega))).left⟩
          case measure => simp [intOf]; omega
      by_cases p4 : y.op = 4
      · have o0 : (y.op == 0) = false := by rw [beq_eq_false_iff_ne]; exact p0
        have o1 : (y.op == 1) = false := by rw [beq_eq_false_iff_ne]; exact p1
        have o2 : (y.op == 2) = false := by rw [beq_eq_false_iff_ne]; exact p2
        have o3 : (y.op == 3) = false := by rw [beq_eq_false_iff_ne]; exact p3
        have o4 : (y.op == 4) = true := by rw [p4]; rfl
        clear p0 p1 p2 p3 p4
        go_wp2_with (with_reducible refine stA8 (.tmp 9) (.tmp 52) wr.heap.size y B c rfl rfl g1 ?_)
        rw [← HW5.out, ← HXB.out]
        clear r0 r1 r2 r3 r4 r5 q0 q1 q2 q3 q4 q5 g1 HW5
        refine wp_region_own 9 (fun _ => []) (by kernel_rfl) (by kernel_rfl) (by kernel_rfl) (by kernel_rfl) (Nat.le_of_ble_eq_true (by kernel_rfl)) w (fun Ls hs => BothD g d 3 7 (dropM m y.s).2 m ((xb, Obj.cells (actC y B c) 48) :: []) Ls hs) (fun i v h => match i with | 0 => v = .pointer (some ⟨g, 0, none⟩) ∧ h = [] | 1 => v = .pointer (some ⟨xb, 3, none⟩) ∧ h = [] | 2 => v = .string y.s ∧ h = [] | 3 => v = .int .i64 (dropM m y.s).1 ∧ h = [] | 4 => v = .pointer (some ⟨d, 0, none⟩) ∧ h = [] | 5 => v = .pointer (some ⟨xb, 3, none⟩) ∧ h = [] | 6 => v = .string y.s ∧ h = [] | 7 => v = .int .i64 (dropM m y.s).1 ∧ h = [] | 8 => v = .bool true ∧ h = [] | _ => True) ((h ++ (hr ++ ((xb, Obj.cells (actC y B c) 48) :: [])))) (BothD.mk HC0.out HR0.out) (HH0.out.drew) ?_ ?_
        · intro i o hi ho Ls f Hf hs R w1 hI hL hd hH
          simp only [fill, List.take_succ_cons, List.take_zero, Act.put, List.setIfInBounds_toArray, List.set_cons_zero, List.set_cons_succ]
          match i, hi with
          | 0, _ =>
            obtain rfl := Option.some.inj ho
            clear hd ho
            have hH : Holds w (hs ++ ([] ++ R)) w1 := hH
            obtain ⟨h, hr, hC, hR, rfl⟩ := hI
            unfold wpOp
            refine Or.inl ?_
            unfold Oper.wp
            go_simp
            exact OwnBy.mk _ _ _ rfl (BothD.mk hC hR) (⟨rfl, rfl⟩) (hH)
          | 1, _ =>
            obtain rfl := Option.some.inj ho
            clear hd ho
            have hH : Holds w (hs ++ ([] ++ R)) w1 := hH
            obtain ⟨h, hr, hC, hR, rfl⟩ := hI
            unfold wpOp
            refine Or.inl ?_
            unfold Oper.wp
            go_simp
            exact OwnBy.mk _ _ _ rfl (BothD.mk hC hR) (⟨rfl, rfl⟩) (hH)
          | 2, _ =>
            obtain rfl := Option.some.inj ho
            have e1 : f 1 = .pointer (some ⟨xb, 3, none⟩) := (hd ⟨1, .data⟩ (by simp) rfl).2.1
            clear hd ho
            have hH : Holds w (hs ++ ([] ++ R)) w1 := hH
            obtain ⟨h, hr, hC, hR, rfl⟩ := hI
            unfold wpOp
            refine Or.inl ?_
            simp only [e1]
            unfold Oper.wp
            have hX : Holds w ((xb, Obj.cells (actC y B c) 48) :: ((h ++ hr) ++ R)) w1 := hH.perm (by classical rw [List.perm_iff_count]; intro a; simp only [List.count_append, List.count_cons, List.count_nil] <;> omega)
            have q : w1.cell? ⟨xb, 3, none⟩ = some (.string y.s) := hX.cell 3
            go_simp
            exact OwnBy.mk _ _ _ rfl (BothD.mk hC hR) (⟨rfl, rfl⟩) (hH)
          | 3, _ =>
            obtain rfl := Option.some.inj ho
            have e0 : f 0 = .pointer (some ⟨g, 0, none⟩) := (hd ⟨0, .data⟩ (by simp) rfl).2.1
            have e2 : f 2 = .string y.s := (hd ⟨2, .data⟩ (by simp) rfl).2.1
            clear hd ho
            have hH : Holds w (hs ++ ([] ++ R)) w1 := hH
            obtain ⟨h, hr, hC, hR, rfl⟩ := hI
            unfold wpOp
            refine Or.inl ?_
            simp only [e0, e2]
            unfold Oper.wp
            rw [hL, if_neg (by decide)] at hC
            have hHp : Holds w (h ++ (hr ++ ((xb, Obj.cells (actC y B c) 48) :: []) ++ R)) w1 := hH.perm (by classical rw [List.perm_iff_count]; intro a; simp only [List.count_append, List.count_cons, List.count_nil] <;> omega)
            have hc := drop_calls g m h _ y.s w w1 HSS.out hC hHp
            have HCC := Lib.hid hc
            clear hc
            go_simp
            refine HCC.out.mono ?_
            rintro e w3 ⟨rfl, h3, hC3, hH3⟩
            exact OwnBy.mk _ [] _ rfl (BothD.mk hC3 hR) ⟨rfl, rfl⟩ (hH3.perm (by classical rw [List.perm_iff_count]; intro a; simp only [List.count_append, List.count_cons, List.count_nil] <;> omega))
          | 4, _ =>
            obtain rfl := Option.some.inj ho
            clear hd ho
            have hH : Holds w (hs ++ ([] ++ R)) w1 := hH
            obtain ⟨h, hr, hC, hR, rfl⟩ := hI
            unfold wpOp
            refine Or.inl ?_
            unfold Oper.wp
            go_simp
            exact OwnBy.mk _ _ _ rfl (BothD.mk hC hR) (⟨rfl, rfl⟩) (hH)
          | 5, _ =>
            obtain rfl := Option.some.inj ho
            clear hd ho
            have hH : Holds w (hs ++ ([] ++ R)) w1 := hH
            obtain ⟨h, hr, hC, hR, rfl⟩ := hI
            unfold wpOp
            refine Or.inl ?_
            unfold Oper.wp
            go_simp
            exact OwnBy.mk _ _ _ rfl (BothD.mk hC hR) (⟨rfl, rfl⟩) (hH)
          | 6, _ =>
            obtain rfl := Option.some.inj ho
            have e5 : f 5 = .pointer (some ⟨xb, 3, none⟩) := (hd ⟨5, .data⟩ (by simp) rfl).2.1
            clear hd ho
            have hH : Holds w (hs ++ ([] ++ R)) w1 := hH
            obtain ⟨h, hr, hC, hR, rfl⟩ := hI
            unfold wpOp
            refine Or.inl ?_
            simp only [e5]
            unfold Oper.wp
            have hX : Holds w ((xb, Obj.cells (actC y B c) 48) :: ((h ++ hr) ++ R)) w1 := hH.perm (by classical rw [List.perm_iff_count]; intro a; simp only [List.count_append, List.count_cons, List.count_nil] <;> omega)
            have q : w1.cell? ⟨xb, 3, none⟩ = some (.string y.s) := hX.cell 3
            go_simp
            exact OwnBy.mk _ _ _ rfl (BothD.mk hC hR) (⟨rfl, rfl⟩) (hH)
          | 7, _ =>
            obtain rfl := Option.some.inj ho
            have e4 : f 4 = .pointer (some ⟨d, 0, none⟩) := (hd ⟨4, .data⟩ (by simp) rfl).2.1
            have e6 : f 6 = .string y.s := (hd ⟨6, .data⟩ (by simp) rfl).2.1
            have e3 : f 3 = .int .i64 (dropM m y.s).1 := (hd ⟨3, .chain⟩ (by simp) rfl).2.1
            clear hd ho
            have hH : Holds w (hs ++ ([] ++ R)) w1 := hH
            obtain ⟨h, hr, hC, hR, rfl⟩ := hI
            unfold wpOp
            refine Or.inl ?_
            simp only [e4, e6, e3]
            unfold Oper.wp
            rw [hL, if_neg (by decide)] at hR
            have hHp : Holds w (hr ++ (h ++ ((xb, Obj.cells (actC y B c) 48) :: []) ++ R)) w1 := hH.perm (by classical rw [List.perm_iff_count]; intro a; simp only [List.count_append, List.count_cons, List.count_nil] <;> omega)
            have hc := rdrop_calls d m hr _ y.s w w1 (by omega) HOK.out.apart hR hHp
            have HCC := Lib.hid hc
            clear hc
            go_simp
            refine HCC.out.mono ?_
            rintro e w3 ⟨rfl, h3, hC3, hH3⟩
            exact OwnBy.mk _ [] _ rfl (BothD.mk hC hC3) ⟨rfl, rfl⟩ (hH3.perm (by classical rw [List.perm_iff_count]; intro a; simp only [List.count_append, List.count_cons, List.count_nil] <;> omega))
          | 8, _ =>
            obtain rfl := Option.some.inj ho
            have e3 : f 3 = .int .i64 (dropM m y.s).1 := (hd ⟨3, .data⟩ (by simp) rfl).2.1
            have e7 : f 7 = .int .i64 (dropM m y.s).1 := (hd ⟨7, .data⟩ (by simp) rfl).2.1
            clear hd ho
            have hH : Holds w (hs ++ ([] ++ R)) w1 := hH
            obtain ⟨h, hr, hC, hR, rfl⟩ := hI
            unfold wpOp
            refine Or.inl ?_
            simp only [e3, e7]
            unfold Oper.wp
            go_simp
            exact OwnBy.mk _ _ _ rfl (BothD.mk hC hR) (⟨rfl, rfl⟩) (hH)
        · intro Ls f Hf hs w1 hI hL hV hH
          have e0 : f 0 = .pointer (some ⟨g, 0, none⟩) := (hV 0 (by decide)).1
          have e1 : f 1 = .pointer (some ⟨xb, 3, none⟩) := (hV 1 (by decide)).1
          have e2 : f 2 = .string y.s := (hV 2 (by decide)).1
          have e3 : f 3 = .int .i64 (dropM m y.s).1 := (hV 3 (by decide)).1
          have e4 : f 4 = .pointer (some ⟨d, 0, none⟩) := (hV 4 (by decide)).1
          have e5 : f 5 = .pointer (some ⟨xb, 3, none⟩) := (hV 5 (by decide)).1
          have e6 : f 6 = .string y.s := (hV 6 (by decide)).1
          have e7 : f 7 = .int .i64 (dropM m y.s).1 := (hV 7 (by decide)).1
          have e8 : f 8 = .bool true := (hV 8 (by decide)).1
          clear hV
          have hH : Holds w (hs ++ []) w1 := hH
          simp only [fill, List.take_succ_cons, List.take_zero, List.drop_succ_cons, List.drop_zero, Act.put, List.setIfInBounds_toArray, List.set_cons_zero, List.set_cons_succ, e0, e1, e2, e3, e4, e5, e6, e7, e8]
          obtain ⟨h2, hr2, hC2, hR2, rfl⟩ := hI
          rw [hL 3 (by decide), if_pos rfl] at hC2
          rw [hL 7 (by decide), if_pos rfl] at hR2
          obtain ⟨M, hM⟩ : ∃ M, M = (dropM m y.s).2 := ⟨_, rfl⟩
          rw [← hM] at hC2 hR2
          have HC := Lib.hid hC2; have HR := Lib.hid hR2
          have HGD := Lib.hid (show Good8 (k + 1) M by rw [hM]; exact good_drop HGD0.out y.s)
          have hcn2 : M.fl.length ≤ k + 1 := HGD.out.2.1
          have HH := Lib.hid (show Holds w (h2 ++ (hr2 ++ ((xb, Obj.cells (actC y B c) 48) :: []))) w1 from by simpa using hH)
          have HS3 := Lib.hid (show w1.cell? ⟨xb, 3, none⟩ = some (.string y.s) from Holds.cell (HH.out.perm (k := (xb, Obj.cells (actC y B c) 48) :: (h2 ++ hr2)) (by classical rw [List.perm_iff_count]; intro a; simp only [List.count_append, List.count_cons, List.count_nil] <;> omega)) 3)
          clear hM hC2 hR2 hH hL e0 e1 e2 e3 e4 e5 e6 e7 e8
          have hs3 := HS3.out
          go_wp2_with fail
          refine (same_calls g d M h2 hr2 ((xb, Obj.cells (actC y B c) 48) :: []) y.s w w1 HSS.out (by omega) HGD.out.1 HC.out HR.out HH.out).mono ?_
          rintro e w9 ⟨rfl, h9, hC9, hH9⟩
          have HC9 := Lib.hid hC9; have HH9 := Lib.hid hH9
          clear hC9 hH9 hs3
          go_wp2_with fail
          go_roundw
          case rel => exact ⟨k + 1, M, h9, hr2, by omega, by go_num, HC9.out, HR.out, HGD.out, ((HH9.out.perm (k := (h9 ++ (hr2 ++ [])) ++ [(xb, Obj.cells (actC y B c) 48)]) (by classical rw [List.perm_iff_count]; intro a; simp only [List.count_append, List.count_cons, List.count_nil] <;> omega))).left⟩
          case measure => simp [intOf]; omega
      by_cases p5 : y.op = 5
      · have o0 : (y.op == 0) = false := by rw [beq_eq_false_iff_ne]; exact p0
        have o1 : (y.op == 1) = false := by rw [beq_eq_false_iff_ne]; exact p1
        have o2 : (y.op == 2) = false := by rw [beq_eq_false_iff_ne]; exact p2
        have o3 : (y.op == 3) = false := by rw [beq_eq_false_iff_ne]; exact p3
        have o4 : (y.op == 4) = false := by rw [beq_eq_false_iff_ne]; exact p4
        have o5 : (y.op == 5) = true := by rw [p5]; rfl
        clear p0 p1 p2 p3 p4 p5
        go_wp2_with (with_reducible refine stA8 (.tmp 9) (.tmp 52) wr.heap.size y B c rfl rfl g1 ?_)
        rw [← HW5.out, ← HXB.out]
        clear r0 r1 r2 r3 r4 r5 q0 q1 q2 q3 q4 q5 g1 HW5
        have HC1 := Lib.hid (crash_calls g m h _ y.n y.bt w _ HC0.out HH0.out)
        refine HC1.out.mono ?_
        rintro e w2 ⟨rfl, h2, hC2, hH2⟩
        have qn2 : w2.cell? ⟨xb, 1, none⟩ = some (.int .i64 y.n) := Holds.cell (hH2.perm (k := (xb, Obj.cells (actC y B c) 48) :: (h2 ++ hr)) (by classical rw [List.perm_iff_count]; intro a; simp only [List.count_append, List.count_cons, List.count_nil] <;> omega)) 1
        have qb2 : w2.cell? ⟨xb, 2, none⟩ = some (.int .u8 (y.bt.toNat : Nat)) := Holds.cell (hH2.perm (k := (xb, Obj.cells (actC y B c) 48) :: (h2 ++ hr)) (by classical rw [List.perm_iff_count]; intro a; simp only [List.count_append, List.count_cons, List.count_nil] <;> omega)) 2
        have HC2x := Lib.hid (rcrash_calls d m hr (h2 ++ ((xb, Obj.cells (actC y B c) 48) :: [])) y.n y.bt w w2 (by omega) HOK.out HR0.out (hH2.perm (by classical rw [List.perm_iff_count]; intro a; simp only [List.count_append, List.count_cons, List.count_nil] <;> omega)))
        have HCa := Lib.hid hC2
        clear hC2 hH2
        go_wp2_with fail
        refine HC2x.out.mono ?_
        rintro e w1 ⟨rfl, hr2, hR2, hHx⟩
        have hC2 := HCa.out
        have hH : Holds w (h2 ++ (hr2 ++ ((xb, Obj.cells (actC y B c) 48) :: []))) w1 := hHx.perm (by classical rw [List.perm_iff_count]; intro a; simp only [List.count_append, List.count_cons, List.count_nil] <;> omega)
        clear hHx
        obtain ⟨M, hM⟩ : ∃ M, M = (crM m y.n y.bt) := ⟨_, rfl⟩
        rw [← hM] at hC2 hR2
        have HC := Lib.hid hC2; have HR := Lib.hid hR2
        have HGD := Lib.hid (show Good8 (k + 1) M by rw [hM]; exact good_crash HGD0.out y.n y.bt)
        have hcn2 : M.fl.length ≤ k + 1 := HGD.out.2.1
        have HH := Lib.hid (show Holds w (h2 ++ (hr2 ++ ((xb, Obj.cells (actC y B c) 48) :: []))) w1 from by simpa using hH)
        have HS3 := Lib.hid (show w1.cell? ⟨xb, 3, none⟩ = some (.string y.s) from Holds.cell (HH.out.perm (k := (xb, Obj.cells (actC y B c) 48) :: (h2 ++ hr2)) (by classical rw [List.perm_iff_count]; intro a; simp only [List.count_append, List.count_cons, List.count_nil] <;> omega)) 3)
        clear hM hC2 hR2 hH 
        have hs3 := HS3.out
        go_wp2_with fail
        refine (same_calls g d M h2 hr2 ((xb, Obj.cells (actC y B c) 48) :: []) y.s w w1 HSS.out (by omega) HGD.out.1 HC.out HR.out HH.out).mono ?_
        rintro e w9 ⟨rfl, h9, hC9, hH9⟩
        have HC9 := Lib.hid hC9; have HH9 := Lib.hid hH9
        clear hC9 hH9 hs3
        go_wp2_with fail
        go_roundw
        case rel => exact ⟨k + 1, M, h9, hr2, by omega, by go_num, HC9.out, HR.out, HGD.out, ((HH9.out.perm (k := (h9 ++ (hr2 ++ [])) ++ [(xb, Obj.cells (actC y B c) 48)]) (by classical rw [List.perm_iff_count]; intro a; simp only [List.count_append, List.count_cons, List.count_nil] <;> omega))).left⟩
        case measure => simp [intOf]; omega
      have o0 : (y.op == 0) = false := by rw [beq_eq_false_iff_ne]; exact p0
      have o1 : (y.op == 1) = false := by rw [beq_eq_false_iff_ne]; exact p1
      have o2 : (y.op == 2) = false := by rw [beq_eq_false_iff_ne]; exact p2
      have o3 : (y.op == 3) = false := by rw [beq_eq_false_iff_ne]; exact p3
      have o4 : (y.op == 4) = false := by rw [beq_eq_false_iff_ne]; exact p4
      have o5 : (y.op == 5) = false := by rw [beq_eq_false_iff_ne]; exact p5
      clear p0 p1 p2 p3 p4 p5
      go_wp2_with (with_reducible refine stA8 (.tmp 9) (.tmp 52) wr.heap.size y B c rfl rfl g1 ?_)
      rw [← HW5.out, ← HXB.out]
      clear r0 r1 r2 r3 r4 r5 q0 q1 q2 q3 q4 q5 g1 HW5
      have HC1 := Lib.hid (on_calls g m h _ w _ (by have := HGD0.out.2.2.1; omega) HC0.out HH0.out)
      refine HC1.out.mono ?_
      rintro e w2 ⟨rfl, h2, hC2, hH2⟩
      have HC2x := Lib.hid (ron_calls d m hr (h2 ++ ((xb, Obj.cells (actC y B c) 48) :: [])) w w2 (by have := HGD0.out.2.2.1; have := HOK.out.lives; omega) HR0.out (hH2.perm (by classical rw [List.perm_iff_count]; intro a; simp only [List.count_append, List.count_cons, List.count_nil] <;> omega)))
      have HCa := Lib.hid hC2
      clear hC2 hH2
      go_wp2_with fail
      refine HC2x.out.mono ?_
      rintro e w1 ⟨rfl, hr2, hR2, hHx⟩
      have hC2 := HCa.out
      have hH : Holds w (h2 ++ (hr2 ++ ((xb, Obj.cells (actC y B c) 48) :: []))) w1 := hHx.perm (by classical rw [List.perm_iff_count]; intro a; simp only [List.count_append, List.count_cons, List.count_nil] <;> omega)
      clear hHx
      obtain ⟨M, hM⟩ : ∃ M, M = (onM m) := ⟨_, rfl⟩
      rw [← hM] at hC2 hR2
      have HC := Lib.hid hC2; have HR := Lib.hid hR2
      have HGD := Lib.hid (show Good8 (k + 1) M by rw [hM]; exact good_on HGD0.out)
      have hcn2 : M.fl.length ≤ k + 1 := HGD.out.2.1
      have HH := Lib.hid (show Holds w (h2 ++ (hr2 ++ ((xb, Obj.cells (actC y B c) 48) :: []))) w1 from by simpa using hH)
      have HS3 := Lib.hid (show w1.cell? ⟨xb, 3, none⟩ = some (.string y.s) from Holds.cell (HH.out.perm (k := (xb, Obj.cells (actC y B c) 48) :: (h2 ++ hr2)) (by classical rw [List.perm_iff_count]; intro a; simp only [List.count_append, List.count_cons, List.count_nil] <;> omega)) 3)
      clear hM hC2 hR2 hH 
      have hs3 := HS3.out
      go_wp2_with fail
      refine (same_calls g d M h2 hr2 ((xb, Obj.cells (actC y B c) 48) :: []) y.s w w1 HSS.out (by omega) HGD.out.1 HC.out HR.out HH.out).mono ?_
      rintro e w9 ⟨rfl, h9, hC9, hH9⟩
      have HC9 := Lib.hid hC9; have HH9 := Lib.hid hH9
      clear hC9 hH9 hs3
      go_wp2_with fail
      go_roundw
      case rel => exact ⟨k + 1, M, h9, hr2, by omega, by go_num, HC9.out, HR.out, HGD.out, ((HH9.out.perm (k := (h9 ++ (hr2 ++ [])) ++ [(xb, Obj.cells (actC y B c) 48)]) (by classical rw [List.perm_iff_count]; intro a; simp only [List.count_append, List.count_cons, List.count_nil] <;> omega))).left⟩
      case measure => simp [intOf]; omega
    · obtain rfl : k = n := by omega
      have qd := Lib.hid (crash_calls g m h _ 1 9 w wr HC0.out HHr.out)
      go_wp2_with fail
      refine qd.out.mono ?_
      rintro e w2 ⟨rfl, h2, hC2, hH2⟩
      have HC2 := Lib.hid hC2
      have HCR := Lib.hid (rcrash_calls d m hr (h2 ++ []) 1 9 w w2 (by omega) HOK.out HR0.out (hH2.perm (by classical rw [List.perm_iff_count]; intro a; simp only [List.count_append, List.count_cons, List.count_nil] <;> omega)))
      clear hC2 hH2
      go_wp2_with fail
      refine HCR.out.mono ?_
      rintro e w3 ⟨rfl, hr3, hR3, hH3⟩
      have HR3 := Lib.hid hR3
      have HON := Lib.hid (on_calls g _ h2 (hr3 ++ []) w w3 (by have := HGD0.out.2.2.1; show m.lives < _; omega) HC2.out (hH3.perm (by classical rw [List.perm_iff_count]; intro a; simp only [List.count_append, List.count_cons, List.count_nil] <;> omega)))
      clear hR3 hH3
      go_wp2_with fail
      refine HON.out.mono ?_
      rintro e w4 ⟨rfl, h4, hC4, hH4⟩
      have HC4 := Lib.hid hC4
      have HRN := Lib.hid (ron_calls d _ hr3 (h4 ++ []) w w4 (by have := HGD0.out.2.2.1; have := HOK.out.lives; show 0 ≤ m.lives ∧ m.lives < _; omega) HR3.out (hH4.perm (by classical rw [List.perm_iff_count]; intro a; simp only [List.count_append, List.count_cons, List.count_nil] <;> omega)))
      clear hC4 hH4
      go_wp2_with fail
      refine HRN.out.mono ?_
      rintro e w5 ⟨rfl, hr5, hR5, hH5⟩
      obtain ⟨M, hM⟩ : ∃ M, M = onM (crM m 1 9) := ⟨_, rfl⟩
      have hC4 := HC4.out
      rw [← hM] at hR5 hC4
      have HC5 := Lib.hid hC4
      have HR5 := Lib.hid hR5
      have HH5 := Lib.hid (show Holds w (h4 ++ (hr5 ++ [])) w5 from hH5.perm (by classical rw [List.perm_iff_count]; intro a; simp only [List.count_append, List.count_cons, List.count_nil] <;> omega))
      have HG5 := Lib.hid (show Good8 (k + 2) M by rw [hM]; exact good_on (good_crash HGD0.out 1 9))
      obtain ⟨v, hrw, vs, hf, hRW, hFW, hre⟩ := hR5
      have HRE := Lib.hid hre
      obtain ⟨A2, c2, rfl, _, _⟩ := RowB.form hRW
      obtain ⟨nf, hnf⟩ : ∃ nf, M.fl.length = nf := ⟨_, rfl⟩
      have HNF := Lib.hid hnf
      have hnf9 : nf ≤ k + 2 := by rw [← hnf]; exact HG5.out.2.1
      have HNAMES := Lib.hid (fun w2 (Z : Hp) (hZ : Holds w (hr5 ++ Z) w2) => show w2.cell? ⟨d, 1, none⟩ = some (.slice A2 nf c2) ∧ (A2 = none → nf = 0) ∧ ∀ ad, A2 = some ad → ∀ j x, M.fl[j]? = some x → w2.cell? (ad.add (j * 3)) = some (.string x.1) from by
        rw [HRE.out] at hZ
        obtain ⟨A0, c0, hv0, _, _, hrd⟩ := hRW.reads (hZ.perm (k := hrw ++ ((d, rO M (.slice A2 M.fl.length c2)) :: (hf ++ Z))) (by classical rw [List.perm_iff_count]; intro a; simp only [List.count_append, List.count_cons, List.count_nil] <;> omega))
        injection hv0 with hv0 _ _
        refine ⟨by rw [← hnf]; exact Holds.cell hZ 1, fun h0 => by rw [← hnf]; exact hrd.2.1 (hv0.symm.trans h0), fun ad ha j x hx => hrd.2.2 ad (hv0.symm.trans ha) _ _ (FRw.at_ hFW j x hx).1⟩)
      have HZS := Lib.hid (show ∀ x ∈ M.fl, x.1.size ≤ 9223372036854775807 from HG5.out.2.2.2)
      clear hH5 hM hC4 hRW hFW hre hnf
      go_wp2_with fail
      go_loopw [11] (fun i wr => ∃ (j : Nat) (h : Hp), j ≤ nf ∧ i = .int .i64 j ∧ IsD g M h ∧ Holds w (h ++ (hr5 ++ [])) wr) (fun i _ => nf - (intOf i).toNat)
      case atStart => exact ⟨0, h4, by omega, rfl, HC5.out, HH5.out⟩
      case round =>
        obtain ⟨j, h6, hj, rfl, hC6, hH6⟩ := hrel
        obtain ⟨p1, p2, p3⟩ := HNAMES.out _ _ (hH6.perm (k := hr5 ++ (h6 ++ [])) (by classical rw [List.perm_iff_count]; intro a; simp only [List.count_append, List.count_cons, List.count_nil] <;> omega))
        have HC6 := Lib.hid hC6; have HH6 := Lib.hid hH6
        clear hC6 hH6
        by_cases hjl : j < nf
        · have hji : (j : Int) < (nf : Int) := by omega
          obtain ⟨x, hx⟩ : ∃ x, M.fl[j]? = some x := ⟨_, List.getElem?_eq_getElem (by rw [HNF.out]; exact hjl)⟩
          cases A2 with
          | none => have := p2 rfl; omega
          | some ad2 =>
          have p4 := p3 ad2 rfl j x hx
          have HXS := Lib.hid (HZS.out x (List.mem_of_getElem? hx))
          clear p2 p3 hx
          go_wp2_with fail
          refine (same_calls g d M h6 hr5 [] x.1 w wr HXS.out (by rw [HNF.out]; omega) HG5.out.1 HC6.out HR5.out HH6.out).mono ?_
          rintro e w9 ⟨rfl, h9, hC9, hH9⟩
          have HC9 := Lib.hid hC9; have HH9 := Lib.hid hH9
          clear hC9 hH9
          go_wp2_with fail
          go_roundw
          case rel => exact ⟨j + 1, h9, by omega, by go_num, HC9.out, HH9.out⟩
          case measure => simp [intOf]; omega
        · obtain rfl : j = nf := by omega
          have HBE := Lib.hid HH6.out.below
          clear p2 p3
          go_wp2_with fail
          go_ret
          exact ⟨rfl, HBE.out⟩
end Go.Proofs.Ytocpelkgiebkjaa
