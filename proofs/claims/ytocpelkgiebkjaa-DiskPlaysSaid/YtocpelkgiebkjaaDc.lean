/- What a crash does to a disk: a contract for every world. Conditions: each theorem's own. -/
import Derived.Test.YtocpelkgiebkjaaDn
namespace Go.Proofs.Ytocpelkgiebkjaa
open Go.RowKit Go.Proofs.Ytocpelkgiebkjaa.Sp
open Go.WideElems (Fit rg)
set_option linter.unusedVariables false
set_option linter.unusedSimpArgs false
def mx (a b : Int) : Int := if b > a then b else a
def mn (a b : Int) : Int := if b < a then b else a
theorem fold_mx : ∀ x y : Int, (if x < y then y else x) = mx x y := fun _ _ => rfl
theorem fold_mn : ∀ x y : Int, (if y < x then y else x) = mn x y := fun _ _ => rfl
def crN (keep : Int) (f : Fl) : Nat := f.safe + (mn (mx keep 0) ((f.b.length : Int) - f.safe)).toNat
def crB (keep : Int) (torn : UInt8) (f : Fl) : List UInt8 := if crN keep f < f.b.length ∧ torn ≠ 0 then f.b.take (crN keep f) ++ [f.b.getD (crN keep f) 0 ^^^ torn] else f.b.take (crN keep f)
def crF (keep : Int) (torn : UInt8) (f : Fl) : Fl := ⟨crB keep torn f, (crB keep torn f).length⟩
theorem crN_eq {keep : Int} {f : Fl} (h : f.safe ≤ f.b.length) : (f.safe : Int) + mn (mx keep 0) ((f.b.length : Int) - f.safe) = crN keep f ∧ f.safe ≤ crN keep f ∧ crN keep f ≤ f.b.length ∧ 0 ≤ mn (mx keep 0) ((f.b.length : Int) - f.safe) ∧ mn (mx keep 0) ((f.b.length : Int) - f.safe) ≤ (f.b.length : Int) - f.safe := by
  have h1 : 0 ≤ mx keep 0 := by unfold mx; split <;> omega
  have h2 : 0 ≤ mn (mx keep 0) ((f.b.length : Int) - f.safe) ∧ mn (mx keep 0) ((f.b.length : Int) - f.safe) ≤ (f.b.length : Int) - f.safe := by
    unfold mn
    split <;> omega
  unfold crN
  omega
theorem crB_len {keep : Int} {torn : UInt8} {f : Fl} (h : f.safe ≤ f.b.length) : (crB keep torn f).length ≤ f.b.length := by
  have := crN_eq (keep := keep) h
  unfold crB
  split
  · simp only [List.length_append, List.length_take, List.length_singleton]; omega
  · simp only [List.length_take]; omega
def RngB (b : Nat) (o oi : Obj) (n : Nat) (D : DataW Unit) (left : Lit → Bool) (cnt : Nat) : Prop :=
  ∃ es clock since seen c0, o = .map es clock ∧ Fit Try.prog 9 ptrR es clock ∧ es.size ≤ n ∧ D = .map ((es.toList.map (rg Try.prog 9 ptrR)).foldr DataW.insert []) ∧
    oi = .mapIter (some b) since seen c0 ∧ (∀ x ∈ es.toList, x.born < since) ∧ (leftOf es seen).size = cnt ∧
    (∀ x ∈ es.toList, left (rg Try.prog 9 ptrR x).1 = !seen.contains x.born) ∧ (∀ kl, left kl = true → ∃ x ∈ es.toList, (rg Try.prog 9 ptrR x).1 = kl) ∧ since ≤ c0 ∧ since ≤ clock
theorem RngB.of {w : World} {b r n : Nat} {o : Obj} {D : DataW Unit} {left : Lit → Bool} {cnt : Nat} (h : w.ranges Try.prog 9 ptrR b r n D left cnt) (ho : w.heap[b]? = some o) : ∃ oi, w.heap[r]? = some oi ∧ RngB b o oi n D left cnt := by
  obtain ⟨es, clock, since, seen, c0, h1, h2, h3, h4, h5, h6⟩ := h
  rw [h1] at ho
  injection ho with ho
  exact ⟨_, h5, es, clock, since, seen, c0, ho.symm, h2, h3, h4, rfl, h6⟩
theorem RngB.to {w : World} {b r n : Nat} {o oi : Obj} {D : DataW Unit} {left : Lit → Bool} {cnt : Nat} (h : RngB b o oi n D left cnt) (ho : w.heap[b]? = some o) (hi : w.heap[r]? = some oi) : w.ranges Try.prog 9 ptrR b r n D left cnt := by
  obtain ⟨es, clock, since, seen, c0, rfl, h2, h3, h4, rfl, h6⟩ := h
  exact ⟨es, clock, since, seen, c0, ho, h2, h3, h4, hi, h6⟩
def stg (keep : Int) (torn : UInt8) (left : Lit → Bool) (x : Ent) : Ent := if left (.string x.1.data.toList) then x else (x.1, x.2.1, crF keep torn x.2.2)
theorem stg_Es (keep : Int) (torn : UInt8) (left : Lit → Bool) (L : List Ent) : Es (L.map (stg keep torn left)) = Es L := by
  unfold Es
  rw [List.map_map]
  refine List.map_congr_left fun x _ => ?_
  simp only [Function.comp, stg]
  split <;> rfl
theorem stg_other {keep : Int} {torn : UInt8} {left : Lit → Bool} {x : Ent} {s : ByteArray} (h : x.1 ≠ s) : stg keep torn (fun z => left z && !z.sameKey (.string s.data.toList)) x = stg keep torn left x := by
  unfold stg
  have : (Lit.string x.1.data.toList).sameKey (.string s.data.toList) = false := by
    simp only [Lit.sameKey]
    simp
    intro h2
    exact h (data_inj (by simpa using h2))
  simp only [this, Bool.not_false, Bool.and_true]
theorem RowB.put {e : TypeId} {n : Nat} {xs : List Value} {gr cap : Nat} {h : Hp} (R : RowB e 1 (.slice (some ⟨gr, 0, none⟩) n cap) n xs h) : ∃ cur, h = [(gr, .cells cur e (0, 0))] ∧ n ≤ cur.size ∧ ∀ j u, j < n → RowB e 1 (.slice (some ⟨gr, 0, none⟩) n cap) n (xs.set j u) [(gr, .cells (cur.setIfInBounds j u) e (0, 0))] := by
  obtain ⟨h1, ⟨h, _⟩ | ⟨g, cap', cur, hv, rfl, h2, h3, h4, h5⟩⟩ := R
  · cases h
  · injection hv with a _ c
    injection a with a
    injection a with a
    subst a; subst c
    refine ⟨cur, rfl, by omega, fun j u hj => ⟨by simpa using h1, .inr ⟨gr, cap, _, rfl, rfl, h2, h3, by simpa using h4, ?_⟩⟩⟩
    rw [Array.toList_setIfInBounds, ← h5, List.take_set]
def crM (m : DM) (keep : Int) (torn : UInt8) : DM := { m with power := false, fl := m.fl.map fun x => (x.1, crF keep torn x.2) }
theorem ok_crash {m : DM} (hok : m.ok) (keep : Int) (torn : UInt8) : (crM m keep torn).ok := by
  obtain ⟨h1, h2, h3, h4, h5, h6⟩ := hok
  refine ⟨?_, ?_, ?_, h4, h5, h6⟩
  · show (m.fl.map _).Pairwise _
    rw [List.pairwise_map]
    exact h1
  · intro y hy
    obtain ⟨x, hx, rfl⟩ := List.mem_map.mp hy
    exact Nat.le_refl _
  · have : totM (crM m keep torn).fl ≤ totM m.fl := by
      show totM (m.fl.map _) ≤ _
      clear h1 h3
      generalize m.fl = l at h2
      induction l with
      | nil => exact Nat.le_refl _
      | cons x l ih =>
        have a := ih (fun y hy => h2 y (List.mem_cons_of_mem _ hy))
        have b := crB_len (keep := keep) (torn := torn) (h2 x List.mem_cons_self)
        simp only [totM, List.map_cons, List.sum_cons] at a ⊢
        have : (crF keep torn x.2).b.length = (crB keep torn x.2).length := rfl
        omega
    show (totM (crM m keep torn).fl : Int) ≤ m.room
    omega
theorem bv_take (n : Nat) (b : List UInt8) : (bv b).take n = bv (b.take n) := by simp [bv, List.map_take]
theorem apart_mid {L L1 L2 : List Ent} {e : Ent} {hL : L = L1 ++ e :: L2} (hA : Apart L) : (∀ y ∈ L1, y.1 ≠ e.1) ∧ ∀ y ∈ L2, y.1 ≠ e.1 := by
  subst hL
  unfold Apart at hA
  rw [List.pairwise_append] at hA
  exact ⟨fun y hy => hA.2.2 y hy e List.mem_cons_self, fun y hy q => (List.pairwise_cons.mp hA.2.1).1 y hy q.symm⟩
theorem row_at {e2 : List UInt8} {gr cap : Nat} {cur : Array Value} {nn : Nat} {bb : UInt8} (R : RowB 5 1 (.slice (some ⟨gr, 0, none⟩) e2.length cap) e2.length (bv e2) [(gr, .cells cur 5 (0, 0))]) (hn : nn < e2.length) (hb : bb = e2[nn]) : cur[nn]? = some (.int .u8 bb.toNat) := by
  obtain ⟨h1, ⟨h, _⟩ | ⟨g, cap', c2, hv, hh, h2, h3, h4, h5⟩⟩ := R
  · cases h
  · injection hh with hh _
    injection hh with _ hh
    injection hh with hh
    subst hh
    have : (cur.toList.take (e2.length * 1))[nn]? = (bv e2)[nn]? := by rw [h5]
    rw [List.getElem?_take, if_pos (by omega), Array.getElem?_toList] at this
    rw [this, hb]
    simp [bv, hn]
theorem xorB (a b : UInt8) : Go.bits .xor .u8 (a.toNat : Int) (b.toNat : Int) = ((a ^^^ b).toNat : Nat) := by
  have h1 : (BitVec.ofInt IntKind.u8.bits (a.toNat : Int)) = a.toBitVec := by
    apply BitVec.eq_of_toNat_eq
    rw [BitVec.toNat_ofInt]
    have := a.toNat_lt
    show ((a.toNat : Int) % ((2 ^ 8 : Nat) : Int)).toNat = a.toNat
    omega
  have h2 : (BitVec.ofInt IntKind.u8.bits (b.toNat : Int)) = b.toBitVec := by
    apply BitVec.eq_of_toNat_eq
    rw [BitVec.toNat_ofInt]
    have := b.toNat_lt
    show ((b.toNat : Int) % ((2 ^ 8 : Nat) : Int)).toNat = b.toNat
    omega
  have h3 : IntKind.u8.wrap ((a ^^^ b).toNat : Int) = ((a ^^^ b).toNat : Int) := by
    have := (a ^^^ b).toNat_lt
    rw [IntKind.wrap_u8]
    omega
  unfold Go.bits
  simp only [h1, h2]
  exact h3
theorem bv_put (n : Nat) (b : List UInt8) (z : UInt8) (hn : n < b.length) : ((bv b).set n (.int .u8 (z.toNat : Nat))).take (n + 1) = bv (b.take n ++ [z]) := by
  have e : (bv b).set n (.int .u8 (z.toNat : Nat)) = bv (b.set n z) := by simp [bv, List.map_set]
  rw [e, bv_take, List.take_add_one, List.getElem?_set_self hn, List.take_set_of_le (Nat.le_refl _)]
  rfl
def CrI (w0 : World) (g mb r : Nat) (o : Obj) (room lives : Int) (L : List Ent) (keep : Int) (torn : UInt8) (F : Hp) (wr : World) : Prop :=
  ∃ left cnt oi hf, RngB mb o oi (Es L).length (DataW.map (Es L)) left cnt ∧ wr.rangeLeft mb r = cnt ∧ FilesR (L.map (stg keep torn left)) hf ∧ Holds w0 ((g, dskO room lives false mb) :: (mb, o) :: (r, oi) :: (hf ++ F)) wr
set_option maxRecDepth 100000 in
set_option maxHeartbeats 4000000 in
theorem crash_calls (g : Nat) (m : DM) (h F : Hp) (keep : Int) (torn : UInt8) (w0 w : World) (hI : IsD g m h) (H : Holds w0 (h ++ F) w) :
    Calls Try.prog 13 #[.pointer (some ⟨g, 0, none⟩), .int .i64 keep, .int .u8 torn.toNat] w fun e w' => e = .returned (.tuple #[]) ∧ ∃ h', IsD g (crM m keep torn) h' ∧ Holds w0 (h' ++ F) w' := by
  obtain ⟨mb, o, L, hf, hM, hfl, hF, rfl, hok⟩ := hI
  have c2 : w.cell? ⟨g, 2, none⟩ = some (.bool m.power) := H.cell 2
  have f2 : w.frozen? ⟨g, 2, none⟩ = false := H.froz 2
  have H1 : Holds w0 ((g, dskO m.room m.lives false mb) :: (mb, o) :: hf ++ F) (w.setCell ⟨g, 2, none⟩ (.bool false)) := H.set 2 (.bool false)
  have c3 : (w.setCell ⟨g, 2, none⟩ (.bool false)).cell? ⟨g, 3, none⟩ = some (.map (some mb)) := H1.cell 3
  have hown := MapB.owns (H1.tail.get) hM
  have HM := Lib.hid hM; have HF := Lib.hid hF; have HOK := Lib.hid hok; have HFL := Lib.hid hfl
  have HA := Lib.hid (apart_abs (L := L) (by rw [← hfl]; exact hok.apart))
  have htm : tot L = totM m.fl := by rw [hfl]; exact tot_abs L
  have HT := Lib.hid (show tot L ≤ 1000000000 by have := hok.tot; have := hok.room; omega)
  have HSF := Lib.hid (show ∀ x ∈ L, x.2.2.safe ≤ x.2.2.b.length from fun x hx => hok.safe (x.1, x.2.2) (by rw [hfl]; exact List.mem_map.mpr ⟨x, hx, rfl⟩))
  have HH := Lib.hid H1
  clear H H1 hM hfl hF hok htm
  go_enter Try.func13, Try.ntmps13
  go_wp2_with (first | (at_range; refine wpList_range_own _ rfl _ 53 rfl 9 57 law9 Try.underlying53 _ mb _ _ rfl hown ?_; intro w1 hrg0 hg0 hs0))
  have hH1 := HH.out.grow (below_of_none hg0)
  obtain ⟨oi, hoi, hrb⟩ := RngB.of hrg0 hH1.tail.get
  have hHr : Holds w0 (((w.setCell ⟨g, 2, none⟩ (.bool false)).heap.size, oi) :: ((g, dskO m.room m.lives false mb) :: (mb, o) :: hf ++ F)) w1 := hH1.cons (by have := HH.out.size; omega) hoi (fun x hx e => by have := lt_of_block (HH.out.mem hx); omega)
  have hleft := hrg0.left_eq
  have H0 : Hid (CrI w0 g mb (w.setCell ⟨g, 2, none⟩ (.bool false)).heap.size o m.room m.lives L keep torn F w1) := Lib.hid (by
    refine ⟨_, _, oi, hf, hrb, hleft, ?_, hHr.perm (by classical rw [List.perm_iff_count]; intro a; simp only [List.count_append, List.count_cons, List.count_nil]; omega)⟩
    have e : L.map (stg keep torn (Maps.has (DataW.map (Es L)))) = L := by
      conv => rhs; rw [← List.map_id L]
      refine List.map_congr_left fun x hx => ?_
      simp [stg, has_Es hx]
    rw [e]
    exact HF.out)
  generalize (w.setCell ⟨g, 2, none⟩ (.bool false)).heap.size = r at *
  clear hrg0 hg0 hs0 hown hH1 hoi hrb hHr hleft c2 f2 c3
  go_frame
  go_loopw [7, 8, 9] (fun _ _ _ wr => CrI w0 g mb r o m.room m.lives L keep torn F wr) (fun _ _ _ wr => wr.rangeLeft mb r)
  case atStart => exact H0.out
  case round =>
    obtain ⟨left, cnt, oi, hf, hrb, hle, hFr, hHr⟩ := hrel
    have hrg := hrb.to hHr.tail.get hHr.tail.tail.get
    have HHr := Lib.hid hHr; have HFr := Lib.hid hFr; have HLE := Lib.hid hle
    clear hHr hFr hle hrb
    go_wp2_with (first | (at_next; refine wpList_next_ranges _ rfl _ rfl 9 law9 ptrR Value.string ptrOf (fun key kl hk => by obtain ⟨s, h1, _⟩ := Go.WideMaps.string_of_keyOf Try.underlying9 hk; exact ⟨s, h1⟩) (fun v y hv => ptrR_form hv) mb r _ _ _ _ rfl hrg ?_ ?_))
    · intro hc0 hl0
      clear hrg
      have HL0 := Lib.hid hl0
      clear hl0
      go_wp2
      have e0 : L.map (stg keep torn left) = L.map fun x => (x.1, x.2.1, crF keep torn x.2.2) := List.map_congr_left fun x _ => by simp [stg, HL0.out]
      refine bodyPost_end (v := .tuple #[]) (by simp [results, Try.results13, go_sem]) rfl ⟨rfl, (g, dskO m.room m.lives false mb) :: (mb, o) :: hf, ⟨mb, o, L.map fun x => (x.1, x.2.1, crF keep torn x.2.2), hf, ?_, ?_, by rw [← e0]; exact HFr.out, rfl, ok_crash HOK.out keep torn⟩, ?_⟩
      · rw [← e0, stg_Es]
        exact HM.out
      · show m.fl.map _ = _
        rw [HFL.out]
        simp [absL, Function.comp_def]
      · exact (HHr.out.sub (List.Sublist.cons_cons _ (List.Sublist.cons_cons _ (List.sublist_cons_self _ _)))).congr (by simp)
    · intro x c kl y1 y2 w2 cnt' hk hl hv hat hrg2 hlt hg2 hs2 hen
      obtain ⟨rfl, e, hfe, rfl⟩ := next_ent (y := (y1, y2)) hk hv hat
      have hmr : mb ≠ r := fun q => (HHr.out.tail.mem_ne (x := (r, oi)) (by simp)) q.symm
      have hmb2 := (hg2.block mb (lt_of_block HHr.out.tail.get) (by simpa using hmr)).trans HHr.out.tail.get
      obtain ⟨oi2, hoi2, hrb2⟩ := RngB.of hrg2 hmb2
      have H2 : Holds w0 ([(g, dskO m.room m.lives false mb), (mb, o)] ++ (r, oi2) :: (hf ++ F)) w2 := Holds.turn_mid (h := [(g, dskO m.room m.lives false mb), (mb, o)]) HHr.out hg2 hoi2
      obtain ⟨L1, L2, hL, hxe, hne⟩ := find_split hfe
      have hse := HSF.out e (by rw [hL]; simp)
      have hcr := crN_eq (keep := keep) hse
      have htl : e.2.2.b.length ≤ 1000000000 := by
        have := tot_mid L1 L2 e
        rw [← hL] at this
        have := HT.out
        omega
      have hFr2 := HFr.out
      have hse0 : stg keep torn left e = e := by simp [stg, hxe, hl]
      rw [hL, List.map_append, List.map_cons, hse0] at hFr2
      obtain ⟨f1, fx, f2, k1, ⟨v, hrw, hrow, rfl⟩, k2, hfeq⟩ := FilesR.mid.mp hFr2
      have HLT := Lib.hid (show cnt' < cnt from hlt)
      have HRB := Lib.hid hrb2; have HL := Lib.hid hL; have HXE := Lib.hid hxe; have K1 := Lib.hid k1; have K2 := Lib.hid k2; have HSE := Lib.hid hse
      have H3 : Holds w0 ((e.2.1, flO v e.2.2) :: (hrw ++ ((g, dskO m.room m.lives false mb) :: (mb, o) :: (r, oi2) :: (f1 ++ (f2 ++ F))))) w2 := H2.perm (by rw [hfeq]; exact (by classical rw [List.perm_iff_count]; intro a; simp only [List.count_append, List.count_cons, List.count_nil]; omega))
      simp only [ptrOf] at hen ⊢
      obtain ⟨hbl, ⟨rfl, hb0, rfl⟩ | ⟨gr, cap, cur, rfl, rfl, q1, q2, q3, q4⟩⟩ := hrow
      · have hs0 : e.2.2.safe = 0 := by omega
        have hbn : e.2.2.b = [] := List.eq_nil_of_length_eq_zero hb0
        have CR0 := Lib.hid (show crF keep torn e.2.2 = ⟨[], 0⟩ by
          have : (crB keep torn e.2.2).length ≤ 0 := by have := crB_len (keep := keep) (torn := torn) hse; omega
          have h0 : crB keep torn e.2.2 = [] := List.eq_nil_of_length_eq_zero (by omega)
          simp [crF, h0])
        have d0 : w2.cell? ⟨e.2.1, 0, none⟩ = some (.slice none 0 0) := Holds.cell (cs := flC _ e.2.2) H3 0
        have d1 : w2.cell? ⟨e.2.1, 1, none⟩ = some (.int .i64 0) := by
          have := Holds.cell (cs := flC (.slice none 0 0) e.2.2) H3 1
          rw [this]
          simp [flC, hs0]
        have hm0 : mn (mx keep 0) 0 = 0 := by unfold mn mx; split <;> split <;> omega
        have HS0 := Lib.hid hs0; have HBN := Lib.hid hbn
        have fx := fold_mx
        have fn := fold_mn
        clear hrg2 hg2 hs2 hat hv hk hfe hfeq hrb2 hL hxe hne k1 k2 hFr2 hse hrg hlt hoi2 H2 hl hse0 hmb2 hcr hs0 hbn hb0 htl hbl
        go_wp2_with fail
        go_quiet (fail)
        have hcl := clone_calls none 0 ([] : List UInt8) w0 (w2.drewN nq) _ (fun _ => rfl) ⟨rfl, fun _ => rfl, fun _ h => by cases h⟩ (by simp) (H3.drewN nq)
        simp only [List.length_nil] at hcl
        have HCL := Lib.hid hcl
        clear hcl
        go_wp2_with fail
        refine HCL.out.mono ?_
        rintro eo w3 ⟨v3, rfl, hv, r1, r2⟩
        obtain ⟨A3, c3, hv3, _⟩ := RowB.form r1
        subst hv3
        have r2' : Holds w0 ((e.2.1, flO (.slice none 0 0) e.2.2) :: ((g, dskO m.room m.lives false mb) :: (mb, o) :: (r, oi2) :: (f1 ++ (hv ++ (f2 ++ F))))) w3 :=
          (r2).perm (by classical rw [List.perm_iff_count]; intro a; simp only [List.count_append, List.count_cons, List.count_nil]; omega)
        have e0 : w3.cell? ⟨e.2.1, 0, none⟩ = some (.slice none 0 0) := Holds.cell (cs := flC _ e.2.2) r2' 0
        have e1 : w3.cell? ⟨e.2.1, 1, none⟩ = some (.int .i64 e.2.2.safe) := Holds.cell (cs := flC _ e.2.2) r2' 1
        have g0 : w3.frozen? ⟨e.2.1, 0, none⟩ = false := Holds.froz (cs := flC _ e.2.2) r2' 0
        have g1 : w3.frozen? ⟨e.2.1, 1, none⟩ = false := Holds.froz (cs := flC _ e.2.2) r2' 1
        have R1 := Lib.hid r1; have R2 := Lib.hid r2'
        clear r1 r2 r2'
        go_wp2_with fail
        have H9 : Holds w0 ((e.2.1, flO (.slice A3 0 c3) ⟨[], 0⟩) :: ((g, dskO m.room m.lives false mb) :: (mb, o) :: (r, oi2) :: (f1 ++ (hv ++ (f2 ++ F))))) ((w3.setCell ⟨e.2.1, 0, none⟩ (.slice A3 0 c3)).setCell ⟨e.2.1, 1, none⟩ (.int .i64 0)) := (Holds.set (cs := flC _ e.2.2) R2.out 0 _).set 1 _
        have hm9 : (((w3.setCell ⟨e.2.1, 0, none⟩ (.slice A3 0 c3)).setCell ⟨e.2.1, 1, none⟩ (.int .i64 0))).rangeLeft mb r = cnt' := (HRB.out.to H9.tail.tail.get H9.tail.tail.tail.get).left_eq
        refine ⟨⟨_, cnt', oi2, f1 ++ (((e.2.1, flO (.slice A3 0 c3) ⟨[], 0⟩) :: hv) ++ f2), HRB.out, hm9, ?_, H9.perm (by classical rw [List.perm_iff_count]; intro a; simp only [List.count_append, List.count_cons, List.count_nil]; omega)⟩, ?_⟩
        · have hA2 := HA.out
          have m1 : L1.map (stg keep torn fun z => left z && !z.sameKey (.string x.data.toList)) = L1.map (stg keep torn left) := List.map_congr_left fun y hy => stg_other (by intro q; exact (apart_mid (hL := HL.out) hA2).1 y hy (by rw [q, HXE.out]))
          have m2 : L2.map (stg keep torn fun z => left z && !z.sameKey (.string x.data.toList)) = L2.map (stg keep torn left) := List.map_congr_left fun y hy => stg_other (by intro q; exact (apart_mid (hL := HL.out) hA2).2 y hy (by rw [q, HXE.out]))
          have m3 : stg keep torn (fun z => left z && !z.sameKey (.string x.data.toList)) e = (e.1, e.2.1, ⟨[], 0⟩) := by
            have hcf : crF keep torn e.2.2 = ⟨[], 0⟩ := by
              exact CR0.out
            rw [← hcf]
            simp [stg, HXE.out, Lit.sameKey]
          rw [HL.out, List.map_append, List.map_cons, m1, m2, m3]
          exact FilesR.mid.mpr ⟨f1, _, f2, K1.out, ⟨_, hv, R1.out, rfl⟩, K2.out, rfl⟩
        · rw [hm9, HLE.out]
          exact HLT.out
      · have d0 : w2.cell? ⟨e.2.1, 0, none⟩ = some (.slice (some ⟨gr, 0, none⟩) e.2.2.b.length cap) := Holds.cell (cs := flC _ e.2.2) H3 0
        have d1 : w2.cell? ⟨e.2.1, 1, none⟩ = some (.int .i64 e.2.2.safe) := Holds.cell (cs := flC _ e.2.2) H3 1
        obtain ⟨nn, hnn⟩ : ∃ nn, nn = crN keep e.2.2 := ⟨_, rfl⟩
        rw [← hnn] at hcr
        obtain ⟨hc1, hc2, hc3, hc4, hc5⟩ := hcr
        have HNN := Lib.hid hnn
        have fx := fold_mx
        have fn := fold_mn
        clear hrg2 hg2 hs2 hat hv hk hfe hfeq hrb2 hL hxe hne k1 k2 hFr2 hse hrg hlt hoi2 H2 hl hse0 hmb2 hnn
        go_wp2_with fail
        go_quiet (fail)
        have HROW := Lib.hid (show RowB 5 1 (.slice (some ⟨gr, 0, none⟩) e.2.2.b.length cap) e.2.2.b.length (bv e.2.2.b) [(gr, .cells cur 5 (0, 0))] from ⟨hbl, .inr ⟨gr, cap, cur, rfl, rfl, q1, q2, q3, q4⟩⟩)
        have hcap : nn ≤ cap := by omega
        clear q2 q3 q4 hbl
        by_cases hsp : nn < e.2.2.b.length ∧ torn ≠ 0
        · obtain ⟨hnl, hto⟩ := hsp
          have htz : ((torn.toNat : Int) != 0) = true := by
            simp only [bne_iff_ne, ne_eq]
            intro q
            exact hto (UInt8.toNat_inj.mp (show torn.toNat = 0 by omega))
          have hnl' : (nn : Int) < (e.2.2.b.length : Int) := by omega
          have HTO := Lib.hid hto
          clear hto
          obtain ⟨bb, hbb⟩ : ∃ bb, bb = e.2.2.b[nn] := ⟨_, rfl⟩
          have HBB := Lib.hid hbb
          have H4 : Holds w0 ((gr, Obj.cells cur 5 (0, 0)) :: ((e.2.1, flO (.slice (some ⟨gr, 0, none⟩) e.2.2.b.length cap) e.2.2) :: ((g, dskO m.room m.lives false mb) :: (mb, o) :: (r, oi2) :: (f1 ++ (f2 ++ F))))) (w2.drewN nq) := (H3.drewN nq).perm (by classical rw [List.perm_iff_count]; intro a; simp only [List.count_append, List.count_cons, List.count_nil]; omega)
          obtain ⟨cur', hcu, hcs, hput⟩ := RowB.put HROW.out
          obtain rfl : cur = cur' := by injection hcu with hcu _; injection hcu with _ hcu; injection hcu
          have hcur : cur[nn]? = some (.int .u8 bb.toNat) := row_at HROW.out hnl hbb
          have u0 : (w2.drewN nq).cell? ⟨gr, nn, none⟩ = some (.int .u8 bb.toNat) := (H4.cell nn).trans hcur
          have v0 : (w2.drewN nq).frozen? ⟨gr, nn, none⟩ = false := H4.froz nn
          obtain ⟨zz, hzz⟩ : ∃ zz, zz = bb ^^^ torn := ⟨_, rfl⟩
          have hx8 : Go.bits .xor .u8 (bb.toNat : Int) (torn.toNat : Int) = (zz.toNat : Nat) := by rw [hzz]; exact xorB bb torn
          have HZZ := Lib.hid hzz
          clear hzz
          have HPUT := Lib.hid (hput nn (.int .u8 (zz.toNat : Nat)) hnl)
          have H5 : Holds w0 ([(gr, Obj.cells (cur.setIfInBounds nn (.int .u8 (zz.toNat : Nat))) 5 (0, 0))] ++ ((e.2.1, flO (.slice (some ⟨gr, 0, none⟩) e.2.2.b.length cap) e.2.2) :: ((g, dskO m.room m.lives false mb) :: (mb, o) :: (r, oi2) :: (f1 ++ (f2 ++ F))))) ((w2.drewN nq).setCell ⟨gr, nn, none⟩ (.int .u8 (zz.toNat : Nat))) := H4.set nn _
          have d0' : ((w2.drewN nq).setCell ⟨gr, nn, none⟩ (.int .u8 (zz.toNat : Nat))).cell? ⟨e.2.1, 0, none⟩ = some (.slice (some ⟨gr, 0, none⟩) e.2.2.b.length cap) := Holds.cell (cs := flC _ e.2.2) (Holds.right (h := [(gr, Obj.cells (cur.setIfInBounds nn (.int .u8 (zz.toNat : Nat))) 5 (0, 0))]) H5) 0
          clear hbb hcu hcur hcs hput H4
          have hlen : (e.2.2.b.take nn ++ [zz]).length = nn + 1 := (by simp; omega)
          have hcl := clone_calls (some ⟨gr, 0, none⟩) cap (e.2.2.b.take nn ++ [zz]) w0 ((w2.drewN nq).setCell ⟨gr, nn, none⟩ (.int .u8 (zz.toNat : Nat))) _ (fun h => by cases h) (by obtain ⟨A0, c0, hv0, _, _, hrr⟩ := RowB.reads (F := (e.2.1, flO (.slice (some ⟨gr, 0, none⟩) e.2.2.b.length cap) e.2.2) :: ((g, dskO m.room m.lives false mb) :: (mb, o) :: (r, oi2) :: (f1 ++ (f2 ++ F)))) HPUT.out H5; injection hv0 with ha hb hc; subst ha; rw [hlen]; have := Reads.take hrr (show nn + 1 ≤ e.2.2.b.length by omega); rwa [Nat.mul_one, bv_put _ _ _ hnl] at this) (by rw [hlen]; omega) H5
          rw [hlen] at hcl
          have HCL := Lib.hid hcl
          clear hcl
          go_wp2_with fail
          refine HCL.out.mono ?_
          rintro eo w3 ⟨v3, rfl, hv, r1, r2⟩
          obtain ⟨A3, c3, hv3, _⟩ := RowB.form r1
          subst hv3
          have r2' : Holds w0 ((e.2.1, flO (.slice (some ⟨gr, 0, none⟩) e.2.2.b.length cap) e.2.2) :: ((g, dskO m.room m.lives false mb) :: (mb, o) :: (r, oi2) :: (f1 ++ (hv ++ (f2 ++ F))))) w3 :=
            (r2.sub (k := hv ++ ((e.2.1, flO (.slice (some ⟨gr, 0, none⟩) e.2.2.b.length cap) e.2.2) :: ((g, dskO m.room m.lives false mb) :: (mb, o) :: (r, oi2) :: (f1 ++ (f2 ++ F))))) (List.Sublist.append (List.Sublist.refl _) (List.sublist_append_right [(gr, Obj.cells (cur.setIfInBounds nn (.int .u8 (zz.toNat : Nat))) 5 (0, 0))] _))).perm (by classical rw [List.perm_iff_count]; intro a; simp only [List.count_append, List.count_cons, List.count_nil]; omega)
          have e0 : w3.cell? ⟨e.2.1, 0, none⟩ = some (.slice (some ⟨gr, 0, none⟩) e.2.2.b.length cap) := Holds.cell (cs := flC _ e.2.2) r2' 0
          have e1 : w3.cell? ⟨e.2.1, 1, none⟩ = some (.int .i64 e.2.2.safe) := Holds.cell (cs := flC _ e.2.2) r2' 1
          have g0 : w3.frozen? ⟨e.2.1, 0, none⟩ = false := Holds.froz (cs := flC _ e.2.2) r2' 0
          have g1 : w3.frozen? ⟨e.2.1, 1, none⟩ = false := Holds.froz (cs := flC _ e.2.2) r2' 1
          have R1 := Lib.hid r1; have R2 := Lib.hid r2'
          clear r1 r2 r2'
          go_wp2_with fail
          have H9 : Holds w0 ((e.2.1, flO (.slice A3 (nn + 1) c3) ⟨(e.2.2.b.take nn ++ [zz]), nn + 1⟩) :: ((g, dskO m.room m.lives false mb) :: (mb, o) :: (r, oi2) :: (f1 ++ (hv ++ (f2 ++ F))))) ((w3.setCell ⟨e.2.1, 0, none⟩ (.slice A3 (nn + 1) c3)).setCell ⟨e.2.1, 1, none⟩ (.int .i64 ((nn : Int) + 1))) := (Holds.set (cs := flC _ e.2.2) R2.out 0 _).set 1 _
          have hm9 : (((w3.setCell ⟨e.2.1, 0, none⟩ (.slice A3 (nn + 1) c3)).setCell ⟨e.2.1, 1, none⟩ (.int .i64 ((nn : Int) + 1)))).rangeLeft mb r = cnt' := (HRB.out.to H9.tail.tail.get H9.tail.tail.tail.get).left_eq
          refine ⟨⟨_, cnt', oi2, f1 ++ (((e.2.1, flO (.slice A3 (nn + 1) c3) ⟨(e.2.2.b.take nn ++ [zz]), nn + 1⟩) :: hv) ++ f2), HRB.out, hm9, ?_, H9.perm (by classical rw [List.perm_iff_count]; intro a; simp only [List.count_append, List.count_cons, List.count_nil]; omega)⟩, ?_⟩
          · have hA2 := HA.out
            have m1 : L1.map (stg keep torn fun z => left z && !z.sameKey (.string x.data.toList)) = L1.map (stg keep torn left) := List.map_congr_left fun y hy => stg_other (by intro q; exact (apart_mid (hL := HL.out) hA2).1 y hy (by rw [q, HXE.out]))
            have m2 : L2.map (stg keep torn fun z => left z && !z.sameKey (.string x.data.toList)) = L2.map (stg keep torn left) := List.map_congr_left fun y hy => stg_other (by intro q; exact (apart_mid (hL := HL.out) hA2).2 y hy (by rw [q, HXE.out]))
            have m3 : stg keep torn (fun z => left z && !z.sameKey (.string x.data.toList)) e = (e.1, e.2.1, ⟨(e.2.2.b.take nn ++ [zz]), nn + 1⟩) := by
              have hcf : crF keep torn e.2.2 = ⟨(e.2.2.b.take nn ++ [zz]), nn + 1⟩ := by
                unfold crF crB
                rw [← HNN.out, if_pos ⟨hnl, HTO.out⟩]
                have hz : e.2.2.b.getD nn 0 = bb := by rw [HBB.out]; simp [List.getD, hnl]
                rw [hz, ← HZZ.out, hlen]
              rw [← hcf]
              simp [stg, HXE.out, Lit.sameKey]
            rw [HL.out, List.map_append, List.map_cons, m1, m2, m3]
            exact FilesR.mid.mpr ⟨f1, _, f2, K1.out, ⟨_, hv, (by rw [hlen]; exact R1.out), rfl⟩, K2.out, rfl⟩
          · rw [hm9, HLE.out]
            exact HLT.out
        · have NSP := Lib.hid hsp
          by_cases hnl : nn < e.2.2.b.length
          · have htz : ((torn.toNat : Int) != 0) = false := by
              have : torn = 0 := Classical.byContradiction fun q => hsp ⟨hnl, q⟩
              subst this
              rfl
            have hnl' : (nn : Int) < (e.2.2.b.length : Int) := by omega
            clear hsp
            have hlen : (e.2.2.b.take nn).length = nn := (by simp; omega)
            have hcl := clone_calls (some ⟨gr, 0, none⟩) cap (e.2.2.b.take nn) w0 (w2.drewN nq) _ (fun h => by cases h) (by have hrr := RowB.reads (F := (e.2.1, flO (.slice (some ⟨gr, 0, none⟩) e.2.2.b.length cap) e.2.2) :: ((g, dskO m.room m.lives false mb) :: (mb, o) :: (r, oi2) :: (f1 ++ (f2 ++ F)))) HROW.out ((H3.drewN nq).perm (by classical rw [List.perm_iff_count]; intro a; simp only [List.count_append, List.count_cons, List.count_nil]; omega)); obtain ⟨A0, c0, hv0, _, _, hrr⟩ := hrr; injection hv0 with ha hb hc; subst ha; rw [hlen]; have := Reads.take hrr hc3; rwa [Nat.mul_one, bv_take] at this) (by rw [hlen]; omega) ((H3.drewN nq).perm (by classical rw [List.perm_iff_count]; intro a; simp only [List.count_append, List.count_cons, List.count_nil]; omega) : Holds w0 ([(gr, Obj.cells cur 5 (0, 0))] ++ ((e.2.1, flO (.slice (some ⟨gr, 0, none⟩) e.2.2.b.length cap) e.2.2) :: ((g, dskO m.room m.lives false mb) :: (mb, o) :: (r, oi2) :: (f1 ++ (f2 ++ F))))) (w2.drewN nq))
            rw [hlen] at hcl
            have HCL := Lib.hid hcl
            clear hcl
            go_wp2_with fail
            refine HCL.out.mono ?_
            rintro eo w3 ⟨v3, rfl, hv, r1, r2⟩
            obtain ⟨A3, c3, hv3, _⟩ := RowB.form r1
            subst hv3
            have r2' : Holds w0 ((e.2.1, flO (.slice (some ⟨gr, 0, none⟩) e.2.2.b.length cap) e.2.2) :: ((g, dskO m.room m.lives false mb) :: (mb, o) :: (r, oi2) :: (f1 ++ (hv ++ (f2 ++ F))))) w3 :=
              (r2.sub (k := hv ++ ((e.2.1, flO (.slice (some ⟨gr, 0, none⟩) e.2.2.b.length cap) e.2.2) :: ((g, dskO m.room m.lives false mb) :: (mb, o) :: (r, oi2) :: (f1 ++ (f2 ++ F))))) (List.Sublist.append (List.Sublist.refl _) (List.sublist_append_right [(gr, Obj.cells cur 5 (0, 0))] _))).perm (by classical rw [List.perm_iff_count]; intro a; simp only [List.count_append, List.count_cons, List.count_nil]; omega)
            have e0 : w3.cell? ⟨e.2.1, 0, none⟩ = some (.slice (some ⟨gr, 0, none⟩) e.2.2.b.length cap) := Holds.cell (cs := flC _ e.2.2) r2' 0
            have e1 : w3.cell? ⟨e.2.1, 1, none⟩ = some (.int .i64 e.2.2.safe) := Holds.cell (cs := flC _ e.2.2) r2' 1
            have g0 : w3.frozen? ⟨e.2.1, 0, none⟩ = false := Holds.froz (cs := flC _ e.2.2) r2' 0
            have g1 : w3.frozen? ⟨e.2.1, 1, none⟩ = false := Holds.froz (cs := flC _ e.2.2) r2' 1
            have R1 := Lib.hid r1; have R2 := Lib.hid r2'
            clear r1 r2 r2'
            go_wp2_with fail
            have H9 : Holds w0 ((e.2.1, flO (.slice A3 nn c3) ⟨e.2.2.b.take nn, nn⟩) :: ((g, dskO m.room m.lives false mb) :: (mb, o) :: (r, oi2) :: (f1 ++ (hv ++ (f2 ++ F))))) ((w3.setCell ⟨e.2.1, 0, none⟩ (.slice A3 nn c3)).setCell ⟨e.2.1, 1, none⟩ (.int .i64 (nn : Int))) := (Holds.set (cs := flC _ e.2.2) R2.out 0 _).set 1 _
            have hm9 : (((w3.setCell ⟨e.2.1, 0, none⟩ (.slice A3 nn c3)).setCell ⟨e.2.1, 1, none⟩ (.int .i64 (nn : Int)))).rangeLeft mb r = cnt' := (HRB.out.to H9.tail.tail.get H9.tail.tail.tail.get).left_eq
            refine ⟨⟨_, cnt', oi2, f1 ++ (((e.2.1, flO (.slice A3 nn c3) ⟨e.2.2.b.take nn, nn⟩) :: hv) ++ f2), HRB.out, hm9, ?_, H9.perm (by classical rw [List.perm_iff_count]; intro a; simp only [List.count_append, List.count_cons, List.count_nil]; omega)⟩, ?_⟩
            · have hA2 := HA.out
              have m1 : L1.map (stg keep torn fun z => left z && !z.sameKey (.string x.data.toList)) = L1.map (stg keep torn left) := List.map_congr_left fun y hy => stg_other (by intro q; exact (apart_mid (hL := HL.out) hA2).1 y hy (by rw [q, HXE.out]))
              have m2 : L2.map (stg keep torn fun z => left z && !z.sameKey (.string x.data.toList)) = L2.map (stg keep torn left) := List.map_congr_left fun y hy => stg_other (by intro q; exact (apart_mid (hL := HL.out) hA2).2 y hy (by rw [q, HXE.out]))
              have m3 : stg keep torn (fun z => left z && !z.sameKey (.string x.data.toList)) e = (e.1, e.2.1, ⟨e.2.2.b.take nn, nn⟩) := by
                have hcf : crF keep torn e.2.2 = ⟨e.2.2.b.take nn, nn⟩ := by
                  unfold crF crB
                  rw [← HNN.out, if_neg NSP.out, hlen]
                rw [← hcf]
                simp [stg, HXE.out, Lit.sameKey]
              rw [HL.out, List.map_append, List.map_cons, m1, m2, m3]
              exact FilesR.mid.mpr ⟨f1, _, f2, K1.out, ⟨_, hv, (by rw [hlen]; exact R1.out), rfl⟩, K2.out, rfl⟩
            · rw [hm9, HLE.out]
              exact HLT.out
          · have hnl' : ¬ (nn : Int) < (e.2.2.b.length : Int) := by omega
            clear hsp
            have hlen : (e.2.2.b.take nn).length = nn := (by simp; omega)
            have hcl := clone_calls (some ⟨gr, 0, none⟩) cap (e.2.2.b.take nn) w0 (w2.drewN nq) _ (fun h => by cases h) (by have hrr := RowB.reads (F := (e.2.1, flO (.slice (some ⟨gr, 0, none⟩) e.2.2.b.length cap) e.2.2) :: ((g, dskO m.room m.lives false mb) :: (mb, o) :: (r, oi2) :: (f1 ++ (f2 ++ F)))) HROW.out ((H3.drewN nq).perm (by classical rw [List.perm_iff_count]; intro a; simp only [List.count_append, List.count_cons, List.count_nil]; omega)); obtain ⟨A0, c0, hv0, _, _, hrr⟩ := hrr; injection hv0 with ha hb hc; subst ha; rw [hlen]; have := Reads.take hrr hc3; rwa [Nat.mul_one, bv_take] at this) (by rw [hlen]; omega) ((H3.drewN nq).perm (by classical rw [List.perm_iff_count]; intro a; simp only [List.count_append, List.count_cons, List.count_nil]; omega) : Holds w0 ([(gr, Obj.cells cur 5 (0, 0))] ++ ((e.2.1, flO (.slice (some ⟨gr, 0, none⟩) e.2.2.b.length cap) e.2.2) :: ((g, dskO m.room m.lives false mb) :: (mb, o) :: (r, oi2) :: (f1 ++ (f2 ++ F))))) (w2.drewN nq))
            rw [hlen] at hcl
            have HCL := Lib.hid hcl
            clear hcl
            go_wp2_with fail
            refine HCL.out.mono ?_
            rintro eo w3 ⟨v3, rfl, hv, r1, r2⟩
            obtain ⟨A3, c3, hv3, _⟩ := RowB.form r1
            subst hv3
            have r2' : Holds w0 ((e.2.1, flO (.slice (some ⟨gr, 0, none⟩) e.2.2.b.length cap) e.2.2) :: ((g, dskO m.room m.lives false mb) :: (mb, o) :: (r, oi2) :: (f1 ++ (hv ++ (f2 ++ F))))) w3 :=
              (r2.sub (k := hv ++ ((e.2.1, flO (.slice (some ⟨gr, 0, none⟩) e.2.2.b.length cap) e.2.2) :: ((g, dskO m.room m.lives false mb) :: (mb, o) :: (r, oi2) :: (f1 ++ (f2 ++ F))))) (List.Sublist.append (List.Sublist.refl _) (List.sublist_append_right [(gr, Obj.cells cur 5 (0, 0))] _))).perm (by classical rw [List.perm_iff_count]; intro a; simp only [List.count_append, List.count_cons, List.count_nil]; omega)
            have e0 : w3.cell? ⟨e.2.1, 0, none⟩ = some (.slice (some ⟨gr, 0, none⟩) e.2.2.b.length cap) := Holds.cell (cs := flC _ e.2.2) r2' 0
            have e1 : w3.cell? ⟨e.2.1, 1, none⟩ = some (.int .i64 e.2.2.safe) := Holds.cell (cs := flC _ e.2.2) r2' 1
            have g0 : w3.frozen? ⟨e.2.1, 0, none⟩ = false := Holds.froz (cs := flC _ e.2.2) r2' 0
            have g1 : w3.frozen? ⟨e.2.1, 1, none⟩ = false := Holds.froz (cs := flC _ e.2.2) r2' 1
            have R1 := Lib.hid r1; have R2 := Lib.hid r2'
            clear r1 r2 r2'
            go_wp2_with fail
            have H9 : Holds w0 ((e.2.1, flO (.slice A3 nn c3) ⟨e.2.2.b.take nn, nn⟩) :: ((g, dskO m.room m.lives false mb) :: (mb, o) :: (r, oi2) :: (f1 ++ (hv ++ (f2 ++ F))))) ((w3.setCell ⟨e.2.1, 0, none⟩ (.slice A3 nn c3)).setCell ⟨e.2.1, 1, none⟩ (.int .i64 (nn : Int))) := (Holds.set (cs := flC _ e.2.2) R2.out 0 _).set 1 _
            have hm9 : (((w3.setCell ⟨e.2.1, 0, none⟩ (.slice A3 nn c3)).setCell ⟨e.2.1, 1, none⟩ (.int .i64 (nn : Int)))).rangeLeft mb r = cnt' := (HRB.out.to H9.tail.tail.get H9.tail.tail.tail.get).left_eq
            refine ⟨⟨_, cnt', oi2, f1 ++ (((e.2.1, flO (.slice A3 nn c3) ⟨e.2.2.b.take nn, nn⟩) :: hv) ++ f2), HRB.out, hm9, ?_, H9.perm (by classical rw [List.perm_iff_count]; intro a; simp only [List.count_append, List.count_cons, List.count_nil]; omega)⟩, ?_⟩
            · have hA2 := HA.out
              have m1 : L1.map (stg keep torn fun z => left z && !z.sameKey (.string x.data.toList)) = L1.map (stg keep torn left) := List.map_congr_left fun y hy => stg_other (by intro q; exact (apart_mid (hL := HL.out) hA2).1 y hy (by rw [q, HXE.out]))
              have m2 : L2.map (stg keep torn fun z => left z && !z.sameKey (.string x.data.toList)) = L2.map (stg keep torn left) := List.map_congr_left fun y hy => stg_other (by intro q; exact (apart_mid (hL := HL.out) hA2).2 y hy (by rw [q, HXE.out]))
              have m3 : stg keep torn (fun z => left z && !z.sameKey (.string x.data.toList)) e = (e.1, e.2.1, ⟨e.2.2.b.take nn, nn⟩) := by
                have hcf : crF keep torn e.2.2 = ⟨e.2.2.b.take nn, nn⟩ := by
                  unfold crF crB
                  rw [← HNN.out, if_neg NSP.out, hlen]
                rw [← hcf]
                simp [stg, HXE.out, Lit.sameKey]
              rw [HL.out, List.map_append, List.map_cons, m1, m2, m3]
              exact FilesR.mid.mpr ⟨f1, _, f2, K1.out, ⟨_, hv, (by rw [hlen]; exact R1.out), rfl⟩, K2.out, rfl⟩
            · rw [hm9, HLE.out]
              exact HLT.out
end Go.Proofs.Ytocpelkgiebkjaa
