/- The law's own same: both disks tell the same. Conditions: each theorem's own. -/
import Derived.Test.YtocpelkgiebkjaaRx
import Derived.Test.YtocpelkgiebkjaaItn
import Derived.Test.YtocpelkgiebkjaaNm
namespace Go.Proofs.Ytocpelkgiebkjaa
open Go.RowKit Go.Proofs.Ytocpelkgiebkjaa.Sp
set_option linter.unusedVariables false
set_option linter.unusedSimpArgs false
theorem before_lt : ∀ x y : List UInt8, bytesBefore x y = true → x < y
  | [], [], h => by simp [bytesBefore] at h
  | [], b :: m, _ => List.nil_lt_cons b m
  | a :: l, [], h => by simp [bytesBefore] at h
  | a :: l, b :: m, h => by
    simp only [bytesBefore, Bool.or_eq_true, decide_eq_true_eq, Bool.and_eq_true, beq_iff_eq] at h
    rw [List.cons_lt_cons_iff]
    rcases h with h | ⟨h1, h2⟩
    · exact .inl h
    · exact .inr ⟨h1, before_lt l m h2⟩
theorem before_le (x y : List UInt8) (h : bytesBefore x y = true) : x ≤ y := by
  intro h2
  exact absurd h2 (List.lt_asymm (before_lt x y h))
theorem names_rise {m : DM} (hri : Rises m.fl) : namesM m = if m.power then m.fl.map (fun x => x.1.data.toList) else [] := by
  unfold namesM
  split
  · refine List.mergeSort_of_pairwise ?_
    rw [List.pairwise_map]
    refine List.Pairwise.imp (fun {a b} h => ?_) hri
    exact decide_eq_true (before_le _ _ h)
  · rfl
theorem names_gen (A B : Option Addr) (zs : List ByteArray) (ca cb : Nat) (w : World) (hz : zs.length ≤ 1000000000) (hA : A = none → zs = []) (hB : B = none → zs = [])
    (hr : ∀ w', Below w.heap.size w w' → ∀ a, A = some a → ∀ j z, zs[j]? = some z → w'.cell? (a.add j) = some (.string z)) (hs : ∀ w', Below w.heap.size w w' → ∀ b, B = some b → ∀ j z, zs[j]? = some z → w'.cell? (b.add j) = some (.string z)) :
    Calls Try.prog 43 #[.slice A zs.length ca, .slice B zs.length cb] w fun e w' => e = .returned (.bool true) ∧ Below w.heap.size w w' := by
  by_cases h0 : zs = []
  · subst h0
    show Calls Try.prog 43 #[.slice A 0 ca, .slice B 0 cb] w _
    clear hA hB hr hs
    go_enter Try.func43, Try.ntmps43
    go_wp2
    go_loopw [5] (fun i wr => wr = w ∧ i = .int .i64 0) (fun i _ => 0)
    case atStart => exact ⟨rfl, rfl⟩
    case round =>
      obtain ⟨rfl, rfl⟩ := hrel
      go_wp2_with fail
      go_ret
      exact ⟨rfl, Below.refl _ _⟩
  · cases A with
    | none => exact absurd (hA rfl) h0
    | some a =>
      cases B with
      | none => exact absurd (hB rfl) h0
      | some b => exact names_eq a b zs ca cb w hz (fun w' h => hr w' h a rfl) (fun w' h => hs w' h b rfl)
theorem conv_rd {A : Option Addr} {c : Nat} {b : List UInt8} {w : World} (hA : A = none → c = 0) (hr : Reads w A b.length 1 (bv b)) : (convert 28 9 (.slice A b.length c)).run Try.prog w = .ok (.string ⟨b.toArray⟩) w := by
  cases A with
  | none =>
    obtain rfl := hA rfl
    have hb : b = [] := List.eq_nil_of_length_eq_zero (hr.2.1 rfl)
    subst hb
    rfl
  | some ad => exact run_convert_bytes_back (P := Try.prog) w 28 9 5 ad c b Try.underlying28 Try.underlying5 Try.underlying9 (fun j hj => hr.2.2 ad rfl j _ (by simp [bv, hj]))
theorem app_s {w0 w : World} {h F : Hp} {v : Value} {n : Nat} {xs : List Value} (R : RowB 9 1 v n xs h) (H : Holds w0 (h ++ F) w) (A : Option Addr) (m c : Nat) (hc : A = none → c = 0) (news : List Value) (hr : Reads w A m 1 news) (h1 : ∀ u ∈ news, u.oneCell' = true) (hn : n + m ≤ 100000) :
    ∃ v' h' w', (Builtin.append_ #[30, 30] 30 #[v, .slice A m c]).run Try.prog w = .ok v' w' ∧ RowB 9 1 v' (n + m) (xs ++ news) h' ∧ Holds w0 (h' ++ F) w' := by
  obtain ⟨i, hi, h⟩ := Option.map_eq_some_iff.1 (show (Try.prog.info? 9).map (fun i => (i.zero.isSome, i.size, i.bytes, (i.zero.getD undef).cells.size)) = some (true, 1, 16, 1) by kernel_rfl)
  obtain ⟨z, hz⟩ := Option.isSome_iff_exists.1 (congrArg (·.1) h)
  have hz1 := congrArg (·.2.2.2) h
  exact row_append (t := 30) R H 30 i z 16 Try.underlying30 hi hz (congrArg (·.2.1) h) (congrArg (·.2.2.1) h) (by simpa [hz] using hz1) (by decide) A m c hc news hr h1 (by have hmx : maxLen = 9223372036854775807 := rfl; omega) (by omega)
theorem rd_of {w0 w : World} {F h : Hp} {e : TypeId} {sz n c : Nat} {A : Option Addr} {xs : List Value} (R : RowB e sz (.slice A n c) n xs h) (H : Holds w0 (h ++ F) w) : Reads w A n sz xs := by
  obtain ⟨A0, c0, hv0, _, _, hrd⟩ := R.reads H
  injection hv0 with hv0 _ _
  subst hv0
  exact hrd
theorem FRw.rowA : ∀ {L : List (ByteArray × Fl)} {vs : List Value} {h : Hp}, FRw L vs h → ∀ j x, L[j]? = some x → ∃ B c, vs[j * 3 + 1]? = some (.slice B x.2.b.length c) ∧ (B = none → c = 0) ∧ ∀ (w0 : World) (F : Hp) (w : World), Holds w0 (h ++ F) w → Reads w B x.2.b.length 1 (bv x.2.b)
  | [], vs, h, H, j, x, hj => by simp at hj
  | y :: L, vs, h, H, 0, x, hj => by
    obtain ⟨v, hb, vs', h', R, FR, rfl, rfl⟩ := H
    obtain rfl : y = x := by simpa using hj
    obtain ⟨B, c, rfl, _, hBn⟩ := RowB.form R
    exact ⟨B, c, rfl, hBn, fun w0 F w hH => rd_of R (hH.congr (List.append_assoc _ _ _))⟩
  | y :: L, vs, h, H, j + 1, x, hj => by
    obtain ⟨v, hb, vs', h', R, FR, rfl, rfl⟩ := H
    obtain ⟨B, c, k1, k2, k3⟩ := FRw.rowA FR j x (by simpa using hj)
    refine ⟨B, c, ?_, k2, fun w0 F w hH => k3 w0 (hb ++ F) w (hH.perm (by classical rw [List.perm_iff_count]; intro a; simp only [List.count_append, List.count_cons, List.count_nil] <;> omega))⟩
    rw [show (j + 1) * 3 + 1 = (j * 3 + 1) + 3 by omega]
    exact k1
set_option maxRecDepth 100000 in
set_option maxHeartbeats 2000000 in
theorem rread2_calls (d : Nat) (m : DM) (h F : Hp) (s : ByteArray) (w0 w : World) (hcnt : m.fl.length ≤ 1000000000) (hI : IsR d m h) (H : Holds w0 (h ++ F) w) :
    Calls Try.prog 42 #[.pointer (some ⟨d, 0, none⟩), .string s] w fun e w' => (∃ B c, e = .returned (.tuple #[.slice B (readM m s).1.length c, .int .i64 (readM m s).2]) ∧ (B = none → c = 0) ∧ ∀ w2 G, Holds w0 (h ++ G) w2 → Reads w2 B (readM m s).1.length 1 (bv (readM m s).1)) ∧ w' = w := by
  obtain ⟨A, c, hd, hn, hr⟩ := hI.cells H
  have ho : w.cell? ⟨d, 2, none⟩ = some (.bool (!m.power)) := by
    obtain ⟨v, hL, vs, hf, R, FR, rfl⟩ := hI
    exact Holds.cell H 2
  have hrow : ∀ k x, m.fl[k]? = some x → ∃ gL B c', A = some ⟨gL, 0, none⟩ ∧ w.cell? ⟨gL, k * 3 + 1, none⟩ = some (.slice B x.2.b.length c') ∧ (B = none → c' = 0) ∧ ∀ w2 G, Holds w0 (h ++ G) w2 → Reads w2 B x.2.b.length 1 (bv x.2.b) := by
    intro k x hx
    cases A with
    | none => rw [hn rfl] at hx; simp at hx
    | some ad =>
      obtain ⟨gL, rfl, hcs⟩ := hr ad rfl
      obtain ⟨_, ⟨B, c', hc⟩, _⟩ := hcs k x hx
      obtain ⟨v, hL, vs, hf, R, FR, rfl⟩ := hI
      have h1 : Holds w0 (hL ++ (hf ++ F)) w := (H.tail).congr (by simp)
      obtain ⟨B2, c2, k1, k2, k3⟩ := FRw.rowA FR k x hx
      obtain ⟨A3, c3, rfl, _, _, hrr⟩ := R.reads h1
      have hd2 : w.cell? ⟨d, 1, none⟩ = some (.slice A3 m.fl.length c3) := Holds.cell H 1
      rw [hd] at hd2
      injection hd2 with hd2
      injection hd2 with e1 _ _
      have q := hrr.2.2 _ e1.symm _ _ k1
      have e2 : (⟨gL, 0, none⟩ : Addr).add (k * 3 + 1) = ⟨gL, k * 3 + 1, none⟩ := by simp [Addr.add]
      rw [e2, hc] at q
      injection q with q
      injection q with e3 _ e4
      subst e3
      subst e4
      exact ⟨gL, B, c', rfl, hc, k2, fun w2 G hG => k3 w0 G w2 ((hG.tail.congr (List.append_assoc _ _ _)).right)⟩
  have HA := Lib.hid (rask_calls d (!m.power) m.fl A c s w hcnt hd ho (fun ad hA j x hj => by
    obtain ⟨gL, rfl, hcs⟩ := hr ad hA
    have e2 : (⟨gL, 0, none⟩ : Addr).add (j * 3) = ⟨gL, j * 3, none⟩ := by simp [Addr.add]; omega
    rw [e2]
    exact (hcs j x hj).1) hn)
  have HROW := Lib.hid hrow
  clear hn hr hI H ho hrow
  rcases ask_cases m s with ⟨er, he0, hq, hq2⟩ | ⟨k, x, hx, hxs, hq, hq2⟩
  · have hrd : readM m s = ([], er) := by unfold readM; rw [hq2]
    rw [hq] at HA
    rw [hrd]
    have her : (er == 0) = false := by simpa using he0
    clear hrd hq hq2 he0
    go_enter Try.func42, Try.ntmps42
    go_wp2_with fail
    refine HA.out.mono ?_
    rintro e w' ⟨rfl, rfl⟩
    go_wp2_with fail
    exact bodyPost_ret (v := .tuple #[.slice none 0 0, .int .i64 er]) (by simp [results, Try.results42, go_sem]) rfl ⟨⟨none, 0, rfl, fun _ => rfl, fun _ _ _ => ⟨rfl, fun _ => rfl, fun _ h => by cases h⟩⟩, rfl⟩
  · have hrd : readM m s = (x.2.b, 0) := by unfold readM; rw [hq2]
    rw [hq] at HA
    rw [hrd]
    obtain ⟨gL, B, c', rfl, hc, hB, hrr⟩ := HROW.out k x hx
    have hlt : k < m.fl.length := (List.getElem?_eq_some_iff.mp hx).1
    have HRR := Lib.hid hrr
    clear hrd hq hq2 hrr hx hxs
    go_enter Try.func42, Try.ntmps42
    go_wp2_with fail
    refine HA.out.mono ?_
    rintro e w' ⟨rfl, rfl⟩
    go_wp2_with fail
    exact bodyPost_ret (v := .tuple #[.slice B x.2.b.length c', .int .i64 0]) (by simp [results, Try.results42, go_sem]) rfl ⟨⟨B, c', rfl, hB, HRR.out⟩, rfl⟩
set_option maxRecDepth 100000 in
set_option maxHeartbeats 8000000 in
theorem same_true (g d : Nat) (m : DM) (h hr F : Hp) (s : ByteArray) (w0 w : World) (hs : s.size ≤ 9223372036854775807) (hcnt : m.fl.length ≤ 9000) (hri : Rises m.fl) (hI : IsD g m h) (hR : IsR d m hr) (H : Holds w0 (h ++ (hr ++ F)) w) (hp : m.power = true) :
    Calls Try.prog 27 #[.pointer (some ⟨g, 0, none⟩), .pointer (some ⟨d, 0, none⟩), .string s] w fun e w' => e = .returned (.bool true) ∧ ∃ h', IsD g m h' ∧ Holds w0 (h' ++ (hr ++ F)) w' := by
  have HPW := Lib.hid hp
  have HIR := Lib.hid hR
  have HRI := Lib.hid hri
  have HRD0 := Lib.hid (read_calls g m h (hr ++ F) s w0 w hs hI H)
  have HRC2 := Lib.hid (fun w2 (G : Hp) (hG : Holds w0 (hr ++ G) w2) => show w2.cell? ⟨d, 2, none⟩ = some (.bool false) from by
    obtain ⟨v, hL, vs, hf, R, FR, rfl⟩ := hR
    have := Holds.cell hG 2
    rw [show (false : Bool) = !m.power by rw [hp]; rfl]
    exact this)
  have HRC3 := Lib.hid (fun w2 (G : Hp) (hG : Holds w0 (hr ++ G) w2) => show w2.cell? ⟨d, 3, none⟩ = some (.int .i64 m.lives) from by
    obtain ⟨v, hL, vs, hf, R, FR, rfl⟩ := hR
    exact Holds.cell hG 3)
  have HSM := Lib.hid (show sizeM m = (totM m.fl : Nat) by unfold sizeM; rw [hp]; rfl)
  obtain ⟨zs, hzs⟩ : ∃ zs : List ByteArray, zs = m.fl.map (·.1) := ⟨_, rfl⟩
  obtain ⟨nz, hnz⟩ : ∃ nz, zs.length = nz := ⟨_, rfl⟩
  have HNZ := Lib.hid hnz
  have hnz9 : nz ≤ 9000 := by rw [← hnz, hzs]; rw [List.length_map]; exact hcnt
  have HZS := Lib.hid hzs
  have HNMS := Lib.hid (show ∀ (v : Value) (hv : Hp), RowB 9 1 v (namesM m).length ((namesM m).map encStr) hv = RowB 9 1 v nz (zs.map Value.string) hv from fun v hv => by
    rw [names_rise hri, hp, ← hnz, hzs]
    simp only [if_true, List.length_map, List.map_map]; rfl)
  obtain ⟨bb, hbb⟩ : ∃ bb, bb = (readM m s).1 := ⟨_, rfl⟩
  obtain ⟨er, her⟩ : ∃ er, er = (readM m s).2 := ⟨_, rfl⟩
  rw [← hbb, ← her] at HRD0
  have HBB := Lib.hid hbb
  have HER := Lib.hid her
  clear hI hR H hri hp hzs hnz hbb her
  go_enter Try.func27, Try.ntmps27
  go_wp2_with fail
  refine HRD0.out.mono ?_
  rintro e w1 ⟨v1, rfl, hv1, hR1, h2, hI2, hH1⟩
  have HR1 := Lib.hid hR1
  have HI2 := Lib.hid hI2
  have HH1 := Lib.hid (show Holds w0 (h2 ++ (hv1 ++ (hr ++ F))) w1 from hH1)
  obtain ⟨A1, c1, rfl, _, _⟩ := RowB.form hR1
  clear hR1 hI2 hH1
  go_wp2_with fail
  have hrd := rread2_calls d m hr (h2 ++ (hv1 ++ F)) s w0 w1 (by omega) HIR.out (HH1.out.perm (by classical rw [List.perm_iff_count]; intro a; simp only [List.count_append, List.count_cons, List.count_nil] <;> omega))
  rw [← HBB.out, ← HER.out] at hrd
  refine hrd.mono ?_
  rintro e w2 ⟨⟨B2, c2, rfl, hB2, hrd2⟩, rfl⟩
  obtain ⟨nb, hnb⟩ : ∃ nb, bb.length = nb := ⟨_, rfl⟩
  have HNB := Lib.hid hnb
  rw [hnb]
  have HB2 := Lib.hid hB2
  have HRD := Lib.hid hrd2
  clear hrd hrd2 hnb hB2
  obtain ⟨v, hrw, vs, hf, hRW, hFW, hre⟩ := HIR.out
  have HRE := Lib.hid hre
  obtain ⟨A, c, rfl, _, hAn⟩ := RowB.form hRW
  have HNAMES := Lib.hid (fun w2 (G : Hp) (hG : Holds w0 (hr ++ G) w2) => show w2.cell? ⟨d, 1, none⟩ = some (.slice A m.fl.length c) ∧ ∀ ad, A = some ad → ∀ j x, m.fl[j]? = some x → w2.cell? (ad.add (j * 3)) = some (.string x.1) from by
    rw [HRE.out] at hG
    refine ⟨Holds.cell hG 1, fun ad ha j x hx => ?_⟩
    obtain ⟨A0, c0, hv0, _, _, hrd⟩ := hRW.reads (hG.perm (k := hrw ++ ((d, rO m (.slice A m.fl.length c)) :: (hf ++ G))) (by classical rw [List.perm_iff_count]; intro a; simp only [List.count_append, List.count_cons, List.count_nil] <;> omega))
    injection hv0 with hv0 _ _
    exact hrd.2.2 ad (hv0.symm.trans ha) _ _ (FRw.at_ hFW j x hx).1)
  have HAN := Lib.hid (show A = none → m.fl.length = 0 from fun ha => by
    obtain ⟨_, ⟨_, h0, _⟩ | ⟨g2, _, _, hv, _⟩⟩ := hRW
    · exact h0
    · injection hv with e1
      rw [ha] at e1; cases e1)
  obtain ⟨nf, hnf⟩ : ∃ nf, nf = m.fl.length := ⟨_, rfl⟩
  have HNF := Lib.hid hnf
  have hnf9 : nf ≤ 9000 := by omega
  have HCO := Lib.hid (fun w2 (G : Hp) (hG : Holds w0 (hr ++ G) w2) => show w2.cell? ⟨d, 2, none⟩ = some (.bool false) from HRC2.out w2 G hG)
  rw [← hnf] at HNAMES HAN
  clear hRW hFW hre hAn hnf
  have HSZ := Lib.hid (fun w2 (G : Hp) (hG : Holds w0 (hr ++ G) w2) (ht : totM m.fl ≤ 1000000000) => rsize_calls d m hr G w0 w2 (by omega) ht HIR.out hG)
  have HTB := Lib.hid (show totM m.fl ≤ 1000000000 by
    obtain ⟨_, _, _, _, _, _, _, _, hok⟩ := HI2.out
    have := hok.tot; have := hok.room; omega)
  have qo : w2.cell? ⟨d, 2, none⟩ = some (.bool false) := HCO.out w2 _ (HH1.out.perm (k := hr ++ (h2 ++ (hv1 ++ F))) (by classical rw [List.perm_iff_count]; intro a; simp only [List.count_append, List.count_cons, List.count_nil] <;> omega))
  go_wp2_with fail
  refine (HSZ.out w2 _ (HH1.out.perm (k := hr ++ (h2 ++ (hv1 ++ F))) (by classical rw [List.perm_iff_count]; intro a; simp only [List.count_append, List.count_cons, List.count_nil] <;> omega)) HTB.out).mono ?_
  rintro e w3 ⟨rfl, rfl⟩
  go_wp2_with fail
  go_loopw [11, 13] (fun l i wr => ∃ (k : Nat) (Al : Option Addr) (cl : Nat) (hl : Hp), k ≤ nf ∧ i = .int .i64 k ∧ l = .slice Al k cl ∧ RowB 9 1 (.slice Al k cl) k ((zs.take k).map Value.string) hl ∧ Holds w0 (h2 ++ (hv1 ++ (hr ++ (hl ++ F)))) wr) (fun _ i _ => nf - (intOf i).toNat)
  case atStart => exact ⟨0, none, 0, [], by omega, rfl, rfl, RowB.nil 9 1, HH1.out⟩
  case round =>
    obtain ⟨k, Al, cl, hl, hk, rfl, rfl, hRl, hHl⟩ := hrel
    have HRL := Lib.hid hRl
    have HH6 := Lib.hid hHl
    have hG := hHl.perm (k := hr ++ (h2 ++ (hv1 ++ (hl ++ F)))) (by classical rw [List.perm_iff_count]; intro a; simp only [List.count_append, List.count_cons, List.count_nil] <;> omega)
    have q1 := (HNAMES.out _ _ hG).1
    by_cases hlt : k < nf
    · have hki : (k : Int) < (nf : Int) := by omega
      obtain ⟨x, hx⟩ : ∃ x, m.fl[k]? = some x := ⟨_, List.getElem?_eq_getElem (by rw [← HNF.out]; exact hlt)⟩
      cases A with
      | none => have := HAN.out rfl; omega
      | some ad =>
      have q2 := (HNAMES.out _ _ hG).2 ad rfl k x hx
      have hzk : zs[k]? = some x.1 := by rw [HZS.out, List.getElem?_map, hx]; rfl
      obtain ⟨v8, h8, w8, r1, r2, r3⟩ := app_s hRl ((hHl.alloc (.cells #[.string x.1] 9)).perm (k := hl ++ ((wr.heap.size, .cells #[.string x.1] 9) :: (h2 ++ (hv1 ++ (hr ++ F))))) (by classical rw [List.perm_iff_count]; intro a; simp only [List.count_append, List.count_cons, List.count_nil] <;> omega)) (some ⟨wr.heap.size, 0, none⟩) 1 1 (fun h => by cases h) [.string x.1] (reads_one hHl x.1) (by simp [Value.oneCell']) (by omega)
      obtain ⟨A8, c8, rfl, _, _⟩ := RowB.form r2
      have HR8 := Lib.hid r1
      have HRR := Lib.hid (show RowB 9 1 (.slice A8 (k + 1) c8) (k + 1) ((zs.take (k + 1)).map Value.string) h8 by
        rw [List.take_add_one, hzk]
        simpa using r2)
      have HHN := Lib.hid (r3.perm (k := [(wr.heap.size, .cells #[.string x.1] 9)] ++ (h2 ++ (hv1 ++ (hr ++ (h8 ++ F))))) (by classical rw [List.perm_iff_count]; intro a; simp only [List.count_append, List.count_cons, List.count_nil] <;> omega))
      clear hRl hHl hG r1 r2 r3 hx hzk
      go_wp2_with ((with_reducible refine apL (.tmp 42) (.tmp 51) ?_ ?_ HR8.out ?_); rfl; rfl)
      go_roundw
      case rel => exact ⟨k + 1, A8, c8, h8, by omega, by go_num, rfl, HRR.out, HHN.out.right⟩
      case measure => simp [intOf]; omega
    · obtain rfl : nf = k := by omega
      have HLZ := Lib.hid (show zs.length = nf by rw [HZS.out, List.length_map, HNF.out])
      have e1 : nf = nz := by rw [← HLZ.out, HNZ.out]
      subst e1
      have HRL := Lib.hid (show RowB 9 1 (.slice Al nf cl) nf (zs.map Value.string) hl by
        have := hRl
        rwa [List.take_of_length_le (by rw [HLZ.out]; exact Nat.le_refl _)] at this)
      clear hRl hHl hG
      go_wp2_with fail
      refine wp_region_own 41 (fun k => match k with | 39 => [37] | _ => []) (by kernel_rfl) (by kernel_rfl) (by kernel_rfl) (by kernel_rfl) (Nat.le_of_ble_eq_true (by kernel_rfl)) w0 (fun Ls hs => ∃ h, IsD g m h ∧ hs = h ++ (hv1 ++ (hr ++ (hl ++ F)))) (fun i v h => match i with | 0 => v = .int .i64 er ∧ h = [] | 1 => v = .int .i64 er ∧ h = [] | 2 => v = .bool true ∧ h = [] | 3 => v = .bool true ∧ h = [] | 4 => v = .slice A1 nb c1 ∧ h = [] | 5 => v = .string ⟨bb.toArray⟩ ∧ h = [] | 6 => v = .slice B2 nb c2 ∧ h = [] | 7 => v = .string ⟨bb.toArray⟩ ∧ h = [] | 8 => v = .bool true ∧ h = [] | 9 => v = .bool true ∧ h = [] | 10 => v = .bool true ∧ h = [] | 11 => v = .pointer (some ⟨g, 0, none⟩) ∧ h = [] | 12 => v = .bool true ∧ h = [] | 13 => v = .pointer (some ⟨d, 0, none⟩) ∧ h = [] | 14 => v = .pointer (some ⟨d, 0, none⟩) ∧ h = [] | 15 => v = .pointer (some ⟨d, 2, none⟩) ∧ h = [] | 16 => v = .bool false ∧ h = [] | 17 => v = .bool true ∧ h = [] | 18 => v = .bool true ∧ h = [] | 19 => v = .bool true ∧ h = [] | 20 => v = .bool true ∧ h = [] | 21 => v = .pointer (some ⟨g, 0, none⟩) ∧ h = [] | 22 => v = .int .i64 m.lives ∧ h = [] | 23 => v = .pointer (some ⟨d, 0, none⟩) ∧ h = [] | 24 => v = .pointer (some ⟨d, 0, none⟩) ∧ h = [] | 25 => v = .pointer (some ⟨d, 3, none⟩) ∧ h = [] | 26 => v = .int .i64 m.lives ∧ h = [] | 27 => v = .bool true ∧ h = [] | 28 => v = .bool true ∧ h = [] | 29 => v = .bool true ∧ h = [] | 30 => v = .pointer (some ⟨g, 0, none⟩) ∧ h = [] | 31 => v = .int .i64 (totM m.fl : Nat) ∧ h = [] | 32 => v = .int .i64 (totM m.fl : Nat) ∧ h = [] | 33 => v = .bool true ∧ h = [] | 34 => v = .bool true ∧ h = [] | 35 => v = .bool true ∧ h = [] | 36 => v = .pointer (some ⟨g, 0, none⟩) ∧ h = [] | 37 => RowB 9 1 v nf (zs.map Value.string) h | 38 => v = .slice Al nf cl ∧ h = [] | 39 => v = .bool true ∧ h = [] | 40 => v = .bool true ∧ h = [] | _ => True) ((h2 ++ (hv1 ++ (hr ++ (hl ++ F))))) (⟨h2, HI2.out, rfl⟩) (HH6.out.drew) ?_ ?_
      · intro i o hi ho Ls f Hf hs R w1 hI hL hd hH
        simp only [fill, List.take_succ_cons, List.take_zero, Act.put, List.setIfInBounds_toArray, List.set_cons_zero, List.set_cons_succ]
        match i, hi with
        | 0, _ =>
          obtain rfl := Option.some.inj ho
          clear hd ho
          have hH : Holds w0 (hs ++ ([] ++ R)) w1 := hH
          obtain ⟨h, hC, rfl⟩ := hI
          unfold wpOp
          refine Or.inl ?_
          unfold Oper.wp
          go_simp
          exact OwnBy.mk _ _ _ rfl (⟨h, hC, rfl⟩) (⟨rfl, rfl⟩) (hH)
        | 1, _ =>
          obtain rfl := Option.some.inj ho
          clear hd ho
          have hH : Holds w0 (hs ++ ([] ++ R)) w1 := hH
          obtain ⟨h, hC, rfl⟩ := hI
          unfold wpOp
          refine Or.inl ?_
          unfold Oper.wp
          go_simp
          exact OwnBy.mk _ _ _ rfl (⟨h, hC, rfl⟩) (⟨rfl, rfl⟩) (hH)
        | 2, _ =>
          obtain rfl := Option.some.inj ho
          have e0 : f 0 = .int .i64 er := (hd ⟨0, .data⟩ (by simp) rfl).2.1
          have e1 : f 1 = .int .i64 er := (hd ⟨1, .data⟩ (by simp) rfl).2.1
          clear hd ho
          have hH : Holds w0 (hs ++ ([] ++ R)) w1 := hH
          obtain ⟨h, hC, rfl⟩ := hI
          unfold wpOp
          refine Or.inl ?_
          simp only [e0, e1]
          unfold Oper.wp
          go_simp
          exact OwnBy.mk _ _ _ rfl (⟨h, hC, rfl⟩) (⟨rfl, rfl⟩) (hH)
        | 3, _ =>
          obtain rfl := Option.some.inj ho
          have e2 : f 2 = .bool true := (hd ⟨2, .data⟩ (by simp) rfl).2.1
          clear hd ho
          have hH : Holds w0 (hs ++ ([] ++ R)) w1 := hH
          obtain ⟨h, hC, rfl⟩ := hI
          unfold wpOp
          refine Or.inl ?_
          simp only [e2]
          unfold Oper.wp
          go_simp
          exact OwnBy.mk _ _ _ rfl (⟨h, hC, rfl⟩) (⟨rfl, rfl⟩) (hH)
        | 4, _ =>
          obtain rfl := Option.some.inj ho
          have e3 : f 3 = .bool true := (hd ⟨3, .guard⟩ (by simp) rfl).2.1
          clear hd ho
          have hH : Holds w0 (hs ++ ([] ++ R)) w1 := hH
          obtain ⟨h, hC, rfl⟩ := hI
          unfold wpOp
          simp only [e3]
          refine Or.inl ?_
          unfold Oper.wp
          go_simp
          exact OwnBy.mk _ _ _ rfl (⟨h, hC, rfl⟩) (⟨rfl, rfl⟩) (hH)
        | 5, _ =>
          obtain rfl := Option.some.inj ho
          have e4 : f 4 = .slice A1 nb c1 := (hd ⟨4, .data⟩ (by simp) rfl).2.1
          have e3 : f 3 = .bool true := (hd ⟨3, .guard⟩ (by simp) rfl).2.1
          clear hd ho
          have hH : Holds w0 (hs ++ ([] ++ R)) w1 := hH
          obtain ⟨h, hC, rfl⟩ := hI
          unfold wpOp
          simp only [e4, e3]
          refine Or.inl ?_
          unfold Oper.wp
          have q := conv_str HR1.out (hH.perm (k := hv1 ++ (h ++ (hr ++ (hl ++ F)) ++ R)) (by classical rw [List.perm_iff_count]; intro a; simp only [List.count_append, List.count_cons, List.count_nil] <;> omega))
          rw [HNB.out] at q
          go_simp
          exact OwnBy.mk _ _ _ rfl (⟨h, hC, rfl⟩) (⟨rfl, rfl⟩) (hH)
        | 6, _ =>
          obtain rfl := Option.some.inj ho
          have e3 : f 3 = .bool true := (hd ⟨3, .guard⟩ (by simp) rfl).2.1
          clear hd ho
          have hH : Holds w0 (hs ++ ([] ++ R)) w1 := hH
          obtain ⟨h, hC, rfl⟩ := hI
          unfold wpOp
          simp only [e3]
          refine Or.inl ?_
          unfold Oper.wp
          go_simp
          exact OwnBy.mk _ _ _ rfl (⟨h, hC, rfl⟩) (⟨rfl, rfl⟩) (hH)
        | 7, _ =>
          obtain rfl := Option.some.inj ho
          have e6 : f 6 = .slice B2 nb c2 := (hd ⟨6, .data⟩ (by simp) rfl).2.1
          have e3 : f 3 = .bool true := (hd ⟨3, .guard⟩ (by simp) rfl).2.1
          clear hd ho
          have hH : Holds w0 (hs ++ ([] ++ R)) w1 := hH
          obtain ⟨h, hC, rfl⟩ := hI
          unfold wpOp
          simp only [e6, e3]
          refine Or.inl ?_
          unfold Oper.wp
          have q := conv_rd HB2.out (HRD.out w1 _ (hH.perm (k := hr ++ (h ++ (hv1 ++ (hl ++ F)) ++ R)) (by classical rw [List.perm_iff_count]; intro a; simp only [List.count_append, List.count_cons, List.count_nil] <;> omega)))
          rw [HNB.out] at q
          go_simp
          exact OwnBy.mk _ _ _ rfl (⟨h, hC, rfl⟩) (⟨rfl, rfl⟩) (hH)
        | 8, _ =>
          obtain rfl := Option.some.inj ho
          have e5 : f 5 = .string ⟨bb.toArray⟩ := (hd ⟨5, .data⟩ (by simp) rfl).2.1
          have e7 : f 7 = .string ⟨bb.toArray⟩ := (hd ⟨7, .data⟩ (by simp) rfl).2.1
          have e3 : f 3 = .bool true := (hd ⟨3, .guard⟩ (by simp) rfl).2.1
          clear hd ho
          have hH : Holds w0 (hs ++ ([] ++ R)) w1 := hH
          obtain ⟨h, hC, rfl⟩ := hI
          unfold wpOp
          simp only [e5, e7, e3]
          refine Or.inl ?_
          unfold Oper.wp
          go_simp
          exact OwnBy.mk _ _ _ rfl (⟨h, hC, rfl⟩) (⟨rfl, rfl⟩) (hH)
        | 9, _ =>
          obtain rfl := Option.some.inj ho
          have e3 : f 3 = .bool true := (hd ⟨3, .data⟩ (by simp) rfl).2.1
          have e8 : f 8 = .bool true := (hd ⟨8, .data⟩ (by simp) rfl).2.1
          clear hd ho
          have hH : Holds w0 (hs ++ ([] ++ R)) w1 := hH
          obtain ⟨h, hC, rfl⟩ := hI
          unfold wpOp
          refine Or.inl ?_
          simp only [e3, e8]
          unfold Oper.wp
          go_simp
          exact OwnBy.mk _ _ _ rfl (⟨h, hC, rfl⟩) (⟨rfl, rfl⟩) (hH)
        | 10, _ =>
          obtain rfl := Option.some.inj ho
          have e9 : f 9 = .bool true := (hd ⟨9, .data⟩ (by simp) rfl).2.1
          clear hd ho
          have hH : Holds w0 (hs ++ ([] ++ R)) w1 := hH
          obtain ⟨h, hC, rfl⟩ := hI
          unfold wpOp
          refine Or.inl ?_
          simp only [e9]
          unfold Oper.wp
          go_simp
          exact OwnBy.mk _ _ _ rfl (⟨h, hC, rfl⟩) (⟨rfl, rfl⟩) (hH)
        | 11, _ =>
          obtain rfl := Option.some.inj ho
          have e10 : f 10 = .bool true := (hd ⟨10, .guard⟩ (by simp) rfl).2.1
          clear hd ho
          have hH : Holds w0 (hs ++ ([] ++ R)) w1 := hH
          obtain ⟨h, hC, rfl⟩ := hI
          unfold wpOp
          simp only [e10]
          refine Or.inl ?_
          unfold Oper.wp
          go_simp
          exact OwnBy.mk _ _ _ rfl (⟨h, hC, rfl⟩) (⟨rfl, rfl⟩) (hH)
        | 12, _ =>
          obtain rfl := Option.some.inj ho
          have e11 : f 11 = .pointer (some ⟨g, 0, none⟩) := (hd ⟨11, .data⟩ (by simp) rfl).2.1
          have e10 : f 10 = .bool true := (hd ⟨10, .guard⟩ (by simp) rfl).2.1
          clear hd ho
          have hH : Holds w0 (hs ++ ([] ++ R)) w1 := hH
          obtain ⟨h, hC, rfl⟩ := hI
          unfold wpOp
          simp only [e11, e10]
          refine Or.inl ?_
          unfold Oper.wp
          have hc := power_calls g m h _ w0 w1 hC (hH.perm (k := h ++ ((hv1 ++ (hr ++ (hl ++ F))) ++ R)) (by classical rw [List.perm_iff_count]; intro a; simp only [List.count_append, List.count_cons, List.count_nil] <;> omega))
          rw [HPW.out] at hc
          go_simp
          refine hc.mono ?_
          rintro e w3 ⟨rfl, rfl⟩
          exact OwnBy.mk _ _ _ rfl (⟨h, hC, rfl⟩) (⟨rfl, rfl⟩) (hH)
        | 13, _ =>
          obtain rfl := Option.some.inj ho
          have e10 : f 10 = .bool true := (hd ⟨10, .guard⟩ (by simp) rfl).2.1
          clear hd ho
          have hH : Holds w0 (hs ++ ([] ++ R)) w1 := hH
          obtain ⟨h, hC, rfl⟩ := hI
          unfold wpOp
          simp only [e10]
          refine Or.inl ?_
          unfold Oper.wp
          go_simp
          exact OwnBy.mk _ _ _ rfl (⟨h, hC, rfl⟩) (⟨rfl, rfl⟩) (hH)
        | 14, _ =>
          obtain rfl := Option.some.inj ho
          have e13 : f 13 = .pointer (some ⟨d, 0, none⟩) := (hd ⟨13, .data⟩ (by simp) rfl).2.1
          have e10 : f 10 = .bool true := (hd ⟨10, .guard⟩ (by simp) rfl).2.1
          clear hd ho
          have hH : Holds w0 (hs ++ ([] ++ R)) w1 := hH
          obtain ⟨h, hC, rfl⟩ := hI
          unfold wpOp
          simp only [e13, e10]
          refine Or.inl ?_
          unfold Oper.wp
          go_simp
          exact OwnBy.mk _ _ _ rfl (⟨h, hC, rfl⟩) (⟨rfl, rfl⟩) (hH)
        | 15, _ =>
          obtain rfl := Option.some.inj ho
          have e14 : f 14 = .pointer (some ⟨d, 0, none⟩) := (hd ⟨14, .data⟩ (by simp) rfl).2.1
          have e10 : f 10 = .bool true := (hd ⟨10, .guard⟩ (by simp) rfl).2.1
          clear hd ho
          have hH : Holds w0 (hs ++ ([] ++ R)) w1 := hH
          obtain ⟨h, hC, rfl⟩ := hI
          unfold wpOp
          simp only [e14, e10]
          refine Or.inl ?_
          unfold Oper.wp
          go_simp
          exact OwnBy.mk _ _ _ rfl (⟨h, hC, rfl⟩) (⟨rfl, rfl⟩) (hH)
        | 16, _ =>
          obtain rfl := Option.some.inj ho
          have e15 : f 15 = .pointer (some ⟨d, 2, none⟩) := (hd ⟨15, .data⟩ (by simp) rfl).2.1
          have e10 : f 10 = .bool true := (hd ⟨10, .guard⟩ (by simp) rfl).2.1
          clear hd ho
          have hH : Holds w0 (hs ++ ([] ++ R)) w1 := hH
          obtain ⟨h, hC, rfl⟩ := hI
          unfold wpOp
          simp only [e15, e10]
          refine Or.inl ?_
          unfold Oper.wp
          have q := HRC2.out w1 _ (hH.perm (k := hr ++ (h ++ (hv1 ++ (hl ++ F)) ++ R)) (by classical rw [List.perm_iff_count]; intro a; simp only [List.count_append, List.count_cons, List.count_nil] <;> omega))
          go_simp
          exact OwnBy.mk _ _ _ rfl (⟨h, hC, rfl⟩) (⟨rfl, rfl⟩) (hH)
        | 17, _ =>
          obtain rfl := Option.some.inj ho
          have e16 : f 16 = .bool false := (hd ⟨16, .data⟩ (by simp) rfl).2.1
          have e10 : f 10 = .bool true := (hd ⟨10, .guard⟩ (by simp) rfl).2.1
          clear hd ho
          have hH : Holds w0 (hs ++ ([] ++ R)) w1 := hH
          obtain ⟨h, hC, rfl⟩ := hI
          unfold wpOp
          simp only [e16, e10]
          refine Or.inl ?_
          unfold Oper.wp
          go_simp
          exact OwnBy.mk _ _ _ rfl (⟨h, hC, rfl⟩) (⟨rfl, rfl⟩) (hH)
        | 18, _ =>
          obtain rfl := Option.some.inj ho
          have e12 : f 12 = .bool true := (hd ⟨12, .data⟩ (by simp) rfl).2.1
          have e17 : f 17 = .bool true := (hd ⟨17, .data⟩ (by simp) rfl).2.1
          have e10 : f 10 = .bool true := (hd ⟨10, .guard⟩ (by simp) rfl).2.1
          clear hd ho
          have hH : Holds w0 (hs ++ ([] ++ R)) w1 := hH
          obtain ⟨h, hC, rfl⟩ := hI
          unfold wpOp
          simp only [e12, e17, e10]
          refine Or.inl ?_
          unfold Oper.wp
          go_simp
          exact OwnBy.mk _ _ _ rfl (⟨h, hC, rfl⟩) (⟨rfl, rfl⟩) (hH)
        | 19, _ =>
          obtain rfl := Option.some.inj ho
          have e10 : f 10 = .bool true := (hd ⟨10, .data⟩ (by simp) rfl).2.1
          have e18 : f 18 = .bool true := (hd ⟨18, .data⟩ (by simp) rfl).2.1
          clear hd ho
          have hH : Holds w0 (hs ++ ([] ++ R)) w1 := hH
          obtain ⟨h, hC, rfl⟩ := hI
          unfold wpOp
          refine Or.inl ?_
          simp only [e10, e18]
          unfold Oper.wp
          go_simp
          exact OwnBy.mk _ _ _ rfl (⟨h, hC, rfl⟩) (⟨rfl, rfl⟩) (hH)
        | 20, _ =>
          obtain rfl := Option.some.inj ho
          have e19 : f 19 = .bool true := (hd ⟨19, .data⟩ (by simp) rfl).2.1
          clear hd ho
          have hH : Holds w0 (hs ++ ([] ++ R)) w1 := hH
          obtain ⟨h, hC, rfl⟩ := hI
          unfold wpOp
          refine Or.inl ?_
          simp only [e19]
          unfold Oper.wp
          go_simp
          exact OwnBy.mk _ _ _ rfl (⟨h, hC, rfl⟩) (⟨rfl, rfl⟩) (hH)
        | 21, _ =>
          obtain rfl := Option.some.inj ho
          have e20 : f 20 = .bool true := (hd ⟨20, .guard⟩ (by simp) rfl).2.1
          clear hd ho
          have hH : Holds w0 (hs ++ ([] ++ R)) w1 := hH
          obtain ⟨h, hC, rfl⟩ := hI
          unfold wpOp
          simp only [e20]
          refine Or.inl ?_
          unfold Oper.wp
          go_simp
          exact OwnBy.mk _ _ _ rfl (⟨h, hC, rfl⟩) (⟨rfl, rfl⟩) (hH)
        | 22, _ =>
          obtain rfl := Option.some.inj ho
          have e21 : f 21 = .pointer (some ⟨g, 0, none⟩) := (hd ⟨21, .data⟩ (by simp) rfl).2.1
          have e20 : f 20 = .bool true := (hd ⟨20, .guard⟩ (by simp) rfl).2.1
          clear hd ho
          have hH : Holds w0 (hs ++ ([] ++ R)) w1 := hH
          obtain ⟨h, hC, rfl⟩ := hI
          unfold wpOp
          simp only [e21, e20]
          refine Or.inl ?_
          unfold Oper.wp
          have hc := lives_calls g m h _ w0 w1 hC (hH.perm (k := h ++ ((hv1 ++ (hr ++ (hl ++ F))) ++ R)) (by classical rw [List.perm_iff_count]; intro a; simp only [List.count_append, List.count_cons, List.count_nil] <;> omega))
          go_simp
          refine hc.mono ?_
          rintro e w3 ⟨rfl, rfl⟩
          exact OwnBy.mk _ _ _ rfl (⟨h, hC, rfl⟩) (⟨rfl, rfl⟩) (hH)
        | 23, _ =>
          obtain rfl := Option.some.inj ho
          have e20 : f 20 = .bool true := (hd ⟨20, .guard⟩ (by simp) rfl).2.1
          clear hd ho
          have hH : Holds w0 (hs ++ ([] ++ R)) w1 := hH
          obtain ⟨h, hC, rfl⟩ := hI
          unfold wpOp
          simp only [e20]
          refine Or.inl ?_
          unfold Oper.wp
          go_simp
          exact OwnBy.mk _ _ _ rfl (⟨h, hC, rfl⟩) (⟨rfl, rfl⟩) (hH)
        | 24, _ =>
          obtain rfl := Option.some.inj ho
          have e23 : f 23 = .pointer (some ⟨d, 0, none⟩) := (hd ⟨23, .data⟩ (by simp) rfl).2.1
          have e20 : f 20 = .bool true := (hd ⟨20, .guard⟩ (by simp) rfl).2.1
          clear hd ho
          have hH : Holds w0 (hs ++ ([] ++ R)) w1 := hH
          obtain ⟨h, hC, rfl⟩ := hI
          unfold wpOp
          simp only [e23, e20]
          refine Or.inl ?_
          unfold Oper.wp
          go_simp
          exact OwnBy.mk _ _ _ rfl (⟨h, hC, rfl⟩) (⟨rfl, rfl⟩) (hH)
        | 25, _ =>
          obtain rfl := Option.some.inj ho
          have e24 : f 24 = .pointer (some ⟨d, 0, none⟩) := (hd ⟨24, .data⟩ (by simp) rfl).2.1
          have e20 : f 20 = .bool true := (hd ⟨20, .guard⟩ (by simp) rfl).2.1
          clear hd ho
          have hH : Holds w0 (hs ++ ([] ++ R)) w1 := hH
          obtain ⟨h, hC, rfl⟩ := hI
          unfold wpOp
          simp only [e24, e20]
          refine Or.inl ?_
          unfold Oper.wp
          go_simp
          exact OwnBy.mk _ _ _ rfl (⟨h, hC, rfl⟩) (⟨rfl, rfl⟩) (hH)
        | 26, _ =>
          obtain rfl := Option.some.inj ho
          have e25 : f 25 = .pointer (some ⟨d, 3, none⟩) := (hd ⟨25, .data⟩ (by simp) rfl).2.1
          have e20 : f 20 = .bool true := (hd ⟨20, .guard⟩ (by simp) rfl).2.1
          clear hd ho
          have hH : Holds w0 (hs ++ ([] ++ R)) w1 := hH
          obtain ⟨h, hC, rfl⟩ := hI
          unfold wpOp
          simp only [e25, e20]
          refine Or.inl ?_
          unfold Oper.wp
          have q := HRC3.out w1 _ (hH.perm (k := hr ++ (h ++ (hv1 ++ (hl ++ F)) ++ R)) (by classical rw [List.perm_iff_count]; intro a; simp only [List.count_append, List.count_cons, List.count_nil] <;> omega))
          go_simp
          exact OwnBy.mk _ _ _ rfl (⟨h, hC, rfl⟩) (⟨rfl, rfl⟩) (hH)
        | 27, _ =>
          obtain rfl := Option.some.inj ho
          have e22 : f 22 = .int .i64 m.lives := (hd ⟨22, .data⟩ (by simp) rfl).2.1
          have e26 : f 26 = .int .i64 m.lives := (hd ⟨26, .data⟩ (by simp) rfl).2.1
          have e20 : f 20 = .bool true := (hd ⟨20, .guard⟩ (by simp) rfl).2.1
          clear hd ho
          have hH : Holds w0 (hs ++ ([] ++ R)) w1 := hH
          obtain ⟨h, hC, rfl⟩ := hI
          unfold wpOp
          simp only [e22, e26, e20]
          refine Or.inl ?_
          unfold Oper.wp
          go_simp
          exact OwnBy.mk _ _ _ rfl (⟨h, hC, rfl⟩) (⟨rfl, rfl⟩) (hH)
        | 28, _ =>
          obtain rfl := Option.some.inj ho
          have e20 : f 20 = .bool true := (hd ⟨20, .data⟩ (by simp) rfl).2.1
          have e27 : f 27 = .bool true := (hd ⟨27, .data⟩ (by simp) rfl).2.1
          clear hd ho
          have hH : Holds w0 (hs ++ ([] ++ R)) w1 := hH
          obtain ⟨h, hC, rfl⟩ := hI
          unfold wpOp
          refine Or.inl ?_
          simp only [e20, e27]
          unfold Oper.wp
          go_simp
          exact OwnBy.mk _ _ _ rfl (⟨h, hC, rfl⟩) (⟨rfl, rfl⟩) (hH)
        | 29, _ =>
          obtain rfl := Option.some.inj ho
          have e28 : f 28 = .bool true := (hd ⟨28, .data⟩ (by simp) rfl).2.1
          clear hd ho
          have hH : Holds w0 (hs ++ ([] ++ R)) w1 := hH
          obtain ⟨h, hC, rfl⟩ := hI
          unfold wpOp
          refine Or.inl ?_
          simp only [e28]
          unfold Oper.wp
          go_simp
          exact OwnBy.mk _ _ _ rfl (⟨h, hC, rfl⟩) (⟨rfl, rfl⟩) (hH)
        | 30, _ =>
          obtain rfl := Option.some.inj ho
          have e29 : f 29 = .bool true := (hd ⟨29, .guard⟩ (by simp) rfl).2.1
          clear hd ho
          have hH : Holds w0 (hs ++ ([] ++ R)) w1 := hH
          obtain ⟨h, hC, rfl⟩ := hI
          unfold wpOp
          simp only [e29]
          refine Or.inl ?_
          unfold Oper.wp
          go_simp
          exact OwnBy.mk _ _ _ rfl (⟨h, hC, rfl⟩) (⟨rfl, rfl⟩) (hH)
        | 31, _ =>
          obtain rfl := Option.some.inj ho
          have e30 : f 30 = .pointer (some ⟨g, 0, none⟩) := (hd ⟨30, .data⟩ (by simp) rfl).2.1
          have e29 : f 29 = .bool true := (hd ⟨29, .guard⟩ (by simp) rfl).2.1
          clear hd ho
          have hH : Holds w0 (hs ++ ([] ++ R)) w1 := hH
          obtain ⟨h, hC, rfl⟩ := hI
          unfold wpOp
          simp only [e30, e29]
          refine Or.inl ?_
          unfold Oper.wp
          have hc := size_calls g m h _ w0 w1 hC (hH.perm (k := h ++ ((hv1 ++ (hr ++ (hl ++ F))) ++ R)) (by classical rw [List.perm_iff_count]; intro a; simp only [List.count_append, List.count_cons, List.count_nil] <;> omega))
          rw [HSM.out] at hc
          go_simp
          refine hc.mono ?_
          rintro e w3 ⟨rfl, h3, hC3, hH3⟩
          exact OwnBy.mk _ [] _ rfl ⟨h3, hC3, rfl⟩ ⟨rfl, rfl⟩ (hH3.perm (by classical rw [List.perm_iff_count]; intro a; simp only [List.count_append, List.count_cons, List.count_nil] <;> omega))
        | 32, _ =>
          obtain rfl := Option.some.inj ho
          have e29 : f 29 = .bool true := (hd ⟨29, .guard⟩ (by simp) rfl).2.1
          clear hd ho
          have hH : Holds w0 (hs ++ ([] ++ R)) w1 := hH
          obtain ⟨h, hC, rfl⟩ := hI
          unfold wpOp
          simp only [e29]
          refine Or.inl ?_
          unfold Oper.wp
          go_simp
          exact OwnBy.mk _ _ _ rfl (⟨h, hC, rfl⟩) (⟨rfl, rfl⟩) (hH)
        | 33, _ =>
          obtain rfl := Option.some.inj ho
          have e31 : f 31 = .int .i64 (totM m.fl : Nat) := (hd ⟨31, .data⟩ (by simp) rfl).2.1
          have e32 : f 32 = .int .i64 (totM m.fl : Nat) := (hd ⟨32, .data⟩ (by simp) rfl).2.1
          have e29 : f 29 = .bool true := (hd ⟨29, .guard⟩ (by simp) rfl).2.1
          clear hd ho
          have hH : Holds w0 (hs ++ ([] ++ R)) w1 := hH
          obtain ⟨h, hC, rfl⟩ := hI
          unfold wpOp
          simp only [e31, e32, e29]
          refine Or.inl ?_
          unfold Oper.wp
          go_simp
          exact OwnBy.mk _ _ _ rfl (⟨h, hC, rfl⟩) (⟨rfl, rfl⟩) (hH)
        | 34, _ =>
          obtain rfl := Option.some.inj ho
          have e29 : f 29 = .bool true := (hd ⟨29, .data⟩ (by simp) rfl).2.1
          have e33 : f 33 = .bool true := (hd ⟨33, .data⟩ (by simp) rfl).2.1
          clear hd ho
          have hH : Holds w0 (hs ++ ([] ++ R)) w1 := hH
          obtain ⟨h, hC, rfl⟩ := hI
          unfold wpOp
          refine Or.inl ?_
          simp only [e29, e33]
          unfold Oper.wp
          go_simp
          exact OwnBy.mk _ _ _ rfl (⟨h, hC, rfl⟩) (⟨rfl, rfl⟩) (hH)
        | 35, _ =>
          obtain rfl := Option.some.inj ho
          have e34 : f 34 = .bool true := (hd ⟨34, .data⟩ (by simp) rfl).2.1
          clear hd ho
          have hH : Holds w0 (hs ++ ([] ++ R)) w1 := hH
          obtain ⟨h, hC, rfl⟩ := hI
          unfold wpOp
          refine Or.inl ?_
          simp only [e34]
          unfold Oper.wp
          go_simp
          exact OwnBy.mk _ _ _ rfl (⟨h, hC, rfl⟩) (⟨rfl, rfl⟩) (hH)
        | 36, _ =>
          obtain rfl := Option.some.inj ho
          have e35 : f 35 = .bool true := (hd ⟨35, .guard⟩ (by simp) rfl).2.1
          clear hd ho
          have hH : Holds w0 (hs ++ ([] ++ R)) w1 := hH
          obtain ⟨h, hC, rfl⟩ := hI
          unfold wpOp
          simp only [e35]
          refine Or.inl ?_
          unfold Oper.wp
          go_simp
          exact OwnBy.mk _ _ _ rfl (⟨h, hC, rfl⟩) (⟨rfl, rfl⟩) (hH)
        | 37, _ =>
          obtain rfl := Option.some.inj ho
          have e36 : f 36 = .pointer (some ⟨g, 0, none⟩) := (hd ⟨36, .data⟩ (by simp) rfl).2.1
          have e35 : f 35 = .bool true := (hd ⟨35, .guard⟩ (by simp) rfl).2.1
          clear hd ho
          have hH : Holds w0 (hs ++ ([] ++ R)) w1 := hH
          obtain ⟨h, hC, rfl⟩ := hI
          unfold wpOp
          simp only [e36, e35]
          refine Or.inl ?_
          unfold Oper.wp
          have hc := names_calls g m h _ w0 w1 (by omega) hC (hH.perm (k := h ++ ((hv1 ++ (hr ++ (hl ++ F))) ++ R)) (by classical rw [List.perm_iff_count]; intro a; simp only [List.count_append, List.count_cons, List.count_nil] <;> omega))
          go_simp
          refine hc.mono ?_
          rintro e w3 ⟨v, rfl, hv, hR3, h3, hC3, hH3⟩
          exact OwnBy.mk v hv _ rfl ⟨h3, hC3, rfl⟩ (by have := hR3; rw [HNMS.out] at this; exact this) (hH3.perm (by classical rw [List.perm_iff_count]; intro a; simp only [List.count_append, List.count_cons, List.count_nil] <;> omega))
        | 38, _ =>
          obtain rfl := Option.some.inj ho
          have e35 : f 35 = .bool true := (hd ⟨35, .guard⟩ (by simp) rfl).2.1
          clear hd ho
          have hH : Holds w0 (hs ++ ([] ++ R)) w1 := hH
          obtain ⟨h, hC, rfl⟩ := hI
          unfold wpOp
          simp only [e35]
          refine Or.inl ?_
          unfold Oper.wp
          go_simp
          exact OwnBy.mk _ _ _ rfl (⟨h, hC, rfl⟩) (⟨rfl, rfl⟩) (hH)
        | 39, _ =>
          obtain rfl := Option.some.inj ho
          have e37 := (hd ⟨37, .data⟩ (by simp) rfl).2
          obtain ⟨A37, c37, q37, _, hn37⟩ := RowB.form e37
          have e38 : f 38 = .slice Al nf cl := (hd ⟨38, .data⟩ (by simp) rfl).2.1
          have e35 : f 35 = .bool true := (hd ⟨35, .guard⟩ (by simp) rfl).2.1
          clear hd ho
          have hH : Holds w0 (hs ++ ((Hf 37 ++ ([])) ++ R)) w1 := hH
          simp only [List.append_nil, List.append_assoc] at hH
          obtain ⟨h, hC, rfl⟩ := hI
          unfold wpOp
          simp only [e38, e35]
          refine Or.inl ?_
          unfold Oper.wp
          rw [q37] at e37
          rw [q37]
          have hh1 := hH.perm (k := Hf 37 ++ (h ++ (hv1 ++ (hr ++ (hl ++ F))) ++ R)) (by classical rw [List.perm_iff_count]; intro a; simp only [List.count_append, List.count_cons, List.count_nil] <;> omega)
          have hh2 := hH.perm (k := hl ++ (h ++ (hv1 ++ (hr ++ (Hf 37 ++ F))) ++ R)) (by classical rw [List.perm_iff_count]; intro a; simp only [List.count_append, List.count_cons, List.count_nil] <;> omega)
          have hc := names_gen A37 Al zs c37 cl w1 (by rw [HNZ.out]; omega) (fun hA => by have := (rd_of e37 hh1).2.1 hA; exact List.eq_nil_of_length_eq_zero (by rw [HNZ.out]; exact this)) (fun hA => by have := (rd_of HRL.out hh2).2.1 hA; exact List.eq_nil_of_length_eq_zero (by rw [HNZ.out]; exact this)) (fun w2 hb a ha j z hz => (rd_of e37 (hh1.grow hb)).2.2 a ha j _ (by simp [hz])) (fun w2 hb a ha j z hz => (rd_of HRL.out (hh2.grow hb)).2.2 a ha j _ (by simp [hz]))
          rw [HNZ.out] at hc
          have HC := Lib.hid hc
          clear hc hh1 hh2
          go_simp
          refine HC.out.mono ?_
          rintro e w3 ⟨rfl, hb⟩
          exact OwnBy.mk _ [] _ rfl ⟨h, hC, rfl⟩ ⟨rfl, rfl⟩ (((hH.grow hb).perm (k := Hf 37 ++ ((h ++ (hv1 ++ (hr ++ (hl ++ F)))) ++ R)) (by classical rw [List.perm_iff_count]; intro a; simp only [List.count_append, List.count_cons, List.count_nil] <;> omega)).right)
        | 40, _ =>
          obtain rfl := Option.some.inj ho
          have e35 : f 35 = .bool true := (hd ⟨35, .data⟩ (by simp) rfl).2.1
          have e39 : f 39 = .bool true := (hd ⟨39, .data⟩ (by simp) rfl).2.1
          clear hd ho
          have hH : Holds w0 (hs ++ ([] ++ R)) w1 := hH
          obtain ⟨h, hC, rfl⟩ := hI
          unfold wpOp
          refine Or.inl ?_
          simp only [e35, e39]
          unfold Oper.wp
          go_simp
          exact OwnBy.mk _ _ _ rfl (⟨h, hC, rfl⟩) (⟨rfl, rfl⟩) (hH)
        | _ + 41, h41 => exact absurd h41 (by omega)
      · intro Ls f Hf hs w1 hI hL hV hH
        have e0 : f 0 = .int .i64 er := (hV 0 (by decide)).1
        have e1 : f 1 = .int .i64 er := (hV 1 (by decide)).1
        have e2 : f 2 = .bool true := (hV 2 (by decide)).1
        have e3 : f 3 = .bool true := (hV 3 (by decide)).1
        have e4 : f 4 = .slice A1 nb c1 := (hV 4 (by decide)).1
        have e5 : f 5 = .string ⟨bb.toArray⟩ := (hV 5 (by decide)).1
        have e6 : f 6 = .slice B2 nb c2 := (hV 6 (by decide)).1
        have e7 : f 7 = .string ⟨bb.toArray⟩ := (hV 7 (by decide)).1
        have e8 : f 8 = .bool true := (hV 8 (by decide)).1
        have e9 : f 9 = .bool true := (hV 9 (by decide)).1
        have e10 : f 10 = .bool true := (hV 10 (by decide)).1
        have e11 : f 11 = .pointer (some ⟨g, 0, none⟩) := (hV 11 (by decide)).1
        have e12 : f 12 = .bool true := (hV 12 (by decide)).1
        have e13 : f 13 = .pointer (some ⟨d, 0, none⟩) := (hV 13 (by decide)).1
        have e14 : f 14 = .pointer (some ⟨d, 0, none⟩) := (hV 14 (by decide)).1
        have e15 : f 15 = .pointer (some ⟨d, 2, none⟩) := (hV 15 (by decide)).1
        have e16 : f 16 = .bool false := (hV 16 (by decide)).1
        have e17 : f 17 = .bool true := (hV 17 (by decide)).1
        have e18 : f 18 = .bool true := (hV 18 (by decide)).1
        have e19 : f 19 = .bool true := (hV 19 (by decide)).1
        have e20 : f 20 = .bool true := (hV 20 (by decide)).1
        have e21 : f 21 = .pointer (some ⟨g, 0, none⟩) := (hV 21 (by decide)).1
        have e22 : f 22 = .int .i64 m.lives := (hV 22 (by decide)).1
        have e23 : f 23 = .pointer (some ⟨d, 0, none⟩) := (hV 23 (by decide)).1
        have e24 : f 24 = .pointer (some ⟨d, 0, none⟩) := (hV 24 (by decide)).1
        have e25 : f 25 = .pointer (some ⟨d, 3, none⟩) := (hV 25 (by decide)).1
        have e26 : f 26 = .int .i64 m.lives := (hV 26 (by decide)).1
        have e27 : f 27 = .bool true := (hV 27 (by decide)).1
        have e28 : f 28 = .bool true := (hV 28 (by decide)).1
        have e29 : f 29 = .bool true := (hV 29 (by decide)).1
        have e30 : f 30 = .pointer (some ⟨g, 0, none⟩) := (hV 30 (by decide)).1
        have e31 : f 31 = .int .i64 (totM m.fl : Nat) := (hV 31 (by decide)).1
        have e32 : f 32 = .int .i64 (totM m.fl : Nat) := (hV 32 (by decide)).1
        have e33 : f 33 = .bool true := (hV 33 (by decide)).1
        have e34 : f 34 = .bool true := (hV 34 (by decide)).1
        have e35 : f 35 = .bool true := (hV 35 (by decide)).1
        have e36 : f 36 = .pointer (some ⟨g, 0, none⟩) := (hV 36 (by decide)).1
        have e37 := hV 37 (by decide)
        obtain ⟨A37, c37, q37, _, hn37⟩ := RowB.form e37
        have e38 : f 38 = .slice Al nf cl := (hV 38 (by decide)).1
        have e39 : f 39 = .bool true := (hV 39 (by decide)).1
        have e40 : f 40 = .bool true := (hV 40 (by decide)).1
        clear hV
        have hH : Holds w0 (hs ++ []) w1 := hH
        simp only [fill, List.take_succ_cons, List.take_zero, List.drop_succ_cons, List.drop_zero, Act.put, List.setIfInBounds_toArray, List.set_cons_zero, List.set_cons_succ, e0, e1, e2, e3, e4, e5, e6, e7, e8, e9, e10, e11, e12, e13, e14, e15, e16, e17, e18, e19, e20, e21, e22, e23, e24, e25, e26, e27, e28, e29, e30, e31, e32, e33, e34, e35, e36, e38, e39, e40]
        obtain ⟨h9, hC9, rfl⟩ := hI
        have HC9 := Lib.hid hC9
        have HH9 := Lib.hid hH
        clear hL hH hC9
        go_wp2_with fail
        go_ret
        exact ⟨rfl, h9, HC9.out, (HH9.out.perm (k := hv1 ++ (hl ++ (h9 ++ (hr ++ F)))) (by classical rw [List.perm_iff_count]; intro a; simp only [List.count_append, List.count_cons, List.count_nil] <;> omega)).right.right⟩
set_option maxRecDepth 100000 in
set_option maxHeartbeats 8000000 in
theorem same_false (g d : Nat) (m : DM) (h hr F : Hp) (s : ByteArray) (w0 w : World) (hs : s.size ≤ 9223372036854775807) (hcnt : m.fl.length ≤ 9000) (hri : Rises m.fl) (hI : IsD g m h) (hR : IsR d m hr) (H : Holds w0 (h ++ (hr ++ F)) w) (hp : m.power = false) :
    Calls Try.prog 27 #[.pointer (some ⟨g, 0, none⟩), .pointer (some ⟨d, 0, none⟩), .string s] w fun e w' => e = .returned (.bool true) ∧ ∃ h', IsD g m h' ∧ Holds w0 (h' ++ (hr ++ F)) w' := by
  have HPW := Lib.hid hp
  have HIR := Lib.hid hR
  have HRI := Lib.hid hri
  have HRD0 := Lib.hid (read_calls g m h (hr ++ F) s w0 w hs hI H)
  have HRC2 := Lib.hid (fun w2 (G : Hp) (hG : Holds w0 (hr ++ G) w2) => show w2.cell? ⟨d, 2, none⟩ = some (.bool true) from by
    obtain ⟨v, hL, vs, hf, R, FR, rfl⟩ := hR
    have := Holds.cell hG 2
    rw [show (true : Bool) = !m.power by rw [hp]; rfl]
    exact this)
  have HRC3 := Lib.hid (fun w2 (G : Hp) (hG : Holds w0 (hr ++ G) w2) => show w2.cell? ⟨d, 3, none⟩ = some (.int .i64 m.lives) from by
    obtain ⟨v, hL, vs, hf, R, FR, rfl⟩ := hR
    exact Holds.cell hG 3)
  have HSM := Lib.hid (show sizeM m = 0 by unfold sizeM; rw [hp]; rfl)
  obtain ⟨zs, hzs⟩ : ∃ zs : List ByteArray, zs = [] := ⟨_, rfl⟩
  obtain ⟨nz, hnz⟩ : ∃ nz, zs.length = nz := ⟨_, rfl⟩
  have HNZ := Lib.hid hnz
  have hnz9 : nz ≤ 9000 := by rw [← hnz, hzs]; exact Nat.zero_le _
  have HZS := Lib.hid hzs
  have HNMS := Lib.hid (show ∀ (v : Value) (hv : Hp), RowB 9 1 v (namesM m).length ((namesM m).map encStr) hv = RowB 9 1 v nz (zs.map Value.string) hv from fun v hv => by
    rw [names_rise hri, hp, ← hnz, hzs]
    rfl)
  obtain ⟨bb, hbb⟩ : ∃ bb, bb = (readM m s).1 := ⟨_, rfl⟩
  obtain ⟨er, her⟩ : ∃ er, er = (readM m s).2 := ⟨_, rfl⟩
  rw [← hbb, ← her] at HRD0
  have HBB := Lib.hid hbb
  have HER := Lib.hid her
  clear hI hR H hri hp hzs hnz hbb her
  go_enter Try.func27, Try.ntmps27
  go_wp2_with fail
  refine HRD0.out.mono ?_
  rintro e w1 ⟨v1, rfl, hv1, hR1, h2, hI2, hH1⟩
  have HR1 := Lib.hid hR1
  have HI2 := Lib.hid hI2
  have HH1 := Lib.hid (show Holds w0 (h2 ++ (hv1 ++ (hr ++ F))) w1 from hH1)
  obtain ⟨A1, c1, rfl, _, _⟩ := RowB.form hR1
  clear hR1 hI2 hH1
  go_wp2_with fail
  have hrd := rread2_calls d m hr (h2 ++ (hv1 ++ F)) s w0 w1 (by omega) HIR.out (HH1.out.perm (by classical rw [List.perm_iff_count]; intro a; simp only [List.count_append, List.count_cons, List.count_nil] <;> omega))
  rw [← HBB.out, ← HER.out] at hrd
  refine hrd.mono ?_
  rintro e w2 ⟨⟨B2, c2, rfl, hB2, hrd2⟩, rfl⟩
  obtain ⟨nb, hnb⟩ : ∃ nb, bb.length = nb := ⟨_, rfl⟩
  have HNB := Lib.hid hnb
  rw [hnb]
  have HB2 := Lib.hid hB2
  have HRD := Lib.hid hrd2
  clear hrd hrd2 hnb hB2
  have HH6 := Lib.hid (show Holds w0 (h2 ++ (hv1 ++ (hr ++ ([] ++ F)))) w2 from HH1.out)
  have qo : w2.cell? ⟨d, 2, none⟩ = some (.bool true) := HRC2.out w2 _ (HH1.out.perm (k := hr ++ (h2 ++ (hv1 ++ F))) (by classical rw [List.perm_iff_count]; intro a; simp only [List.count_append, List.count_cons, List.count_nil] <;> omega))
  obtain ⟨Al, hAl⟩ : ∃ Al : Option Addr, Al = none := ⟨_, rfl⟩
  obtain ⟨cl, hcl⟩ : ∃ cl : Nat, cl = 0 := ⟨_, rfl⟩
  obtain ⟨hl, hhl⟩ : ∃ hl : Hp, hl = [] := ⟨_, rfl⟩
  have HRL := Lib.hid (show RowB 9 1 (.slice Al nz cl) nz (zs.map Value.string) hl by
    rw [hAl, hcl, hhl, ← HNZ.out, HZS.out]
    exact RowB.nil 9 1)
  have HH6 := Lib.hid (show Holds w0 (h2 ++ (hv1 ++ (hr ++ (hl ++ F)))) w2 by rw [hhl]; exact HH1.out)
  have HSL := Lib.hid (show (Value.slice none 0 0) = .slice Al nz cl by rw [hAl, hcl, ← HNZ.out, HZS.out]; rfl)
  clear hAl hcl hhl
  go_wp2_with fail
  rw [HSL.out]
  refine wp_region_own 41 (fun k => match k with | 39 => [37] | _ => []) (by kernel_rfl) (by kernel_rfl) (by kernel_rfl) (by kernel_rfl) (Nat.le_of_ble_eq_true (by kernel_rfl)) w0 (fun Ls hs => ∃ h, IsD g m h ∧ hs = h ++ (hv1 ++ (hr ++ (hl ++ F)))) (fun i v h => match i with | 0 => v = .int .i64 er ∧ h = [] | 1 => v = .int .i64 er ∧ h = [] | 2 => v = .bool true ∧ h = [] | 3 => v = .bool true ∧ h = [] | 4 => v = .slice A1 nb c1 ∧ h = [] | 5 => v = .string ⟨bb.toArray⟩ ∧ h = [] | 6 => v = .slice B2 nb c2 ∧ h = [] | 7 => v = .string ⟨bb.toArray⟩ ∧ h = [] | 8 => v = .bool true ∧ h = [] | 9 => v = .bool true ∧ h = [] | 10 => v = .bool true ∧ h = [] | 11 => v = .pointer (some ⟨g, 0, none⟩) ∧ h = [] | 12 => v = .bool false ∧ h = [] | 13 => v = .pointer (some ⟨d, 0, none⟩) ∧ h = [] | 14 => v = .pointer (some ⟨d, 0, none⟩) ∧ h = [] | 15 => v = .pointer (some ⟨d, 2, none⟩) ∧ h = [] | 16 => v = .bool true ∧ h = [] | 17 => v = .bool false ∧ h = [] | 18 => v = .bool true ∧ h = [] | 19 => v = .bool true ∧ h = [] | 20 => v = .bool true ∧ h = [] | 21 => v = .pointer (some ⟨g, 0, none⟩) ∧ h = [] | 22 => v = .int .i64 m.lives ∧ h = [] | 23 => v = .pointer (some ⟨d, 0, none⟩) ∧ h = [] | 24 => v = .pointer (some ⟨d, 0, none⟩) ∧ h = [] | 25 => v = .pointer (some ⟨d, 3, none⟩) ∧ h = [] | 26 => v = .int .i64 m.lives ∧ h = [] | 27 => v = .bool true ∧ h = [] | 28 => v = .bool true ∧ h = [] | 29 => v = .bool true ∧ h = [] | 30 => v = .pointer (some ⟨g, 0, none⟩) ∧ h = [] | 31 => v = .int .i64 0 ∧ h = [] | 32 => v = .int .i64 0 ∧ h = [] | 33 => v = .bool true ∧ h = [] | 34 => v = .bool true ∧ h = [] | 35 => v = .bool true ∧ h = [] | 36 => v = .pointer (some ⟨g, 0, none⟩) ∧ h = [] | 37 => RowB 9 1 v nz (zs.map Value.string) h | 38 => v = .slice Al nz cl ∧ h = [] | 39 => v = .bool true ∧ h = [] | 40 => v = .bool true ∧ h = [] | _ => True) ((h2 ++ (hv1 ++ (hr ++ (hl ++ F))))) (⟨h2, HI2.out, rfl⟩) (HH6.out.drew) ?_ ?_
  · intro i o hi ho Ls f Hf hs R w1 hI hL hd hH
    simp only [fill, List.take_succ_cons, List.take_zero, Act.put, List.setIfInBounds_toArray, List.set_cons_zero, List.set_cons_succ]
    match i, hi with
    | 0, _ =>
      obtain rfl := Option.some.inj ho
      clear hd ho
      have hH : Holds w0 (hs ++ ([] ++ R)) w1 := hH
      obtain ⟨h, hC, rfl⟩ := hI
      unfold wpOp
      refine Or.inl ?_
      unfold Oper.wp
      go_simp
      exact OwnBy.mk _ _ _ rfl (⟨h, hC, rfl⟩) (⟨rfl, rfl⟩) (hH)
    | 1, _ =>
      obtain rfl := Option.some.inj ho
      clear hd ho
      have hH : Holds w0 (hs ++ ([] ++ R)) w1 := hH
      obtain ⟨h, hC, rfl⟩ := hI
      unfold wpOp
      refine Or.inl ?_
      unfold Oper.wp
      go_simp
      exact OwnBy.mk _ _ _ rfl (⟨h, hC, rfl⟩) (⟨rfl, rfl⟩) (hH)
    | 2, _ =>
      obtain rfl := Option.some.inj ho
      have e0 : f 0 = .int .i64 er := (hd ⟨0, .data⟩ (by simp) rfl).2.1
      have e1 : f 1 = .int .i64 er := (hd ⟨1, .data⟩ (by simp) rfl).2.1
      clear hd ho
      have hH : Holds w0 (hs ++ ([] ++ R)) w1 := hH
      obtain ⟨h, hC, rfl⟩ := hI
      unfold wpOp
      refine Or.inl ?_
      simp only [e0, e1]
      unfold Oper.wp
      go_simp
      exact OwnBy.mk _ _ _ rfl (⟨h, hC, rfl⟩) (⟨rfl, rfl⟩) (hH)
    | 3, _ =>
      obtain rfl := Option.some.inj ho
      have e2 : f 2 = .bool true := (hd ⟨2, .data⟩ (by simp) rfl).2.1
      clear hd ho
      have hH : Holds w0 (hs ++ ([] ++ R)) w1 := hH
      obtain ⟨h, hC, rfl⟩ := hI
      unfold wpOp
      refine Or.inl ?_
      simp only [e2]
      unfold Oper.wp
      go_simp
      exact OwnBy.mk _ _ _ rfl (⟨h, hC, rfl⟩) (⟨rfl, rfl⟩) (hH)
    | 4, _ =>
      obtain rfl := Option.some.inj ho
      have e3 : f 3 = .bool true := (hd ⟨3, .guard⟩ (by simp) rfl).2.1
      clear hd ho
      have hH : Holds w0 (hs ++ ([] ++ R)) w1 := hH
      obtain ⟨h, hC, rfl⟩ := hI
      unfold wpOp
      simp only [e3]
      refine Or.inl ?_
      unfold Oper.wp
      go_simp
      exact OwnBy.mk _ _ _ rfl (⟨h, hC, rfl⟩) (⟨rfl, rfl⟩) (hH)
    | 5, _ =>
      obtain rfl := Option.some.inj ho
      have e4 : f 4 = .slice A1 nb c1 := (hd ⟨4, .data⟩ (by simp) rfl).2.1
      have e3 : f 3 = .bool true := (hd ⟨3, .guard⟩ (by simp) rfl).2.1
      clear hd ho
      have hH : Holds w0 (hs ++ ([] ++ R)) w1 := hH
      obtain ⟨h, hC, rfl⟩ := hI
      unfold wpOp
      simp only [e4, e3]
      refine Or.inl ?_
      unfold Oper.wp
      have q := conv_str HR1.out (hH.perm (k := hv1 ++ (h ++ (hr ++ (hl ++ F)) ++ R)) (by classical rw [List.perm_iff_count]; intro a; simp only [List.count_append, List.count_cons, List.count_nil] <;> omega))
      rw [HNB.out] at q
      go_simp
      exact OwnBy.mk _ _ _ rfl (⟨h, hC, rfl⟩) (⟨rfl, rfl⟩) (hH)
    | 6, _ =>
      obtain rfl := Option.some.inj ho
      have e3 : f 3 = .bool true := (hd ⟨3, .guard⟩ (by simp) rfl).2.1
      clear hd ho
      have hH : Holds w0 (hs ++ ([] ++ R)) w1 := hH
      obtain ⟨h, hC, rfl⟩ := hI
      unfold wpOp
      simp only [e3]
      refine Or.inl ?_
      unfold Oper.wp
      go_simp
      exact OwnBy.mk _ _ _ rfl (⟨h, hC, rfl⟩) (⟨rfl, rfl⟩) (hH)
    | 7, _ =>
      obtain rfl := Option.some.inj ho
      have e6 : f 6 = .slice B2 nb c2 := (hd ⟨6, .data⟩ (by simp) rfl).2.1
      have e3 : f 3 = .bool true := (hd ⟨3, .guard⟩ (by simp) rfl).2.1
      clear hd ho
      have hH : Holds w0 (hs ++ ([] ++ R)) w1 := hH
      obtain ⟨h, hC, rfl⟩ := hI
      unfold wpOp
      simp only [e6, e3]
      refine Or.inl ?_
      unfold Oper.wp
      have q := conv_rd HB2.out (HRD.out w1 _ (hH.perm (k := hr ++ (h ++ (hv1 ++ (hl ++ F)) ++ R)) (by classical rw [List.perm_iff_count]; intro a; simp only [List.count_append, List.count_cons, List.count_nil] <;> omega)))
      rw [HNB.out] at q
      go_simp
      exact OwnBy.mk _ _ _ rfl (⟨h, hC, rfl⟩) (⟨rfl, rfl⟩) (hH)
    | 8, _ =>
      obtain rfl := Option.some.inj ho
      have e5 : f 5 = .string ⟨bb.toArray⟩ := (hd ⟨5, .data⟩ (by simp) rfl).2.1
      have e7 : f 7 = .string ⟨bb.toArray⟩ := (hd ⟨7, .data⟩ (by simp) rfl).2.1
      have e3 : f 3 = .bool true := (hd ⟨3, .guard⟩ (by simp) rfl).2.1
      clear hd ho
      have hH : Holds w0 (hs ++ ([] ++ R)) w1 := hH
      obtain ⟨h, hC, rfl⟩ := hI
      unfold wpOp
      simp only [e5, e7, e3]
      refine Or.inl ?_
      unfold Oper.wp
      go_simp
      exact OwnBy.mk _ _ _ rfl (⟨h, hC, rfl⟩) (⟨rfl, rfl⟩) (hH)
    | 9, _ =>
      obtain rfl := Option.some.inj ho
      have e3 : f 3 = .bool true := (hd ⟨3, .data⟩ (by simp) rfl).2.1
      have e8 : f 8 = .bool true := (hd ⟨8, .data⟩ (by simp) rfl).2.1
      clear hd ho
      have hH : Holds w0 (hs ++ ([] ++ R)) w1 := hH
      obtain ⟨h, hC, rfl⟩ := hI
      unfold wpOp
      refine Or.inl ?_
      simp only [e3, e8]
      unfold Oper.wp
      go_simp
      exact OwnBy.mk _ _ _ rfl (⟨h, hC, rfl⟩) (⟨rfl, rfl⟩) (hH)
    | 10, _ =>
      obtain rfl := Option.some.inj ho
      have e9 : f 9 = .bool true := (hd ⟨9, .data⟩ (by simp) rfl).2.1
      clear hd ho
      have hH : Holds w0 (hs ++ ([] ++ R)) w1 := hH
      obtain ⟨h, hC, rfl⟩ := hI
      unfold wpOp
      refine Or.inl ?_
      simp only [e9]
      unfold Oper.wp
      go_simp
      exact OwnBy.mk _ _ _ rfl (⟨h, hC, rfl⟩) (⟨rfl, rfl⟩) (hH)
    | 11, _ =>
      obtain rfl := Option.some.inj ho
      have e10 : f 10 = .bool true := (hd ⟨10, .guard⟩ (by simp) rfl).2.1
      clear hd ho
      have hH : Holds w0 (hs ++ ([] ++ R)) w1 := hH
      obtain ⟨h, hC, rfl⟩ := hI
      unfold wpOp
      simp only [e10]
      refine Or.inl ?_
      unfold Oper.wp
      go_simp
      exact OwnBy.mk _ _ _ rfl (⟨h, hC, rfl⟩) (⟨rfl, rfl⟩) (hH)
    | 12, _ =>
      obtain rfl := Option.some.inj ho
      have e11 : f 11 = .pointer (some ⟨g, 0, none⟩) := (hd ⟨11, .data⟩ (by simp) rfl).2.1
      have e10 : f 10 = .bool true := (hd ⟨10, .guard⟩ (by simp) rfl).2.1
      clear hd ho
      have hH : Holds w0 (hs ++ ([] ++ R)) w1 := hH
      obtain ⟨h, hC, rfl⟩ := hI
      unfold wpOp
      simp only [e11, e10]
      refine Or.inl ?_
      unfold Oper.wp
      have hc := power_calls g m h _ w0 w1 hC (hH.perm (k := h ++ ((hv1 ++ (hr ++ (hl ++ F))) ++ R)) (by classical rw [List.perm_iff_count]; intro a; simp only [List.count_append, List.count_cons, List.count_nil] <;> omega))
      rw [HPW.out] at hc
      go_simp
      refine hc.mono ?_
      rintro e w3 ⟨rfl, rfl⟩
      exact OwnBy.mk _ _ _ rfl (⟨h, hC, rfl⟩) (⟨rfl, rfl⟩) (hH)
    | 13, _ =>
      obtain rfl := Option.some.inj ho
      have e10 : f 10 = .bool true := (hd ⟨10, .guard⟩ (by simp) rfl).2.1
      clear hd ho
      have hH : Holds w0 (hs ++ ([] ++ R)) w1 := hH
      obtain ⟨h, hC, rfl⟩ := hI
      unfold wpOp
      simp only [e10]
      refine Or.inl ?_
      unfold Oper.wp
      go_simp
      exact OwnBy.mk _ _ _ rfl (⟨h, hC, rfl⟩) (⟨rfl, rfl⟩) (hH)
    | 14, _ =>
      obtain rfl := Option.some.inj ho
      have e13 : f 13 = .pointer (some ⟨d, 0, none⟩) := (hd ⟨13, .data⟩ (by simp) rfl).2.1
      have e10 : f 10 = .bool true := (hd ⟨10, .guard⟩ (by simp) rfl).2.1
      clear hd ho
      have hH : Holds w0 (hs ++ ([] ++ R)) w1 := hH
      obtain ⟨h, hC, rfl⟩ := hI
      unfold wpOp
      simp only [e13, e10]
      refine Or.inl ?_
      unfold Oper.wp
      go_simp
      exact OwnBy.mk _ _ _ rfl (⟨h, hC, rfl⟩) (⟨rfl, rfl⟩) (hH)
    | 15, _ =>
      obtain rfl := Option.some.inj ho
      have e14 : f 14 = .pointer (some ⟨d, 0, none⟩) := (hd ⟨14, .data⟩ (by simp) rfl).2.1
      have e10 : f 10 = .bool true := (hd ⟨10, .guard⟩ (by simp) rfl).2.1
      clear hd ho
      have hH : Holds w0 (hs ++ ([] ++ R)) w1 := hH
      obtain ⟨h, hC, rfl⟩ := hI
      unfold wpOp
      simp only [e14, e10]
      refine Or.inl ?_
      unfold Oper.wp
      go_simp
      exact OwnBy.mk _ _ _ rfl (⟨h, hC, rfl⟩) (⟨rfl, rfl⟩) (hH)
    | 16, _ =>
      obtain rfl := Option.some.inj ho
      have e15 : f 15 = .pointer (some ⟨d, 2, none⟩) := (hd ⟨15, .data⟩ (by simp) rfl).2.1
      have e10 : f 10 = .bool true := (hd ⟨10, .guard⟩ (by simp) rfl).2.1
      clear hd ho
      have hH : Holds w0 (hs ++ ([] ++ R)) w1 := hH
      obtain ⟨h, hC, rfl⟩ := hI
      unfold wpOp
      simp only [e15, e10]
      refine Or.inl ?_
      unfold Oper.wp
      have q := HRC2.out w1 _ (hH.perm (k := hr ++ (h ++ (hv1 ++ (hl ++ F)) ++ R)) (by classical rw [List.perm_iff_count]; intro a; simp only [List.count_append, List.count_cons, List.count_nil] <;> omega))
      go_simp
      exact OwnBy.mk _ _ _ rfl (⟨h, hC, rfl⟩) (⟨rfl, rfl⟩) (hH)
    | 17, _ =>
      obtain rfl := Option.some.inj ho
      have e16 : f 16 = .bool true := (hd ⟨16, .data⟩ (by simp) rfl).2.1
      have e10 : f 10 = .bool true := (hd ⟨10, .guard⟩ (by simp) rfl).2.1
      clear hd ho
      have hH : Holds w0 (hs ++ ([] ++ R)) w1 := hH
      obtain ⟨h, hC, rfl⟩ := hI
      unfold wpOp
      simp only [e16, e10]
      refine Or.inl ?_
      unfold Oper.wp
      go_simp
      exact OwnBy.mk _ _ _ rfl (⟨h, hC, rfl⟩) (⟨rfl, rfl⟩) (hH)
    | 18, _ =>
      obtain rfl := Option.some.inj ho
      have e12 : f 12 = .bool false := (hd ⟨12, .data⟩ (by simp) rfl).2.1
      have e17 : f 17 = .bool false := (hd ⟨17, .data⟩ (by simp) rfl).2.1
      have e10 : f 10 = .bool true := (hd ⟨10, .guard⟩ (by simp) rfl).2.1
      clear hd ho
      have hH : Holds w0 (hs ++ ([] ++ R)) w1 := hH
      obtain ⟨h, hC, rfl⟩ := hI
      unfold wpOp
      simp only [e12, e17, e10]
      refine Or.inl ?_
      unfold Oper.wp
      go_simp
      exact OwnBy.mk _ _ _ rfl (⟨h, hC, rfl⟩) (⟨rfl, rfl⟩) (hH)
    | 19, _ =>
      obtain rfl := Option.some.inj ho
      have e10 : f 10 = .bool true := (hd ⟨10, .data⟩ (by simp) rfl).2.1
      have e18 : f 18 = .bool true := (hd ⟨18, .data⟩ (by simp) rfl).2.1
      clear hd ho
      have hH : Holds w0 (hs ++ ([] ++ R)) w1 := hH
      obtain ⟨h, hC, rfl⟩ := hI
      unfold wpOp
      refine Or.inl ?_
      simp only [e10, e18]
      unfold Oper.wp
      go_simp
      exact OwnBy.mk _ _ _ rfl (⟨h, hC, rfl⟩) (⟨rfl, rfl⟩) (hH)
    | 20, _ =>
      obtain rfl := Option.some.inj ho
      have e19 : f 19 = .bool true := (hd ⟨19, .data⟩ (by simp) rfl).2.1
      clear hd ho
      have hH : Holds w0 (hs ++ ([] ++ R)) w1 := hH
      obtain ⟨h, hC, rfl⟩ := hI
      unfold wpOp
      refine Or.inl ?_
      simp only [e19]
      unfold Oper.wp
      go_simp
      exact OwnBy.mk _ _ _ rfl (⟨h, hC, rfl⟩) (⟨rfl, rfl⟩) (hH)
    | 21, _ =>
      obtain rfl := Option.some.inj ho
      have e20 : f 20 = .bool true := (hd ⟨20, .guard⟩ (by simp) rfl).2.1
      clear hd ho
      have hH : Holds w0 (hs ++ ([] ++ R)) w1 := hH
      obtain ⟨h, hC, rfl⟩ := hI
      unfold wpOp
      simp only [e20]
      refine Or.inl ?_
      unfold Oper.wp
      go_simp
      exact OwnBy.mk _ _ _ rfl (⟨h, hC, rfl⟩) (⟨rfl, rfl⟩) (hH)
    | 22, _ =>
      obtain rfl := Option.some.inj ho
      have e21 : f 21 = .pointer (some ⟨g, 0, none⟩) := (hd ⟨21, .data⟩ (by simp) rfl).2.1
      have e20 : f 20 = .bool true := (hd ⟨20, .guard⟩ (by simp) rfl).2.1
      clear hd ho
      have hH : Holds w0 (hs ++ ([] ++ R)) w1 := hH
      obtain ⟨h, hC, rfl⟩ := hI
      unfold wpOp
      simp only [e21, e20]
      refine Or.inl ?_
      unfold Oper.wp
      have hc := lives_calls g m h _ w0 w1 hC (hH.perm (k := h ++ ((hv1 ++ (hr ++ (hl ++ F))) ++ R)) (by classical rw [List.perm_iff_count]; intro a; simp only [List.count_append, List.count_cons, List.count_nil] <;> omega))
      go_simp
      refine hc.mono ?_
      rintro e w3 ⟨rfl, rfl⟩
      exact OwnBy.mk _ _ _ rfl (⟨h, hC, rfl⟩) (⟨rfl, rfl⟩) (hH)
    | 23, _ =>
      obtain rfl := Option.some.inj ho
      have e20 : f 20 = .bool true := (hd ⟨20, .guard⟩ (by simp) rfl).2.1
      clear hd ho
      have hH : Holds w0 (hs ++ ([] ++ R)) w1 := hH
      obtain ⟨h, hC, rfl⟩ := hI
      unfold wpOp
      simp only [e20]
      refine Or.inl ?_
      unfold Oper.wp
      go_simp
      exact OwnBy.mk _ _ _ rfl (⟨h, hC, rfl⟩) (⟨rfl, rfl⟩) (hH)
    | 24, _ =>
      obtain rfl := Option.some.inj ho
      have e23 : f 23 = .pointer (some ⟨d, 0, none⟩) := (hd ⟨23, .data⟩ (by simp) rfl).2.1
      have e20 : f 20 = .bool true := (hd ⟨20, .guard⟩ (by simp) rfl).2.1
      clear hd ho
      have hH : Holds w0 (hs ++ ([] ++ R)) w1 := hH
      obtain ⟨h, hC, rfl⟩ := hI
      unfold wpOp
      simp only [e23, e20]
      refine Or.inl ?_
      unfold Oper.wp
      go_simp
      exact OwnBy.mk _ _ _ rfl (⟨h, hC, rfl⟩) (⟨rfl, rfl⟩) (hH)
    | 25, _ =>
      obtain rfl := Option.some.inj ho
      have e24 : f 24 = .pointer (some ⟨d, 0, none⟩) := (hd ⟨24, .data⟩ (by simp) rfl).2.1
      have e20 : f 20 = .bool true := (hd ⟨20, .guard⟩ (by simp) rfl).2.1
      clear hd ho
      have hH : Holds w0 (hs ++ ([] ++ R)) w1 := hH
      obtain ⟨h, hC, rfl⟩ := hI
      unfold wpOp
      simp only [e24, e20]
      refine Or.inl ?_
      unfold Oper.wp
      go_simp
      exact OwnBy.mk _ _ _ rfl (⟨h, hC, rfl⟩) (⟨rfl, rfl⟩) (hH)
    | 26, _ =>
      obtain rfl := Option.some.inj ho
      have e25 : f 25 = .pointer (some ⟨d, 3, none⟩) := (hd ⟨25, .data⟩ (by simp) rfl).2.1
      have e20 : f 20 = .bool true := (hd ⟨20, .guard⟩ (by simp) rfl).2.1
      clear hd ho
      have hH : Holds w0 (hs ++ ([] ++ R)) w1 := hH
      obtain ⟨h, hC, rfl⟩ := hI
      unfold wpOp
      simp only [e25, e20]
      refine Or.inl ?_
      unfold Oper.wp
      have q := HRC3.out w1 _ (hH.perm (k := hr ++ (h ++ (hv1 ++ (hl ++ F)) ++ R)) (by classical rw [List.perm_iff_count]; intro a; simp only [List.count_append, List.count_cons, List.count_nil] <;> omega))
      go_simp
      exact OwnBy.mk _ _ _ rfl (⟨h, hC, rfl⟩) (⟨rfl, rfl⟩) (hH)
    | 27, _ =>
      obtain rfl := Option.some.inj ho
      have e22 : f 22 = .int .i64 m.lives := (hd ⟨22, .data⟩ (by simp) rfl).2.1
      have e26 : f 26 = .int .i64 m.lives := (hd ⟨26, .data⟩ (by simp) rfl).2.1
      have e20 : f 20 = .bool true := (hd ⟨20, .guard⟩ (by simp) rfl).2.1
      clear hd ho
      have hH : Holds w0 (hs ++ ([] ++ R)) w1 := hH
      obtain ⟨h, hC, rfl⟩ := hI
      unfold wpOp
      simp only [e22, e26, e20]
      refine Or.inl ?_
      unfold Oper.wp
      go_simp
      exact OwnBy.mk _ _ _ rfl (⟨h, hC, rfl⟩) (⟨rfl, rfl⟩) (hH)
    | 28, _ =>
      obtain rfl := Option.some.inj ho
      have e20 : f 20 = .bool true := (hd ⟨20, .data⟩ (by simp) rfl).2.1
      have e27 : f 27 = .bool true := (hd ⟨27, .data⟩ (by simp) rfl).2.1
      clear hd ho
      have hH : Holds w0 (hs ++ ([] ++ R)) w1 := hH
      obtain ⟨h, hC, rfl⟩ := hI
      unfold wpOp
      refine Or.inl ?_
      simp only [e20, e27]
      unfold Oper.wp
      go_simp
      exact OwnBy.mk _ _ _ rfl (⟨h, hC, rfl⟩) (⟨rfl, rfl⟩) (hH)
    | 29, _ =>
      obtain rfl := Option.some.inj ho
      have e28 : f 28 = .bool true := (hd ⟨28, .data⟩ (by simp) rfl).2.1
      clear hd ho
      have hH : Holds w0 (hs ++ ([] ++ R)) w1 := hH
      obtain ⟨h, hC, rfl⟩ := hI
      unfold wpOp
      refine Or.inl ?_
      simp only [e28]
      unfold Oper.wp
      go_simp
      exact OwnBy.mk _ _ _ rfl (⟨h, hC, rfl⟩) (⟨rfl, rfl⟩) (hH)
    | 30, _ =>
      obtain rfl := Option.some.inj ho
      have e29 : f 29 = .bool true := (hd ⟨29, .guard⟩ (by simp) rfl).2.1
      clear hd ho
      have hH : Holds w0 (hs ++ ([] ++ R)) w1 := hH
      obtain ⟨h, hC, rfl⟩ := hI
      unfold wpOp
      simp only [e29]
      refine Or.inl ?_
      unfold Oper.wp
      go_simp
      exact OwnBy.mk _ _ _ rfl (⟨h, hC, rfl⟩) (⟨rfl, rfl⟩) (hH)
    | 31, _ =>
      obtain rfl := Option.some.inj ho
      have e30 : f 30 = .pointer (some ⟨g, 0, none⟩) := (hd ⟨30, .data⟩ (by simp) rfl).2.1
      have e29 : f 29 = .bool true := (hd ⟨29, .guard⟩ (by simp) rfl).2.1
      clear hd ho
      have hH : Holds w0 (hs ++ ([] ++ R)) w1 := hH
      obtain ⟨h, hC, rfl⟩ := hI
      unfold wpOp
      simp only [e30, e29]
      refine Or.inl ?_
      unfold Oper.wp
      have hc := size_calls g m h _ w0 w1 hC (hH.perm (k := h ++ ((hv1 ++ (hr ++ (hl ++ F))) ++ R)) (by classical rw [List.perm_iff_count]; intro a; simp only [List.count_append, List.count_cons, List.count_nil] <;> omega))
      rw [HSM.out] at hc
      go_simp
      refine hc.mono ?_
      rintro e w3 ⟨rfl, h3, hC3, hH3⟩
      exact OwnBy.mk _ [] _ rfl ⟨h3, hC3, rfl⟩ ⟨rfl, rfl⟩ (hH3.perm (by classical rw [List.perm_iff_count]; intro a; simp only [List.count_append, List.count_cons, List.count_nil] <;> omega))
    | 32, _ =>
      obtain rfl := Option.some.inj ho
      have e29 : f 29 = .bool true := (hd ⟨29, .guard⟩ (by simp) rfl).2.1
      clear hd ho
      have hH : Holds w0 (hs ++ ([] ++ R)) w1 := hH
      obtain ⟨h, hC, rfl⟩ := hI
      unfold wpOp
      simp only [e29]
      refine Or.inl ?_
      unfold Oper.wp
      go_simp
      exact OwnBy.mk _ _ _ rfl (⟨h, hC, rfl⟩) (⟨rfl, rfl⟩) (hH)
    | 33, _ =>
      obtain rfl := Option.some.inj ho
      have e31 : f 31 = .int .i64 0 := (hd ⟨31, .data⟩ (by simp) rfl).2.1
      have e32 : f 32 = .int .i64 0 := (hd ⟨32, .data⟩ (by simp) rfl).2.1
      have e29 : f 29 = .bool true := (hd ⟨29, .guard⟩ (by simp) rfl).2.1
      clear hd ho
      have hH : Holds w0 (hs ++ ([] ++ R)) w1 := hH
      obtain ⟨h, hC, rfl⟩ := hI
      unfold wpOp
      simp only [e31, e32, e29]
      refine Or.inl ?_
      unfold Oper.wp
      go_simp
      exact OwnBy.mk _ _ _ rfl (⟨h, hC, rfl⟩) (⟨rfl, rfl⟩) (hH)
    | 34, _ =>
      obtain rfl := Option.some.inj ho
      have e29 : f 29 = .bool true := (hd ⟨29, .data⟩ (by simp) rfl).2.1
      have e33 : f 33 = .bool true := (hd ⟨33, .data⟩ (by simp) rfl).2.1
      clear hd ho
      have hH : Holds w0 (hs ++ ([] ++ R)) w1 := hH
      obtain ⟨h, hC, rfl⟩ := hI
      unfold wpOp
      refine Or.inl ?_
      simp only [e29, e33]
      unfold Oper.wp
      go_simp
      exact OwnBy.mk _ _ _ rfl (⟨h, hC, rfl⟩) (⟨rfl, rfl⟩) (hH)
    | 35, _ =>
      obtain rfl := Option.some.inj ho
      have e34 : f 34 = .bool true := (hd ⟨34, .data⟩ (by simp) rfl).2.1
      clear hd ho
      have hH : Holds w0 (hs ++ ([] ++ R)) w1 := hH
      obtain ⟨h, hC, rfl⟩ := hI
      unfold wpOp
      refine Or.inl ?_
      simp only [e34]
      unfold Oper.wp
      go_simp
      exact OwnBy.mk _ _ _ rfl (⟨h, hC, rfl⟩) (⟨rfl, rfl⟩) (hH)
    | 36, _ =>
      obtain rfl := Option.some.inj ho
      have e35 : f 35 = .bool true := (hd ⟨35, .guard⟩ (by simp) rfl).2.1
      clear hd ho
      have hH : Holds w0 (hs ++ ([] ++ R)) w1 := hH
      obtain ⟨h, hC, rfl⟩ := hI
      unfold wpOp
      simp only [e35]
      refine Or.inl ?_
      unfold Oper.wp
      go_simp
      exact OwnBy.mk _ _ _ rfl (⟨h, hC, rfl⟩) (⟨rfl, rfl⟩) (hH)
    | 37, _ =>
      obtain rfl := Option.some.inj ho
      have e36 : f 36 = .pointer (some ⟨g, 0, none⟩) := (hd ⟨36, .data⟩ (by simp) rfl).2.1
      have e35 : f 35 = .bool true := (hd ⟨35, .guard⟩ (by simp) rfl).2.1
      clear hd ho
      have hH : Holds w0 (hs ++ ([] ++ R)) w1 := hH
      obtain ⟨h, hC, rfl⟩ := hI
      unfold wpOp
      simp only [e36, e35]
      refine Or.inl ?_
      unfold Oper.wp
      have hc := names_calls g m h _ w0 w1 (by omega) hC (hH.perm (k := h ++ ((hv1 ++ (hr ++ (hl ++ F))) ++ R)) (by classical rw [List.perm_iff_count]; intro a; simp only [List.count_append, List.count_cons, List.count_nil] <;> omega))
      go_simp
      refine hc.mono ?_
      rintro e w3 ⟨v, rfl, hv, hR3, h3, hC3, hH3⟩
      exact OwnBy.mk v hv _ rfl ⟨h3, hC3, rfl⟩ (by have := hR3; rw [HNMS.out] at this; exact this) (hH3.perm (by classical rw [List.perm_iff_count]; intro a; simp only [List.count_append, List.count_cons, List.count_nil] <;> omega))
    | 38, _ =>
      obtain rfl := Option.some.inj ho
      have e35 : f 35 = .bool true := (hd ⟨35, .guard⟩ (by simp) rfl).2.1
      clear hd ho
      have hH : Holds w0 (hs ++ ([] ++ R)) w1 := hH
      obtain ⟨h, hC, rfl⟩ := hI
      unfold wpOp
      simp only [e35]
      refine Or.inl ?_
      unfold Oper.wp
      go_simp
      exact OwnBy.mk _ _ _ rfl (⟨h, hC, rfl⟩) (⟨rfl, rfl⟩) (hH)
    | 39, _ =>
      obtain rfl := Option.some.inj ho
      have e37 := (hd ⟨37, .data⟩ (by simp) rfl).2
      obtain ⟨A37, c37, q37, _, hn37⟩ := RowB.form e37
      have e38 : f 38 = .slice Al nz cl := (hd ⟨38, .data⟩ (by simp) rfl).2.1
      have e35 : f 35 = .bool true := (hd ⟨35, .guard⟩ (by simp) rfl).2.1
      clear hd ho
      have hH : Holds w0 (hs ++ ((Hf 37 ++ ([])) ++ R)) w1 := hH
      simp only [List.append_nil, List.append_assoc] at hH
      obtain ⟨h, hC, rfl⟩ := hI
      unfold wpOp
      simp only [e38, e35]
      refine Or.inl ?_
      unfold Oper.wp
      rw [q37] at e37
      rw [q37]
      have hh1 := hH.perm (k := Hf 37 ++ (h ++ (hv1 ++ (hr ++ (hl ++ F))) ++ R)) (by classical rw [List.perm_iff_count]; intro a; simp only [List.count_append, List.count_cons, List.count_nil] <;> omega)
      have hh2 := hH.perm (k := hl ++ (h ++ (hv1 ++ (hr ++ (Hf 37 ++ F))) ++ R)) (by classical rw [List.perm_iff_count]; intro a; simp only [List.count_append, List.count_cons, List.count_nil] <;> omega)
      have hc := names_gen A37 Al zs c37 cl w1 (by rw [HNZ.out]; omega) (fun hA => by have := (rd_of e37 hh1).2.1 hA; exact List.eq_nil_of_length_eq_zero (by rw [HNZ.out]; exact this)) (fun hA => by have := (rd_of HRL.out hh2).2.1 hA; exact List.eq_nil_of_length_eq_zero (by rw [HNZ.out]; exact this)) (fun w2 hb a ha j z hz => (rd_of e37 (hh1.grow hb)).2.2 a ha j _ (by simp [hz])) (fun w2 hb a ha j z hz => (rd_of HRL.out (hh2.grow hb)).2.2 a ha j _ (by simp [hz]))
      rw [HNZ.out] at hc
      have HC := Lib.hid hc
      clear hc hh1 hh2
      go_simp
      refine HC.out.mono ?_
      rintro e w3 ⟨rfl, hb⟩
      exact OwnBy.mk _ [] _ rfl ⟨h, hC, rfl⟩ ⟨rfl, rfl⟩ (((hH.grow hb).perm (k := Hf 37 ++ ((h ++ (hv1 ++ (hr ++ (hl ++ F)))) ++ R)) (by classical rw [List.perm_iff_count]; intro a; simp only [List.count_append, List.count_cons, List.count_nil] <;> omega)).right)
    | 40, _ =>
      obtain rfl := Option.some.inj ho
      have e35 : f 35 = .bool true := (hd ⟨35, .data⟩ (by simp) rfl).2.1
      have e39 : f 39 = .bool true := (hd ⟨39, .data⟩ (by simp) rfl).2.1
      clear hd ho
      have hH : Holds w0 (hs ++ ([] ++ R)) w1 := hH
      obtain ⟨h, hC, rfl⟩ := hI
      unfold wpOp
      refine Or.inl ?_
      simp only [e35, e39]
      unfold Oper.wp
      go_simp
      exact OwnBy.mk _ _ _ rfl (⟨h, hC, rfl⟩) (⟨rfl, rfl⟩) (hH)
    | _ + 41, h41 => exact absurd h41 (by omega)
  · intro Ls f Hf hs w1 hI hL hV hH
    have e0 : f 0 = .int .i64 er := (hV 0 (by decide)).1
    have e1 : f 1 = .int .i64 er := (hV 1 (by decide)).1
    have e2 : f 2 = .bool true := (hV 2 (by decide)).1
    have e3 : f 3 = .bool true := (hV 3 (by decide)).1
    have e4 : f 4 = .slice A1 nb c1 := (hV 4 (by decide)).1
    have e5 : f 5 = .string ⟨bb.toArray⟩ := (hV 5 (by decide)).1
    have e6 : f 6 = .slice B2 nb c2 := (hV 6 (by decide)).1
    have e7 : f 7 = .string ⟨bb.toArray⟩ := (hV 7 (by decide)).1
    have e8 : f 8 = .bool true := (hV 8 (by decide)).1
    have e9 : f 9 = .bool true := (hV 9 (by decide)).1
    have e10 : f 10 = .bool true := (hV 10 (by decide)).1
    have e11 : f 11 = .pointer (some ⟨g, 0, none⟩) := (hV 11 (by decide)).1
    have e12 : f 12 = .bool false := (hV 12 (by decide)).1
    have e13 : f 13 = .pointer (some ⟨d, 0, none⟩) := (hV 13 (by decide)).1
    have e14 : f 14 = .pointer (some ⟨d, 0, none⟩) := (hV 14 (by decide)).1
    have e15 : f 15 = .pointer (some ⟨d, 2, none⟩) := (hV 15 (by decide)).1
    have e16 : f 16 = .bool true := (hV 16 (by decide)).1
    have e17 : f 17 = .bool false := (hV 17 (by decide)).1
    have e18 : f 18 = .bool true := (hV 18 (by decide)).1
    have e19 : f 19 = .bool true := (hV 19 (by decide)).1
    have e20 : f 20 = .bool true := (hV 20 (by decide)).1
    have e21 : f 21 = .pointer (some ⟨g, 0, none⟩) := (hV 21 (by decide)).1
    have e22 : f 22 = .int .i64 m.lives := (hV 22 (by decide)).1
    have e23 : f 23 = .pointer (some ⟨d, 0, none⟩) := (hV 23 (by decide)).1
    have e24 : f 24 = .pointer (some ⟨d, 0, none⟩) := (hV 24 (by decide)).1
    have e25 : f 25 = .pointer (some ⟨d, 3, none⟩) := (hV 25 (by decide)).1
    have e26 : f 26 = .int .i64 m.lives := (hV 26 (by decide)).1
    have e27 : f 27 = .bool true := (hV 27 (by decide)).1
    have e28 : f 28 = .bool true := (hV 28 (by decide)).1
    have e29 : f 29 = .bool true := (hV 29 (by decide)).1
    have e30 : f 30 = .pointer (some ⟨g, 0, none⟩) := (hV 30 (by decide)).1
    have e31 : f 31 = .int .i64 0 := (hV 31 (by decide)).1
    have e32 : f 32 = .int .i64 0 := (hV 32 (by decide)).1
    have e33 : f 33 = .bool true := (hV 33 (by decide)).1
    have e34 : f 34 = .bool true := (hV 34 (by decide)).1
    have e35 : f 35 = .bool true := (hV 35 (by decide)).1
    have e36 : f 36 = .pointer (some ⟨g, 0, none⟩) := (hV 36 (by decide)).1
    have e37 := hV 37 (by decide)
    obtain ⟨A37, c37, q37, _, hn37⟩ := RowB.form e37
    have e38 : f 38 = .slice Al nz cl := (hV 38 (by decide)).1
    have e39 : f 39 = .bool true := (hV 39 (by decide)).1
    have e40 : f 40 = .bool true := (hV 40 (by decide)).1
    clear hV
    have hH : Holds w0 (hs ++ []) w1 := hH
    simp only [fill, List.take_succ_cons, List.take_zero, List.drop_succ_cons, List.drop_zero, Act.put, List.setIfInBounds_toArray, List.set_cons_zero, List.set_cons_succ, e0, e1, e2, e3, e4, e5, e6, e7, e8, e9, e10, e11, e12, e13, e14, e15, e16, e17, e18, e19, e20, e21, e22, e23, e24, e25, e26, e27, e28, e29, e30, e31, e32, e33, e34, e35, e36, e38, e39, e40]
    obtain ⟨h9, hC9, rfl⟩ := hI
    have HC9 := Lib.hid hC9
    have HH9 := Lib.hid hH
    clear hL hH hC9
    go_wp2_with fail
    go_ret
    exact ⟨rfl, h9, HC9.out, (HH9.out.perm (k := hv1 ++ (hl ++ (h9 ++ (hr ++ F)))) (by classical rw [List.perm_iff_count]; intro a; simp only [List.count_append, List.count_cons, List.count_nil] <;> omega)).right.right⟩
set_option maxRecDepth 100000 in
set_option maxHeartbeats 8000000 in
theorem same_calls (g d : Nat) (m : DM) (h hr F : Hp) (s : ByteArray) (w0 w : World) (hs : s.size ≤ 9223372036854775807) (hcnt : m.fl.length ≤ 9000) (hri : Rises m.fl) (hI : IsD g m h) (hR : IsR d m hr) (H : Holds w0 (h ++ (hr ++ F)) w) :
    Calls Try.prog 27 #[.pointer (some ⟨g, 0, none⟩), .pointer (some ⟨d, 0, none⟩), .string s] w fun e w' => e = .returned (.bool true) ∧ ∃ h', IsD g m h' ∧ Holds w0 (h' ++ (hr ++ F)) w' := by
  cases hp : m.power
  · exact same_false g d m h hr F s w0 w hs hcnt hri hI hR H hp
  · exact same_true g d m h hr F s w0 w hs hcnt hri hI hR H hp
end Go.Proofs.Ytocpelkgiebkjaa
