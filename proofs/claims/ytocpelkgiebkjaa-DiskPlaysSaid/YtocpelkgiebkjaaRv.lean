/- Chapter 8's own answer: Append, Drop, Rename: contracts for every world. Conditions: each theorem's own. -/
import Derived.Test.YtocpelkgiebkjaaRu
namespace Go.Proofs.Ytocpelkgiebkjaa
open Go.RowKit Go.Proofs.Ytocpelkgiebkjaa.Sp
set_option linter.unusedVariables false
set_option linter.unusedSimpArgs false
theorem less_before : ∀ l m : List UInt8, Op.bytesLess l m = bytesBefore l m
  | [], [] => rfl
  | [], _ :: _ => rfl
  | _ :: _, [] => rfl
  | a :: l, b :: m => by simp only [Op.bytesLess, bytesBefore, less_before l m]
theorem u8_tri (a b : UInt8) : a < b ∨ a = b ∨ b < a := by
  rcases Nat.lt_trichotomy a.toNat b.toNat with h | h | h
  · exact .inl (UInt8.lt_iff_toNat_lt.2 h)
  · exact .inr (.inl (UInt8.toNat_inj.1 h))
  · exact .inr (.inr (UInt8.lt_iff_toNat_lt.2 h))
theorem u8_irr (a : UInt8) : ¬ a < a := fun h => Nat.lt_irrefl _ (UInt8.lt_iff_toNat_lt.1 h)
theorem u8_asym {a b : UInt8} (h : a < b) : ¬ b < a := fun h' => Nat.lt_asymm (UInt8.lt_iff_toNat_lt.1 h) (UInt8.lt_iff_toNat_lt.1 h')
theorem before_tri : ∀ l m : List UInt8, l ≠ m → bytesBefore l m = false → bytesBefore m l = true
  | [], [], h, _ => absurd rfl h
  | [], _ :: _, _, h => by simp [bytesBefore] at h
  | _ :: _, [], _, _ => rfl
  | a :: l, b :: m, hne, h => by
    unfold bytesBefore at h ⊢
    rcases u8_tri a b with hc | hc | hc
    · simp [hc] at h
    · subst hc
      simp [u8_irr] at h ⊢
      exact before_tri l m (fun e => hne (by rw [e])) h
    · simp [hc]
theorem before_asym : ∀ l m : List UInt8, bytesBefore l m = true → bytesBefore m l = false
  | [], [], h => by simp [bytesBefore] at h
  | [], _ :: _, _ => rfl
  | _ :: _, [], h => by simp [bytesBefore] at h
  | a :: l, b :: m, h => by
    unfold bytesBefore at h ⊢
    rcases u8_tri a b with hc | hc | hc
    · have hne : ¬ b = a := fun e => by subst e; exact u8_irr _ hc
      simp [u8_asym hc, hne]
    · subst hc
      simp [u8_irr] at h ⊢
      exact before_asym l m h
    · have hne : ¬ a = b := fun e => by subst e; exact u8_irr _ hc
      simp [u8_asym hc, hne] at h
theorem ltS_eq (a b : ByteArray) : ltS a b = bytesBefore a.data.toList b.data.toList := by unfold ltS; rw [less_before, ByteArray.toList_eq, ByteArray.toList_eq]
theorem ins_pos (s : ByteArray) (f : Fl) : ∀ L : List (ByteArray × Fl), (∀ y ∈ L, y.1 ≠ s) → L.take (posS L s) ++ (s, f) :: L.drop (posS L s) = insM (s, f) L
  | [], _ => rfl
  | y :: L, h => by
    have ih := ins_pos s f L (fun z hz => h z (List.mem_cons_of_mem _ hz))
    unfold posS at ih ⊢
    rw [List.takeWhile_cons]
    unfold insM
    cases hc : ltS y.1 s
    · have h2 : bytesBefore s.data.toList y.1.data.toList = true := before_tri _ _ (fun e => h y List.mem_cons_self (data_inj e)) (by rw [← ltS_eq]; exact hc)
      simp [h2]
    · have h2 : bytesBefore s.data.toList y.1.data.toList = false := before_asym _ _ (by rw [← ltS_eq]; exact hc)
      simp [h2]
      exact ih
theorem ask_cases2 (m : DM) (s : ByteArray) : (∃ e, (e = 7 ∨ e = 1) ∧ askR (!m.power) m.fl s = (-1, e) ∧ (∀ d, appM m s d = (e, m)) ∧ dropM m s = (e, m)) ∨ (askR (!m.power) m.fl s = (-1, 4) ∧ m.fl.find? (namedM s) = none ∧ (∀ d : List UInt8, appM m s d = if m.room - totM m.fl < d.length then (6, m) else (0, { m with fl := insM (s, ⟨d, 0⟩) m.fl })) ∧ dropM m s = (4, m)) ∨
    (∃ (k : Nat) (x : ByteArray × Fl), m.fl[k]? = some x ∧ x.1 = s ∧ askR (!m.power) m.fl s = ((k : Int), 0) ∧ (∀ d : List UInt8, appM m s d = if m.room - totM m.fl < d.length then (6, m) else (0, { m with fl := setM s { x.2 with b := x.2.b ++ d } m.fl })) ∧ dropM m s = (0, { m with fl := offM s m.fl })) := by
  unfold askR appM dropM findM
  cases hp : m.power
  · exact .inl ⟨7, .inl rfl, rfl, fun _ => rfl, rfl⟩
  · cases hg : goodN s
    · exact .inl ⟨1, .inr rfl, rfl, fun _ => rfl, rfl⟩
    · rcases fnd_find s m.fl with ⟨h1, h2⟩ | ⟨k, x, h1, h2, h3, h4⟩
      · rw [h1, h2]
        exact .inr (.inl ⟨rfl, rfl, fun _ => rfl, rfl⟩)
      · rw [h1, h4]
        refine .inr (.inr ⟨k, x, h2, h3, ?_, fun _ => rfl, rfl⟩)
        have : ¬ (k : Int) < 0 := by omega
        simp [this]
/-- A file put into the row at its place. -/
theorem FRw.ins {L : List (ByteArray × Fl)} {vs : List Value} {h hb : Hp} (H : FRw L vs h) (s : ByteArray) (f : Fl) (A : Option Addr) (n c : Nat) (hn : n = f.b.length) (R : RowB 5 1 (.slice A n c) f.b.length (bv f.b) hb) (hne : ∀ y ∈ L, y.1 ≠ s) :
    ∃ h', FRw (insM (s, f) L) (vs.take (posS L s * 3) ++ (fC s A n c f.safe).toList ++ vs.drop (posS L s * 3)) h' ∧ h'.Perm (hb ++ h) := by
  have e : L = L.take (posS L s) ++ L.drop (posS L s) := (List.take_append_drop _ _).symm
  have H2 := H
  rw [e] at H2
  obtain ⟨h1, h2, a, b, rfl⟩ := FRw.split H2
  have hl : (L.take (posS L s)).length = posS L s := by rw [List.length_take, Nat.min_eq_left (posS_le L s)]
  rw [hl] at a b
  refine ⟨h1 ++ (hb ++ h2), ?_, (by classical rw [List.perm_iff_count]; intro a; simp only [List.count_append, List.count_cons, List.count_nil] <;> omega)⟩
  rw [← ins_pos s f L hne, List.append_assoc]
  subst hn
  exact FRw.app a ⟨_, hb, _, h2, R, b, rfl, rfl⟩
theorem erase_off (s : ByteArray) : ∀ (L : List (ByteArray × Fl)) (k : Nat) (x : ByteArray × Fl), L.Pairwise (fun x y => x.1 ≠ y.1) → L[k]? = some x → x.1 = s → L.eraseIdx k = offM s L
  | [], k, x, _, h, _ => by simp at h
  | y :: L, 0, x, hp, h, hs => by
    obtain rfl : y = x := by simpa using h
    rw [List.pairwise_cons] at hp
    unfold offM
    rw [List.filter_cons, show (!namedM s y) = false by simp [namedM, hs], if_neg (by simp)]
    rw [List.eraseIdx_cons_zero]
    exact (List.filter_eq_self.mpr fun z hz => by
      have := hp.1 z hz
      rw [hs] at this
      simp [namedM]; exact fun e => this e.symm).symm
  | y :: L, k + 1, x, hp, h, hs => by
    rw [List.pairwise_cons] at hp
    have hx : L[k]? = some x := by simpa using h
    have ih := erase_off s L k x hp.2 hx hs
    unfold offM at ih ⊢
    rw [List.eraseIdx_cons_succ, ih, List.filter_cons, if_pos]
    simp only [namedM, Bool.not_eq_true', decide_eq_false_iff_not]
    intro q
    exact hp.1 x (List.mem_of_getElem? hx) (q.trans hs.symm)
theorem FRw.erase : ∀ {L : List (ByteArray × Fl)} {vs : List Value} {h : Hp}, FRw L vs h → ∀ (k : Nat) (x : ByteArray × Fl), L[k]? = some x → ∃ v hb rest, vs[k * 3 + 1]? = some v ∧ RowB 5 1 v x.2.b.length (bv x.2.b) hb ∧ h.Perm (hb ++ rest) ∧ FRw (L.eraseIdx k) (vs.take (k * 3) ++ vs.drop ((k + 1) * 3)) rest
  | [], vs, h, H, k, x, hk => by simp at hk
  | y :: L, vs, h, H, 0, x, hk => by
    obtain ⟨v, hb, vs', h', R, F, rfl, rfl⟩ := H
    obtain rfl : y = x := by simpa using hk
    exact ⟨v, hb, h', rfl, R, List.Perm.refl _, F⟩
  | y :: L, vs, h, H, k + 1, x, hk => by
    obtain ⟨v, hb, vs', h', R, F, rfl, rfl⟩ := H
    obtain ⟨u, hu, rest, e1, R1, p1, F1⟩ := FRw.erase F k x (by simpa using hk)
    have e3 : ∀ i, (k + 1) * 3 + i = (k * 3 + i) + 3 := by intro i; omega
    have e4 : (k + 1) * 3 = k * 3 + 3 := by omega
    have e5 : (k + 1 + 1) * 3 = (k + 1) * 3 + 3 := by omega
    refine ⟨u, hu, hb ++ rest, by rw [e3]; exact e1, R1, (p1.append_left hb).trans (by classical rw [List.perm_iff_count]; intro a; simp only [List.count_append, List.count_cons, List.count_nil] <;> omega), ?_⟩
    rw [e4] at F1
    rw [e5, e4]
    exact ⟨v, hb, _, rest, R, F1, rfl, rfl⟩
theorem mem_tot : ∀ (L : List (ByteArray × Fl)) (x : ByteArray × Fl), x ∈ L → x.2.b.length ≤ totM L
  | [], x, h => by simp at h
  | y :: L, x, h => by
    simp only [totM, List.map_cons, List.sum_cons]
    rcases List.mem_cons.1 h with rfl | h
    · omega
    · have := mem_tot L x h
      simp only [totM] at this
      omega
set_option maxRecDepth 100000 in
set_option maxHeartbeats 8000000 in
theorem rappend_calls (d : Nat) (m : DM) (h F : Hp) (s : ByteArray) (A : Option Addr) (cA : Nat) (bs : List UInt8) (w0 w : World) (hcA : A = none → cA = 0) (hcnt : m.fl.length ≤ 9000) (hok : m.ok) (hbs : bs.length ≤ 100000000) (hI : IsR d m h) (H : Holds w0 (h ++ F) w) (hr : ∀ w', Holds w0 F w' → Reads w' A bs.length 1 (bv bs)) :
    Calls Try.prog 20 #[.pointer (some ⟨d, 0, none⟩), .string s, .slice A bs.length cA] w fun e w' => e = .returned (.int .i64 (appM m s bs).1) ∧ ∃ h', IsR d (appM m s bs).2 h' ∧ Holds w0 (h' ++ F) w' := by
  have HA := Lib.hid (ask_at d m h F s w0 w (by omega) hI H)
  have HI := Lib.hid hI
  have HH0 := Lib.hid H
  have HAP := Lib.hid hok.apart
  have HOK := Lib.hid hok
  have HRD := Lib.hid hr
  have HCA := Lib.hid hcA
  have HSZ := Lib.hid (fun w2 (hb : Below w.heap.size w w2) => rsize_calls d m h F w0 w2 (by omega) (by have := hok.tot; have := hok.room; omega) hI (H.grow hb))
  have HRM := Lib.hid (fun w2 (hb : Below w.heap.size w w2) => show w2.cell? ⟨d, 0, none⟩ = some (.int .i64 m.room) from by
    obtain ⟨v, hL, vs, hf, R, FR, rfl⟩ := hI
    exact Holds.cell (H.grow hb) 0)
  obtain ⟨T, hT⟩ : ∃ T, T = totM m.fl := ⟨_, rfl⟩
  have htot : (T : Int) ≤ m.room := by rw [hT]; exact hok.tot
  have hroom := hok.room
  have hroom0 := hok.room0
  have hwr : IntKind.i64.wrap (m.room - (T : Int)) = m.room - (T : Int) := by rw [IntKind.wrap_i64]; omega
  have HT := Lib.hid hT
  rw [← hT] at HSZ
  obtain ⟨nb, hnb⟩ : ∃ nb, bs.length = nb := ⟨_, rfl⟩
  have HNB := Lib.hid hnb
  rw [hnb] at hbs ⊢
  clear hr hcA hok hnb
  rcases ask_cases2 m s with ⟨er, he, hq, hq2, _⟩ | ⟨hq, hfn, hq2, _⟩ | ⟨k, x, hx, hxs, hq, hq2, _⟩
  · rw [hq2]
    rw [hq] at HA
    clear hq hq2 hI H hT
    rcases he with rfl | rfl
    all_goals
      go_enter Try.func20, Try.ntmps20
      go_wp2_with fail
      refine HA.out.mono ?_
      rintro e w5 ⟨rfl, rfl⟩
      go_wp2_with fail
      go_ret
      exact ⟨rfl, _, HI.out, HH0.out⟩
  · rw [hq2, ← hT, HNB.out]
    rw [hq] at HA
    clear hq hq2 hT
    by_cases h6 : m.room - (T : Int) < (nb : Int)
    · rw [if_pos h6]
      clear hI H
      go_enter Try.func20, Try.ntmps20
      go_wp2_with fail
      refine HA.out.mono ?_
      rintro e w5 ⟨rfl, rfl⟩
      go_wp2_with fail
      refine region_quiet_lit (C := fun w' => Below w5.heap.size w5 w') (by kernel_rfl) (by kernel_rfl) (Below.refl _ _).drew ?_
      go_big_quiet_step (exact fun _ => rfl)
      go_big_quiet_step (exact fun _ => rfl)
      go_big_quiet_step (exact fun _ => rfl)
      go_big_quiet_step (exact fun _ => rfl)
      go_big_quiet_step (exact fun _ => rfl)
      refine BigFrame.wpQuiet_want rfl (fun K hK => ?_)
      refine quiet_val (.int .i64 m.room) (fun w2 hw => by have q := HRM.out w2 hw; simp [go_sem, q]) (hK _ ?_)
      clear hK K
      simp only [Act.put, List.setIfInBounds_toArray, List.set_cons_zero, List.set_cons_succ]
      go_big_quiet_step (exact fun _ => rfl)
      refine BigFrame.wpQuiet_want rfl (fun K hK => ?_)
      refine quiet_call 37 #[.pointer (some ⟨d, 0, none⟩)] (.int .i64 (T : Nat)) (fun w2 => by simp [go_sem]) (fun w2 hw => (HSZ.out w2 hw).mono fun e w3 hh => ⟨hh.1, by rw [hh.2]; exact hw⟩) (hK _ ?_)
      clear hK K
      simp only [Act.put, List.setIfInBounds_toArray, List.set_cons_zero, List.set_cons_succ]
      refine BigFrame.wpQuiet_want rfl (fun K hK => ?_)
      refine quiet_val (.int .i64 (m.room - (T : Int))) (fun w2 hw => by simp [go_sem, hwr]) (hK _ ?_)
      clear hK K
      simp only [Act.put, List.setIfInBounds_toArray, List.set_cons_zero, List.set_cons_succ]
      go_big_quiet_step (exact fun _ => rfl)
      refine wpQuiet_nil ?_
      intro w4 hw4
      go_wp2_with fail
      go_ret
      exact ⟨rfl, _, HI.out, HH0.out.grow hw4⟩
    · rw [if_neg h6]
      obtain ⟨v, hrw, vs, hf, hR, hF, rfl⟩ := hI
      have HR := Lib.hid hR; have HF := Lib.hid hF
      have HNE := Lib.hid (show ∀ y ∈ m.fl, y.1 ≠ s from fun y hy e => by have := List.find?_eq_none.mp hfn y hy; simp [namedM, e] at this)
      clear hR hF hfn H
      go_enter Try.func20, Try.ntmps20
      go_wp2_with fail
      refine HA.out.mono ?_
      rintro e w5 ⟨rfl, rfl⟩
      go_wp2_with fail
      refine region_quiet_lit (C := fun w' => Below w5.heap.size w5 w') (by kernel_rfl) (by kernel_rfl) (Below.refl _ _).drew ?_
      go_big_quiet_step (exact fun _ => rfl)
      go_big_quiet_step (exact fun _ => rfl)
      go_big_quiet_step (exact fun _ => rfl)
      go_big_quiet_step (exact fun _ => rfl)
      go_big_quiet_step (exact fun _ => rfl)
      refine BigFrame.wpQuiet_want rfl (fun K hK => ?_)
      refine quiet_val (.int .i64 m.room) (fun w2 hw => by have q := HRM.out w2 hw; simp [go_sem, q]) (hK _ ?_)
      clear hK K
      simp only [Act.put, List.setIfInBounds_toArray, List.set_cons_zero, List.set_cons_succ]
      go_big_quiet_step (exact fun _ => rfl)
      refine BigFrame.wpQuiet_want rfl (fun K hK => ?_)
      refine quiet_call 37 #[.pointer (some ⟨d, 0, none⟩)] (.int .i64 (T : Nat)) (fun w2 => by simp [go_sem]) (fun w2 hw => (HSZ.out w2 hw).mono fun e w3 hh => ⟨hh.1, by rw [hh.2]; exact hw⟩) (hK _ ?_)
      clear hK K
      simp only [Act.put, List.setIfInBounds_toArray, List.set_cons_zero, List.set_cons_succ]
      refine BigFrame.wpQuiet_want rfl (fun K hK => ?_)
      refine quiet_val (.int .i64 (m.room - (T : Int))) (fun w2 hw => by simp [go_sem, hwr]) (hK _ ?_)
      clear hK K
      simp only [Act.put, List.setIfInBounds_toArray, List.set_cons_zero, List.set_cons_succ]
      go_big_quiet_step (exact fun _ => rfl)
      refine wpQuiet_nil ?_
      intro w4 hw4
      have HH4 := Lib.hid (HH0.out.grow hw4)
      have HRD4 := Lib.hid (show Reads (w4.alloc (.cells #[] 5)) A bs.length 1 (bv bs) from HRD.out _ (((HH4.out).right).alloc_ _))
      obtain ⟨v8, h8, w8, r1, r2, r3⟩ := bytes_append (bs := []) (RowB.lit HH4.out #[] 0 (by decide) rfl) ((HH4.out.alloc (.cells #[] 5)).perm (k := [(w4.heap.size, .cells #[] 5)] ++ ((d, rO m v) :: (hrw ++ (hf ++ F)))) (by classical rw [List.perm_iff_count]; intro a; simp only [List.count_append, List.count_cons, List.count_nil] <;> omega)) 28 A cA bs HCA.out HRD4.out (by rw [HNB.out]; simp; omega)
      rw [HNB.out] at r1
      rw [List.nil_append] at r2
      obtain ⟨A8, c8, rfl, _, hA8⟩ := RowB.form r2
      have HR1 := Lib.hid r1
      have HLAY := Lib.hid (rlay_calls d m m.fl.length v vs m.fl s A8 bs.length c8 0 hrw (hf ++ (h8 ++ F)) w0 w8 (by omega) rfl (FRw.oc HF.out) (fun j y hy => (FRw.at_ HF.out j y hy).1) HR.out (r3.perm (by classical rw [List.perm_iff_count]; intro a; simp only [List.count_append, List.count_cons, List.count_nil] <;> omega)))
      have HR2 := Lib.hid r2
      rw [HNB.out] at HR1 HLAY
      clear hw4 r1 r2 r3
      go_wp2_with ((with_reducible refine apL (.tmp 36) (.tmp 37) ?_ ?_ HR1.out ?_); rfl; rfl)
      refine HLAY.out.mono ?_
      rintro e w9 ⟨rfl, v9, hrw9, R9, H9⟩
      obtain ⟨h7, F7, p7⟩ := FRw.ins HF.out s ⟨bs, 0⟩ A8 nb c8 HNB.out.symm (by have := HR2.out; rw [HNB.out] at this; show RowB 5 1 _ bs.length _ _; rw [HNB.out]; exact this) HNE.out
      have hlen : (insM (s, ⟨bs, 0⟩) m.fl).length = m.fl.length + 1 := (ins_permM (s, ⟨bs, 0⟩) m.fl).length_eq
      have HFIN := Lib.hid (show ∃ h', IsR d { m with fl := insM (s, ⟨bs, 0⟩) m.fl } h' ∧ Holds w0 (h' ++ F) w9 from
        ⟨(d, rO m v9) :: (hrw9 ++ h7), ⟨v9, hrw9, _, h7, by rw [hlen]; exact R9, F7, rfl⟩, H9.perm (by classical rw [List.perm_iff_count] at p7 ⊢; intro a; have := p7 a; simp only [List.count_append, List.count_cons] at this ⊢; omega)⟩)
      clear R9 H9 F7 p7 hlen
      go_wp2_with fail
      go_ret
      exact ⟨rfl, HFIN.out⟩
  · rw [hq2, ← hT, HNB.out]
    rw [hq] at HA
    clear hq hq2
    by_cases h6 : m.room - (T : Int) < (nb : Int)
    · rw [if_pos h6]
      clear hI H hT hx hxs
      go_enter Try.func20, Try.ntmps20
      go_wp2_with fail
      refine HA.out.mono ?_
      rintro e w5 ⟨rfl, rfl⟩
      go_wp2_with fail
      refine region_quiet_lit (C := fun w' => Below w5.heap.size w5 w') (by kernel_rfl) (by kernel_rfl) (Below.refl _ _).drew ?_
      go_big_quiet_step (exact fun _ => rfl)
      go_big_quiet_step (exact fun _ => rfl)
      go_big_quiet_step (exact fun _ => rfl)
      go_big_quiet_step (exact fun _ => rfl)
      go_big_quiet_step (exact fun _ => rfl)
      refine BigFrame.wpQuiet_want rfl (fun K hK => ?_)
      refine quiet_val (.int .i64 m.room) (fun w2 hw => by have q := HRM.out w2 hw; simp [go_sem, q]) (hK _ ?_)
      clear hK K
      simp only [Act.put, List.setIfInBounds_toArray, List.set_cons_zero, List.set_cons_succ]
      go_big_quiet_step (exact fun _ => rfl)
      refine BigFrame.wpQuiet_want rfl (fun K hK => ?_)
      refine quiet_call 37 #[.pointer (some ⟨d, 0, none⟩)] (.int .i64 (T : Nat)) (fun w2 => by simp [go_sem]) (fun w2 hw => (HSZ.out w2 hw).mono fun e w3 hh => ⟨hh.1, by rw [hh.2]; exact hw⟩) (hK _ ?_)
      clear hK K
      simp only [Act.put, List.setIfInBounds_toArray, List.set_cons_zero, List.set_cons_succ]
      refine BigFrame.wpQuiet_want rfl (fun K hK => ?_)
      refine quiet_val (.int .i64 (m.room - (T : Int))) (fun w2 hw => by simp [go_sem, hwr]) (hK _ ?_)
      clear hK K
      simp only [Act.put, List.setIfInBounds_toArray, List.set_cons_zero, List.set_cons_succ]
      go_big_quiet_step (exact fun _ => rfl)
      refine wpQuiet_nil ?_
      intro w4 hw4
      go_wp2_with fail
      go_ret
      exact ⟨rfl, _, HI.out, HH0.out.grow hw4⟩
    · rw [if_neg h6]
      obtain ⟨gL, c, cur, B, cB, hb, rest, H0, hc0, hrb, hcb, hBn, hks, hc1, hc2, hput⟩ := hI.file H k x hx
      have HH := Lib.hid H0; have HRB := Lib.hid hrb; have HBN := Lib.hid hBn; have HC1 := Lib.hid hc1; have HC2 := Lib.hid hc2; have HPUT := Lib.hid hput
      have hlt : k < m.fl.length := (List.getElem?_eq_some_iff.mp hx).1
      have hki : (k : Int) < (m.fl.length : Int) := by omega
      have HAT := Lib.hid (fun f => set_at s f m.fl k x HAP.out hx hxs)
      have HXS := Lib.hid hxs
      have hxl : x.2.b.length ≤ T := by rw [hT]; exact mem_tot _ x (List.mem_of_getElem? hx)
      have hk0 : ¬ (k : Int) < 0 := by omega
      clear hI H hT hx hxs hc1 hc2 hput hrb hBn H0
      go_enter Try.func20, Try.ntmps20
      go_wp2_with fail
      refine HA.out.mono ?_
      rintro e w5 ⟨rfl, rfl⟩
      go_wp2_with fail
      refine region_quiet_lit (C := fun w' => Below w5.heap.size w5 w') (by kernel_rfl) (by kernel_rfl) (Below.refl _ _).drew ?_
      go_big_quiet_step (exact fun _ => rfl)
      go_big_quiet_step (exact fun _ => rfl)
      go_big_quiet_step (exact fun _ => rfl)
      go_big_quiet_step (exact fun _ => rfl)
      go_big_quiet_step (exact fun _ => rfl)
      refine BigFrame.wpQuiet_want rfl (fun K hK => ?_)
      refine quiet_val (.int .i64 m.room) (fun w2 hw => by have q := HRM.out w2 hw; simp [go_sem, q]) (hK _ ?_)
      clear hK K
      simp only [Act.put, List.setIfInBounds_toArray, List.set_cons_zero, List.set_cons_succ]
      go_big_quiet_step (exact fun _ => rfl)
      refine BigFrame.wpQuiet_want rfl (fun K hK => ?_)
      refine quiet_call 37 #[.pointer (some ⟨d, 0, none⟩)] (.int .i64 (T : Nat)) (fun w2 => by simp [go_sem]) (fun w2 hw => (HSZ.out w2 hw).mono fun e w3 hh => ⟨hh.1, by rw [hh.2]; exact hw⟩) (hK _ ?_)
      clear hK K
      simp only [Act.put, List.setIfInBounds_toArray, List.set_cons_zero, List.set_cons_succ]
      refine BigFrame.wpQuiet_want rfl (fun K hK => ?_)
      refine quiet_val (.int .i64 (m.room - (T : Int))) (fun w2 hw => by simp [go_sem, hwr]) (hK _ ?_)
      clear hK K
      simp only [Act.put, List.setIfInBounds_toArray, List.set_cons_zero, List.set_cons_succ]
      go_big_quiet_step (exact fun _ => rfl)
      refine wpQuiet_nil ?_
      intro w4 hw4
      have HH4 := Lib.hid (HH.out.grow hw4)
      clear hw4
      go_wp2_with fail
      refine wp_region_own 17 (fun k => match k with | 14 => [5] | 16 => [14] | 17 => [16] | _ => []) (by kernel_rfl) (by kernel_rfl) (by kernel_rfl) (by kernel_rfl) (Nat.le_of_ble_eq_true (by kernel_rfl)) w0 (fun Ls hs => hs = ((gL, Obj.cells cur 51) :: ((d, rO m (.slice (some ⟨gL, 0, none⟩) m.fl.length c)) :: (hb ++ (rest ++ F))))) (fun i v h => match i with | 0 => v = .pointer (some ⟨d, 0, none⟩) ∧ h = [] | 1 => v = .pointer (some ⟨d, 0, none⟩) ∧ h = [] | 2 => v = .pointer (some ⟨d, 1, none⟩) ∧ h = [] | 3 => v = .slice (some ⟨gL, 0, none⟩) m.fl.length c ∧ h = [] | 4 => v = .int .i64 (k : Nat) ∧ h = [] | 5 => RowB 5 1 v 0 (bv []) h | 6 => v = .pointer (some ⟨d, 0, none⟩) ∧ h = [] | 7 => v = .pointer (some ⟨d, 0, none⟩) ∧ h = [] | 8 => v = .pointer (some ⟨d, 1, none⟩) ∧ h = [] | 9 => v = .slice (some ⟨gL, 0, none⟩) m.fl.length c ∧ h = [] | 10 => v = .int .i64 (k : Nat) ∧ h = [] | 11 => v = .pointer (some ⟨gL, k * 3, none⟩) ∧ h = [] | 12 => v = .pointer (some ⟨gL, k * 3 + 1, none⟩) ∧ h = [] | 13 => v = Value.slice B x.2.b.length cB ∧ h = [] | 14 => RowB 5 1 v ([] ++ x.2.b).length (bv ([] ++ x.2.b)) h | 15 => v = .slice A nb cA ∧ h = [] | 16 => RowB 5 1 v (([] ++ x.2.b) ++ bs).length (bv (([] ++ x.2.b) ++ bs)) h | _ => True) (((gL, Obj.cells cur 51) :: ((d, rO m (.slice (some ⟨gL, 0, none⟩) m.fl.length c)) :: (hb ++ (rest ++ F))))) (rfl) (HH4.out.drew) ?_ ?_
      · intro i o hi ho Ls f Hf hs R w1 hI hL hd hH
        simp only [fill, List.take_succ_cons, List.take_zero, Act.put, List.setIfInBounds_toArray, List.set_cons_zero, List.set_cons_succ]
        match i, hi with
        | 0, _ =>
          obtain rfl := Option.some.inj ho
          clear hd ho
          have hH : Holds w0 (hs ++ ([] ++ R)) w1 := hH
          rw [show hs = ((gL, Obj.cells cur 51) :: ((d, rO m (.slice (some ⟨gL, 0, none⟩) m.fl.length c)) :: (hb ++ (rest ++ F)))) from hI] at hH
          clear hI
          unfold wpOp
          refine Or.inl ?_
          unfold Oper.wp
          go_simp
          exact OwnBy.mk _ _ _ rfl (rfl) (⟨rfl, rfl⟩) (hH)
        | 1, _ =>
          obtain rfl := Option.some.inj ho
          have e0 : f 0 = .pointer (some ⟨d, 0, none⟩) := (hd ⟨0, .data⟩ (by simp) rfl).2.1
          clear hd ho
          have hH : Holds w0 (hs ++ ([] ++ R)) w1 := hH
          rw [show hs = ((gL, Obj.cells cur 51) :: ((d, rO m (.slice (some ⟨gL, 0, none⟩) m.fl.length c)) :: (hb ++ (rest ++ F)))) from hI] at hH
          clear hI
          unfold wpOp
          refine Or.inl ?_
          simp only [e0]
          unfold Oper.wp
          go_simp
          exact OwnBy.mk _ _ _ rfl (rfl) (⟨rfl, rfl⟩) (hH)
        | 2, _ =>
          obtain rfl := Option.some.inj ho
          have e1 : f 1 = .pointer (some ⟨d, 0, none⟩) := (hd ⟨1, .data⟩ (by simp) rfl).2.1
          clear hd ho
          have hH : Holds w0 (hs ++ ([] ++ R)) w1 := hH
          rw [show hs = ((gL, Obj.cells cur 51) :: ((d, rO m (.slice (some ⟨gL, 0, none⟩) m.fl.length c)) :: (hb ++ (rest ++ F)))) from hI] at hH
          clear hI
          unfold wpOp
          refine Or.inl ?_
          simp only [e1]
          unfold Oper.wp
          go_simp
          exact OwnBy.mk _ _ _ rfl (rfl) (⟨rfl, rfl⟩) (hH)
        | 3, _ =>
          obtain rfl := Option.some.inj ho
          have e2 : f 2 = .pointer (some ⟨d, 1, none⟩) := (hd ⟨2, .data⟩ (by simp) rfl).2.1
          clear hd ho
          have hH : Holds w0 (hs ++ ([] ++ R)) w1 := hH
          rw [show hs = ((gL, Obj.cells cur 51) :: ((d, rO m (.slice (some ⟨gL, 0, none⟩) m.fl.length c)) :: (hb ++ (rest ++ F)))) from hI] at hH
          clear hI
          unfold wpOp
          refine Or.inl ?_
          simp only [e2]
          unfold Oper.wp
          have q : w1.cell? ⟨d, 1, none⟩ = some (.slice (some ⟨gL, 0, none⟩) m.fl.length c) := Holds.cell (hH.tail) 1
          go_simp
          exact OwnBy.mk _ _ _ rfl (rfl) (⟨rfl, rfl⟩) (hH)
        | 4, _ =>
          obtain rfl := Option.some.inj ho
          clear hd ho
          have hH : Holds w0 (hs ++ ([] ++ R)) w1 := hH
          rw [show hs = ((gL, Obj.cells cur 51) :: ((d, rO m (.slice (some ⟨gL, 0, none⟩) m.fl.length c)) :: (hb ++ (rest ++ F)))) from hI] at hH
          clear hI
          unfold wpOp
          refine Or.inl ?_
          unfold Oper.wp
          go_simp
          exact OwnBy.mk _ _ _ rfl (rfl) (⟨rfl, rfl⟩) (hH)
        | 5, _ =>
          obtain rfl := Option.some.inj ho
          clear hd ho
          have hH : Holds w0 (hs ++ ([] ++ R)) w1 := hH
          rw [show hs = ((gL, Obj.cells cur 51) :: ((d, rO m (.slice (some ⟨gL, 0, none⟩) m.fl.length c)) :: (hb ++ (rest ++ F)))) from hI] at hH
          clear hI
          unfold wpOp
          refine Or.inl ?_
          unfold Oper.wp
          go_simp
          exact OwnBy.mk _ [(w1.heap.size, .cells #[] 5)] _ rfl rfl (RowB.lit hH #[] 0 (by decide) rfl) ((hH.alloc (.cells #[] 5)).perm (by classical rw [List.perm_iff_count]; intro a; simp only [List.count_append, List.count_cons, List.count_nil] <;> omega))
        | 6, _ =>
          obtain rfl := Option.some.inj ho
          clear hd ho
          have hH : Holds w0 (hs ++ ([] ++ R)) w1 := hH
          rw [show hs = ((gL, Obj.cells cur 51) :: ((d, rO m (.slice (some ⟨gL, 0, none⟩) m.fl.length c)) :: (hb ++ (rest ++ F)))) from hI] at hH
          clear hI
          unfold wpOp
          refine Or.inl ?_
          unfold Oper.wp
          go_simp
          exact OwnBy.mk _ _ _ rfl (rfl) (⟨rfl, rfl⟩) (hH)
        | 7, _ =>
          obtain rfl := Option.some.inj ho
          have e6 : f 6 = .pointer (some ⟨d, 0, none⟩) := (hd ⟨6, .data⟩ (by simp) rfl).2.1
          clear hd ho
          have hH : Holds w0 (hs ++ ([] ++ R)) w1 := hH
          rw [show hs = ((gL, Obj.cells cur 51) :: ((d, rO m (.slice (some ⟨gL, 0, none⟩) m.fl.length c)) :: (hb ++ (rest ++ F)))) from hI] at hH
          clear hI
          unfold wpOp
          refine Or.inl ?_
          simp only [e6]
          unfold Oper.wp
          go_simp
          exact OwnBy.mk _ _ _ rfl (rfl) (⟨rfl, rfl⟩) (hH)
        | 8, _ =>
          obtain rfl := Option.some.inj ho
          have e7 : f 7 = .pointer (some ⟨d, 0, none⟩) := (hd ⟨7, .data⟩ (by simp) rfl).2.1
          clear hd ho
          have hH : Holds w0 (hs ++ ([] ++ R)) w1 := hH
          rw [show hs = ((gL, Obj.cells cur 51) :: ((d, rO m (.slice (some ⟨gL, 0, none⟩) m.fl.length c)) :: (hb ++ (rest ++ F)))) from hI] at hH
          clear hI
          unfold wpOp
          refine Or.inl ?_
          simp only [e7]
          unfold Oper.wp
          go_simp
          exact OwnBy.mk _ _ _ rfl (rfl) (⟨rfl, rfl⟩) (hH)
        | 9, _ =>
          obtain rfl := Option.some.inj ho
          have e8 : f 8 = .pointer (some ⟨d, 1, none⟩) := (hd ⟨8, .data⟩ (by simp) rfl).2.1
          clear hd ho
          have hH : Holds w0 (hs ++ ([] ++ R)) w1 := hH
          rw [show hs = ((gL, Obj.cells cur 51) :: ((d, rO m (.slice (some ⟨gL, 0, none⟩) m.fl.length c)) :: (hb ++ (rest ++ F)))) from hI] at hH
          clear hI
          unfold wpOp
          refine Or.inl ?_
          simp only [e8]
          unfold Oper.wp
          have q : w1.cell? ⟨d, 1, none⟩ = some (.slice (some ⟨gL, 0, none⟩) m.fl.length c) := Holds.cell (hH.tail) 1
          go_simp
          exact OwnBy.mk _ _ _ rfl (rfl) (⟨rfl, rfl⟩) (hH)
        | 10, _ =>
          obtain rfl := Option.some.inj ho
          clear hd ho
          have hH : Holds w0 (hs ++ ([] ++ R)) w1 := hH
          rw [show hs = ((gL, Obj.cells cur 51) :: ((d, rO m (.slice (some ⟨gL, 0, none⟩) m.fl.length c)) :: (hb ++ (rest ++ F)))) from hI] at hH
          clear hI
          unfold wpOp
          refine Or.inl ?_
          unfold Oper.wp
          go_simp
          exact OwnBy.mk _ _ _ rfl (rfl) (⟨rfl, rfl⟩) (hH)
        | 11, _ =>
          obtain rfl := Option.some.inj ho
          have e9 : f 9 = .slice (some ⟨gL, 0, none⟩) m.fl.length c := (hd ⟨9, .data⟩ (by simp) rfl).2.1
          have e10 : f 10 = .int .i64 (k : Nat) := (hd ⟨10, .data⟩ (by simp) rfl).2.1
          clear hd ho
          have hH : Holds w0 (hs ++ ([] ++ R)) w1 := hH
          rw [show hs = ((gL, Obj.cells cur 51) :: ((d, rO m (.slice (some ⟨gL, 0, none⟩) m.fl.length c)) :: (hb ++ (rest ++ F)))) from hI] at hH
          clear hI
          unfold wpOp
          refine Or.inl ?_
          simp only [e9, e10]
          unfold Oper.wp
          go_simp
          exact OwnBy.mk _ _ _ rfl (rfl) (⟨rfl, rfl⟩) (hH)
        | 12, _ =>
          obtain rfl := Option.some.inj ho
          have e11 : f 11 = .pointer (some ⟨gL, k * 3, none⟩) := (hd ⟨11, .data⟩ (by simp) rfl).2.1
          clear hd ho
          have hH : Holds w0 (hs ++ ([] ++ R)) w1 := hH
          rw [show hs = ((gL, Obj.cells cur 51) :: ((d, rO m (.slice (some ⟨gL, 0, none⟩) m.fl.length c)) :: (hb ++ (rest ++ F)))) from hI] at hH
          clear hI
          unfold wpOp
          refine Or.inl ?_
          simp only [e11]
          unfold Oper.wp
          go_simp
          exact OwnBy.mk _ _ _ rfl (rfl) (⟨rfl, rfl⟩) (hH)
        | 13, _ =>
          obtain rfl := Option.some.inj ho
          have e12 : f 12 = .pointer (some ⟨gL, k * 3 + 1, none⟩) := (hd ⟨12, .data⟩ (by simp) rfl).2.1
          clear hd ho
          have hH : Holds w0 (hs ++ ([] ++ R)) w1 := hH
          rw [show hs = ((gL, Obj.cells cur 51) :: ((d, rO m (.slice (some ⟨gL, 0, none⟩) m.fl.length c)) :: (hb ++ (rest ++ F)))) from hI] at hH
          clear hI
          unfold wpOp
          refine Or.inl ?_
          simp only [e12]
          unfold Oper.wp
          have q : w1.cell? ⟨gL, k * 3 + 1, none⟩ = some (.slice B x.2.b.length cB) := (Holds.cell hH (k * 3 + 1)).trans HC1.out
          go_simp
          exact OwnBy.mk _ _ _ rfl (rfl) (⟨rfl, rfl⟩) (hH)
        | 14, _ =>
          obtain rfl := Option.some.inj ho
          have e5 := (hd ⟨5, .data⟩ (by simp) rfl).2
          have e13 : f 13 = Value.slice B x.2.b.length cB := (hd ⟨13, .data⟩ (by simp) rfl).2.1
          clear hd ho
          have hH : Holds w0 (hs ++ ((Hf 5 ++ ([])) ++ R)) w1 := hH
          simp only [List.append_nil, List.append_assoc] at hH
          rw [show hs = ((gL, Obj.cells cur 51) :: ((d, rO m (.slice (some ⟨gL, 0, none⟩) m.fl.length c)) :: (hb ++ (rest ++ F)))) from hI] at hH
          clear hI
          unfold wpOp
          refine Or.inl ?_
          simp only [e13]
          unfold Oper.wp
          obtain ⟨A0, c0, hv0, _, _, hrd⟩ := HRB.out.reads (hH.perm (k := hb ++ (((gL, Obj.cells cur 51) :: ((d, rO m (.slice (some ⟨gL, 0, none⟩) m.fl.length c)) :: (rest ++ F))) ++ (Hf 5 ++ R))) (by classical rw [List.perm_iff_count]; intro a; simp only [List.count_append, List.count_cons, List.count_nil] <;> omega))
          injection hv0 with hv0 _ hv0c
          subst hv0
          subst hv0c
          obtain ⟨v8, h8, w8, r1, r2, r3⟩ := bytes_append (bs := []) e5 (hH.perm (k := Hf 5 ++ (((gL, Obj.cells cur 51) :: ((d, rO m (.slice (some ⟨gL, 0, none⟩) m.fl.length c)) :: (hb ++ (rest ++ F)))) ++ R)) (by classical rw [List.perm_iff_count]; intro a; simp only [List.count_append, List.count_cons, List.count_nil] <;> omega)) 28 (B) (cB) (x.2.b) (HBN.out) (hrd) (by simp only [List.length_nil, List.length_append, List.length_take]; omega)
          refine wpA (.tmp 46) (.tmp 54) rfl rfl rfl r1 ?_
          exact OwnBy.mk _ h8 _ rfl rfl r2 (r3.perm (by classical rw [List.perm_iff_count]; intro a; simp only [List.count_append, List.count_cons, List.count_nil] <;> omega))
        | 15, _ =>
          obtain rfl := Option.some.inj ho
          clear hd ho
          have hH : Holds w0 (hs ++ ([] ++ R)) w1 := hH
          rw [show hs = ((gL, Obj.cells cur 51) :: ((d, rO m (.slice (some ⟨gL, 0, none⟩) m.fl.length c)) :: (hb ++ (rest ++ F)))) from hI] at hH
          clear hI
          unfold wpOp
          refine Or.inl ?_
          unfold Oper.wp
          go_simp
          exact OwnBy.mk _ _ _ rfl (rfl) (⟨rfl, rfl⟩) (hH)
        | 16, _ =>
          obtain rfl := Option.some.inj ho
          have e14 := (hd ⟨14, .data⟩ (by simp) rfl).2
          have e15 : f 15 = .slice A nb cA := (hd ⟨15, .data⟩ (by simp) rfl).2.1
          clear hd ho
          have hH : Holds w0 (hs ++ ((Hf 14 ++ ([])) ++ R)) w1 := hH
          simp only [List.append_nil, List.append_assoc] at hH
          rw [show hs = ((gL, Obj.cells cur 51) :: ((d, rO m (.slice (some ⟨gL, 0, none⟩) m.fl.length c)) :: (hb ++ (rest ++ F)))) from hI] at hH
          clear hI
          unfold wpOp
          refine Or.inl ?_
          simp only [e15]
          unfold Oper.wp
          have hbl := HNB.out
          have hrd := HRD.out w1 (((hH.perm (k := (Hf 14 ++ ((gL, Obj.cells cur 51) :: ((d, rO m (.slice (some ⟨gL, 0, none⟩) m.fl.length c)) :: (hb ++ rest))) ++ R) ++ F) (by classical rw [List.perm_iff_count]; intro a; simp only [List.count_append, List.count_cons, List.count_nil] <;> omega))).right)
          obtain ⟨v8, h8, w8, r1, r2, r3⟩ := bytes_append (bs := ([] ++ x.2.b)) e14 (hH.perm (k := Hf 14 ++ (((gL, Obj.cells cur 51) :: ((d, rO m (.slice (some ⟨gL, 0, none⟩) m.fl.length c)) :: (hb ++ (rest ++ F)))) ++ R)) (by classical rw [List.perm_iff_count]; intro a; simp only [List.count_append, List.count_cons, List.count_nil] <;> omega)) 28 (A) (cA) (bs) (HCA.out) (hrd) (by simp only [List.length_nil, List.length_append, List.length_take]; omega)
          rw [HNB.out] at r1
          refine wpA (.tmp 55) (.tmp 56) rfl rfl rfl r1 ?_
          exact OwnBy.mk _ h8 _ rfl rfl r2 (r3.perm (by classical rw [List.perm_iff_count]; intro a; simp only [List.count_append, List.count_cons, List.count_nil] <;> omega))
        | _ + 17, h17 => exact absurd h17 (by omega)
      · intro Ls f Hf hs w1 hI hL hV hH
        have e0 : f 0 = .pointer (some ⟨d, 0, none⟩) := (hV 0 (by decide)).1
        have e1 : f 1 = .pointer (some ⟨d, 0, none⟩) := (hV 1 (by decide)).1
        have e2 : f 2 = .pointer (some ⟨d, 1, none⟩) := (hV 2 (by decide)).1
        have e3 : f 3 = .slice (some ⟨gL, 0, none⟩) m.fl.length c := (hV 3 (by decide)).1
        have e4 : f 4 = .int .i64 (k : Nat) := (hV 4 (by decide)).1
        have e5 := hV 5 (by decide)
        have e6 : f 6 = .pointer (some ⟨d, 0, none⟩) := (hV 6 (by decide)).1
        have e7 : f 7 = .pointer (some ⟨d, 0, none⟩) := (hV 7 (by decide)).1
        have e8 : f 8 = .pointer (some ⟨d, 1, none⟩) := (hV 8 (by decide)).1
        have e9 : f 9 = .slice (some ⟨gL, 0, none⟩) m.fl.length c := (hV 9 (by decide)).1
        have e10 : f 10 = .int .i64 (k : Nat) := (hV 10 (by decide)).1
        have e11 : f 11 = .pointer (some ⟨gL, k * 3, none⟩) := (hV 11 (by decide)).1
        have e12 : f 12 = .pointer (some ⟨gL, k * 3 + 1, none⟩) := (hV 12 (by decide)).1
        have e13 : f 13 = Value.slice B x.2.b.length cB := (hV 13 (by decide)).1
        have e14 := hV 14 (by decide)
        have e15 : f 15 = .slice A nb cA := (hV 15 (by decide)).1
        have e16 := hV 16 (by decide)
        clear hV
        have hH : Holds w0 (hs ++ (Hf 16 ++ [])) w1 := hH
        simp only [List.append_nil, List.append_assoc] at hH
        simp only [fill, List.take_succ_cons, List.take_zero, List.drop_succ_cons, List.drop_zero, Act.put, List.setIfInBounds_toArray, List.set_cons_zero, List.set_cons_succ, e0, e1, e2, e3, e4, e6, e7, e8, e9, e10, e11, e12, e13, e15]
        rw [show hs = ((gL, Obj.cells cur 51) :: ((d, rO m (.slice (some ⟨gL, 0, none⟩) m.fl.length c)) :: (hb ++ (rest ++ F)))) from hI] at hH
        clear hI
        rw [List.nil_append] at e16
        obtain ⟨A8, c8, hv8, _, _⟩ := RowB.form e16
        obtain ⟨n8, hn8⟩ : ∃ n8, (x.2.b ++ bs).length = n8 := ⟨_, rfl⟩
        have HN8 := Lib.hid hn8
        rw [hv8] at e16 ⊢
        rw [hn8] at e16 ⊢
        have H9 : Holds w0 ((gL, Obj.cells cur 51) :: ((d, rO m (.slice (some ⟨gL, 0, none⟩) m.fl.length c)) :: (Hf 16 ++ (rest ++ F)) ++ hb)) w1 := hH.perm (by classical rw [List.perm_iff_count]; intro a; simp only [List.count_append, List.count_cons, List.count_nil] <;> omega)
        have q2 : w1.cell? ⟨gL, k * 3 + 1, none⟩ = some (.slice B x.2.b.length cB) := (H9.cell _).trans HC1.out
        have q3 : w1.frozen? ⟨gL, k * 3 + 1, none⟩ = false := H9.froz _
        have H10 : Holds w0 ((gL, Obj.cells (cur.setIfInBounds (k * 3 + 1) (.slice A8 n8 c8)) 51) :: ((d, rO m (.slice (some ⟨gL, 0, none⟩) m.fl.length c)) :: (Hf 16 ++ (rest ++ F)) ++ hb)) _ := H9.set (k * 3 + 1) (.slice A8 n8 c8)
        have HR8 := Lib.hid e16
        have HH10 := Lib.hid H10
        have HSELF := Lib.hid (show (cur.setIfInBounds (k * 3 + 1) (.slice A8 n8 c8)).setIfInBounds (k * 3 + 2) (.int .i64 (x.2.safe : Nat)) = cur.setIfInBounds (k * 3 + 1) (.slice A8 n8 c8) from by
          refine set_same _ _ _ ?_
          rw [Array.getElem?_setIfInBounds_ne (by omega)]
          exact HC2.out)
        clear hL hH hv8 hn8 H9 H10
        go_wp2_with fail
        go_ret
        refine ⟨rfl, ?_⟩
        rw [← HAT.out]
        have hfin := HPUT.out (.slice A8 n8 c8) ⟨x.2.b ++ bs, x.2.safe⟩ (Hf 16) _ (by show RowB 5 1 _ (x.2.b ++ bs).length _ _; rw [HN8.out]; exact HR8.out) (by rw [HSELF.out]; exact (HH10.out.perm (k := ((gL, _) :: ((d, rO m (.slice (some ⟨gL, 0, none⟩) m.fl.length c)) :: (Hf 16 ++ (rest ++ F)))) ++ hb) (by classical rw [List.perm_iff_count]; intro a; simp only [List.count_append, List.count_cons, List.count_nil] <;> omega)).left)
        rw [HXS.out] at hfin
        exact hfin
end Go.Proofs.Ytocpelkgiebkjaa
