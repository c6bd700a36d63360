/- The last statement of the document's Digits, whose order is open: by an invariant. -/
import Derived.Test.YtdmicehmmmpjcaaDoorText
import Derived.Test.YtdmicehmmmpjcaaDoorInv
import Derived.Laws.IdiomStrings
namespace Go.Proofs.YtdmicehmmmpjcaaDoor
open Go.RowKit
set_option linter.unusedVariables false
set_option linter.unusedSimpArgs false
theorem conv1 (w : World) (g : Nat) (z : Int) (h0 : 0 ≤ z) (h1 : z ≤ 255) (H : w.heap[g]? = some (.cells #[.int .u8 z] 5 (0, 0))) :
    (convert 53 9 (.slice (some ⟨g, 0, none⟩) 1 1)).run Tryd.prog w = .ok (.string ⟨#[UInt8.ofNat z.toNat]⟩) w := by
  have h := run_convert_bytes_back (P := Tryd.prog) w 53 9 5 ⟨g, 0, none⟩ 1 [UInt8.ofNat z.toNat] Tryd.underlying53 Tryd.underlying5 Tryd.underlying9 (fun j hj => by
    obtain rfl : j = 0 := by simpa using hj
    have e : ((UInt8.ofNat z.toNat).toNat : Int) = z := by
      rw [UInt8.toNat_ofNat']
      omega
    simp only [List.getElem_cons_zero]
    rw [e]
    simp [World.cell?, H, Addr.add])
  simpa using h
theorem convB (w w' : World) (c : Int) (h0 : 0 ≤ c) (h1 : c ≤ 255) (hb : Below (w.alloc (.cells #[.int .u8 c] 5)).heap.size (w.alloc (.cells #[.int .u8 c] 5)) w') :
    (convert 53 9 (.slice (some ⟨w.heap.size, 0, none⟩) 1 1)).run Tryd.prog w' = .ok (.string ⟨#[UInt8.ofNat c.toNat]⟩) w' :=
  conv1 _ _ c h0 h1 ((hb.block _ (by simp)).trans (heap_alloc_new w _))
theorem digits_lo (n : Int) (h0 : 0 ≤ n) (h1 : n < 10) (w : World) :
    Calls Tryd.prog 27 #[.int .i64 n] w fun e w' => e = .returned (.string ⟨#[UInt8.ofNat (48 + n).toNat]⟩) ∧ Below w.heap.size w w' := by
  have HZ := conv1 (w.alloc (.cells #[.int .u8 (48 + n)] 5)) w.heap.size (48 + n) (by omega) (by omega) (heap_alloc_new _ _)
  go_enter Tryd.func27, Tryd.ntmps27
  go_wp2_with fail
  go_ret
  exact ⟨rfl, (Below.refl _ _).alloc (Nat.le_refl _) _⟩
def DJ (n c : Int) (sA sB sC : ByteArray) (W : World) (L : Array Bool) (a : Act) (w' : World) : Prop :=
  L.size = 11 ∧ Below W.heap.size W w' ∧ ∃ v2 v18 v19 v20 v21 v22 v23 v24 v25 v26 v27, a = { tmps := #[.int .i64 n, undef, v2, .int .i64 n, .bool false, undef, undef, undef, undef, undef, undef, .int .i64 n, .bool false, undef, undef, undef, undef, undef, v18, v19, v20, v21, v22, v23, v24, v25, v26, v27], defers := [] } ∧
    (L.getD 0 false = true → v18 = .int .i64 n) ∧ (L.getD 1 false = true → v19 = .int .i64 (n / 10)) ∧ (L.getD 2 false = true → v20 = .string sA) ∧ (L.getD 3 false = true → v21 = .int .i64 n) ∧ (L.getD 4 false = true → v22 = .int .i64 (n % 10)) ∧ (L.getD 5 false = true → v23 = .int .i64 (48 + n % 10)) ∧ (L.getD 6 false = true → v24 = .int .u8 c) ∧ (L.getD 7 false = true → ∃ g, W.heap.size ≤ g ∧ v25 = .slice (some ⟨g, 0, none⟩) 1 1 ∧ w'.heap[g]? = some (.cells #[.int .u8 c] 5 (0, 0))) ∧ (L.getD 8 false = true → v26 = .string sB) ∧ (L.getD 9 false = true → v27 = .string sC) ∧ (L.getD 10 false = true → v2 = .string sC)
theorem getD_set (L : Array Bool) (i j : Nat) (h : i ≠ j) : (L.setIfInBounds i true).getD j false = L.getD j false := by simp [Array.getD_eq_getD_getElem?, Array.getElem?_setIfInBounds, h]
set_option maxHeartbeats 1000000 in
theorem digits_hi (n : Int) (h0 : 10 ≤ n) (h1 : n ≤ 9223372036854775807) (sA sB sC : ByteArray) (c : Int) (w : World) (hc : 0 ≤ c ∧ c ≤ 255) (e1 : IntKind.u8.wrap (48 + n % 10) = c)
    (hB : (⟨#[UInt8.ofNat c.toNat]⟩ : ByteArray) = sB) (e2 : ∀ w : World, (Op.stringOp .add sA sB).run Tryd.prog w = .ok (.string sC) w)
    (HI : Hid (∀ w, Calls Tryd.prog 27 #[.int .i64 (n / 10)] w fun e w' => e = .returned (.string sA) ∧ Below w.heap.size w w')) :
    Calls Tryd.prog 27 #[.int .i64 n] w fun e w' => e = .returned (.string sC) ∧ Below w.heap.size w w' := by
  have t1 : n.tdiv 10 = n / 10 := Int.tdiv_eq_ediv_of_nonneg (by omega)
  have t2 : n.tmod 10 = n % 10 := Int.tmod_eq_emod_of_nonneg (by omega)
  have t3 : IntKind.i64.wrap (n / 10) = n / 10 := by rw [IntKind.wrap_i64]; omega
  have t4 : IntKind.i64.wrap (n % 10) = n % 10 := by rw [IntKind.wrap_i64]; omega
  have t5 : IntKind.i64.wrap (48 + n % 10) = 48 + n % 10 := by rw [IntKind.wrap_i64]; omega
  have d1 : decide (n < 0) = false := by simp; omega
  have d2 : decide (n < 10) = false := by simp; omega
  go_enter Tryd.func27, Tryd.ntmps27
  go_wp2_with fail
  refine wp_region_inv (by kernel_rfl) (DJ n c sA sB sC w) ?_ ?_ ?_
  · refine ⟨by simp, ⟨rfl, rfl, rfl, Nat.le_refl _, fun _ _ => rfl⟩, _, _, _, _, _, _, _, _, _, _, _, rfl, ?_⟩
    simp
  · rintro L a' w' ⟨hz, hb, v2, v18, v19, v20, v21, v22, v23, v24, v25, v26, v27, rfl, k0, k1, k2, k3, k4, k5, k6, k7, k8, k9, k10⟩ hr
    have fin : ∀ i, i < 11 → (¬ L.getD i false = true → i ∈ ([] : List Nat)) → L.getD i false = true := fun i hi h => by
      by_cases hq : L.getD i false = true
      · exact hq
      · cases h hq
    rw [← hr] at fin
    have un : ∀ i, i < 11 → ¬ L.getD i false = true → L.getD i true = false := fun i hi h => by
      simpa [Array.getD_eq_getD_getElem?, Array.getElem?_eq_getElem (show i < L.size by omega)] using h
    have q0 := fin 0 (by decide) (fun h => mem_ready.2 ⟨un 0 (by decide) h, _, rfl, by simp⟩)
    have q0' : L[0]?.getD false = true := by simpa [Array.getD_eq_getD_getElem?] using q0
    have q1 := fin 1 (by decide) (fun h => mem_ready.2 ⟨un 1 (by decide) h, _, rfl, by simp [Array.getD_eq_getD_getElem?, q0']⟩)
    have q1' : L[1]?.getD false = true := by simpa [Array.getD_eq_getD_getElem?] using q1
    have q2 := fin 2 (by decide) (fun h => mem_ready.2 ⟨un 2 (by decide) h, _, rfl, by simp [Array.getD_eq_getD_getElem?, q0', q1']⟩)
    have q2' : L[2]?.getD false = true := by simpa [Array.getD_eq_getD_getElem?] using q2
    have q3 := fin 3 (by decide) (fun h => mem_ready.2 ⟨un 3 (by decide) h, _, rfl, by simp [Array.getD_eq_getD_getElem?, q0', q1', q2']⟩)
    have q3' : L[3]?.getD false = true := by simpa [Array.getD_eq_getD_getElem?] using q3
    have q4 := fin 4 (by decide) (fun h => mem_ready.2 ⟨un 4 (by decide) h, _, rfl, by simp [Array.getD_eq_getD_getElem?, q0', q1', q2', q3']⟩)
    have q4' : L[4]?.getD false = true := by simpa [Array.getD_eq_getD_getElem?] using q4
    have q5 := fin 5 (by decide) (fun h => mem_ready.2 ⟨un 5 (by decide) h, _, rfl, by simp [Array.getD_eq_getD_getElem?, q0', q1', q2', q3', q4']⟩)
    have q5' : L[5]?.getD false = true := by simpa [Array.getD_eq_getD_getElem?] using q5
    have q6 := fin 6 (by decide) (fun h => mem_ready.2 ⟨un 6 (by decide) h, _, rfl, by simp [Array.getD_eq_getD_getElem?, q0', q1', q2', q3', q4', q5']⟩)
    have q6' : L[6]?.getD false = true := by simpa [Array.getD_eq_getD_getElem?] using q6
    have q7 := fin 7 (by decide) (fun h => mem_ready.2 ⟨un 7 (by decide) h, _, rfl, by simp [Array.getD_eq_getD_getElem?, q0', q1', q2', q3', q4', q5', q6']⟩)
    have q7' : L[7]?.getD false = true := by simpa [Array.getD_eq_getD_getElem?] using q7
    have q8 := fin 8 (by decide) (fun h => mem_ready.2 ⟨un 8 (by decide) h, _, rfl, by simp [Array.getD_eq_getD_getElem?, q0', q1', q2', q3', q4', q5', q6', q7']⟩)
    have q8' : L[8]?.getD false = true := by simpa [Array.getD_eq_getD_getElem?] using q8
    have q9 := fin 9 (by decide) (fun h => mem_ready.2 ⟨un 9 (by decide) h, _, rfl, by simp [Array.getD_eq_getD_getElem?, q0', q1', q2', q3', q4', q5', q6', q7', q8']⟩)
    have q9' : L[9]?.getD false = true := by simpa [Array.getD_eq_getD_getElem?] using q9
    have q10 := fin 10 (by decide) (fun h => mem_ready.2 ⟨un 10 (by decide) h, _, rfl, by simp [Array.getD_eq_getD_getElem?, q0', q1', q2', q3', q4', q5', q6', q7', q8', q9']⟩)
    have q10' : L[10]?.getD false = true := by simpa [Array.getD_eq_getD_getElem?] using q10
    obtain rfl := k10 q10
    clear fin un hr k0 k1 k2 k3 k4 k5 k6 k7 k8 k9 k10
    go_wp2_with fail
    go_ret
    exact ⟨rfl, hb⟩
  · rintro L a' w' i ⟨hz, hb, v2, v18, v19, v20, v21, v22, v23, v24, v25, v26, v27, rfl, k0, k1, k2, k3, k4, k5, k6, k7, k8, k9, k10⟩ hi
    obtain ⟨hn, o, ho, hall⟩ := mem_ready.1 hi
    have hlt : i < 11 := by
      have := (Array.getElem?_eq_some_iff.1 ho).1
      simpa using this
    match i, hlt with
    | 0, _ =>
      simp at ho
      subst ho
      unfold wpOp
      refine Or.inl ?_
      unfold Oper.wp
      go_simp
      exact ⟨by simpa using hz, hb, _, _, _, _, _, _, _, _, _, _, _, rfl, fun _ => rfl, fun h => k1 (by rwa [getD_set _ _ _ (by decide)] at h), fun h => k2 (by rwa [getD_set _ _ _ (by decide)] at h), fun h => k3 (by rwa [getD_set _ _ _ (by decide)] at h), fun h => k4 (by rwa [getD_set _ _ _ (by decide)] at h), fun h => k5 (by rwa [getD_set _ _ _ (by decide)] at h), fun h => k6 (by rwa [getD_set _ _ _ (by decide)] at h), fun h => k7 (by rwa [getD_set _ _ _ (by decide)] at h), fun h => k8 (by rwa [getD_set _ _ _ (by decide)] at h), fun h => k9 (by rwa [getD_set _ _ _ (by decide)] at h), fun h => k10 (by rwa [getD_set _ _ _ (by decide)] at h)⟩
    | 1, _ =>
      simp at ho
      subst ho
      have m0 := hall ⟨0, .data⟩ (by simp) rfl
      obtain rfl := k0 m0
      unfold wpOp
      refine Or.inl ?_
      unfold Oper.wp
      go_simp
      exact ⟨by simpa using hz, hb, _, _, _, _, _, _, _, _, _, _, _, rfl, fun _ => rfl, fun _ => rfl, fun h => k2 (by rwa [getD_set _ _ _ (by decide)] at h), fun h => k3 (by rwa [getD_set _ _ _ (by decide)] at h), fun h => k4 (by rwa [getD_set _ _ _ (by decide)] at h), fun h => k5 (by rwa [getD_set _ _ _ (by decide)] at h), fun h => k6 (by rwa [getD_set _ _ _ (by decide)] at h), fun h => k7 (by rwa [getD_set _ _ _ (by decide)] at h), fun h => k8 (by rwa [getD_set _ _ _ (by decide)] at h), fun h => k9 (by rwa [getD_set _ _ _ (by decide)] at h), fun h => k10 (by rwa [getD_set _ _ _ (by decide)] at h)⟩
    | 2, _ =>
      simp at ho
      subst ho
      have m1 := hall ⟨1, .data⟩ (by simp) rfl
      obtain rfl := k1 m1
      unfold wpOp
      refine Or.inl ?_
      unfold Oper.wp
      go_simp
      refine (HI.out _).mono ?_
      rintro e w2 ⟨rfl, hb2⟩
      exact ⟨by simpa using hz, hb.trans (hb2.mono hb.size), _, _, _, _, _, _, _, _, _, _, _, rfl, fun h => k0 (by rwa [getD_set _ _ _ (by decide)] at h), fun _ => rfl, fun _ => rfl, fun h => k3 (by rwa [getD_set _ _ _ (by decide)] at h), fun h => k4 (by rwa [getD_set _ _ _ (by decide)] at h), fun h => k5 (by rwa [getD_set _ _ _ (by decide)] at h), fun h => k6 (by rwa [getD_set _ _ _ (by decide)] at h), fun h => by obtain ⟨g, hg, e, hcell⟩ := k7 (by rwa [getD_set _ _ _ (by decide)] at h); exact ⟨g, hg, e, (hb2.block g (lt_of_block hcell)).trans hcell⟩, fun h => k8 (by rwa [getD_set _ _ _ (by decide)] at h), fun h => k9 (by rwa [getD_set _ _ _ (by decide)] at h), fun h => k10 (by rwa [getD_set _ _ _ (by decide)] at h)⟩
    | 3, _ =>
      simp at ho
      subst ho
      unfold wpOp
      refine Or.inl ?_
      unfold Oper.wp
      go_simp
      exact ⟨by simpa using hz, hb, _, _, _, _, _, _, _, _, _, _, _, rfl, fun h => k0 (by rwa [getD_set _ _ _ (by decide)] at h), fun h => k1 (by rwa [getD_set _ _ _ (by decide)] at h), fun h => k2 (by rwa [getD_set _ _ _ (by decide)] at h), fun _ => rfl, fun h => k4 (by rwa [getD_set _ _ _ (by decide)] at h), fun h => k5 (by rwa [getD_set _ _ _ (by decide)] at h), fun h => k6 (by rwa [getD_set _ _ _ (by decide)] at h), fun h => k7 (by rwa [getD_set _ _ _ (by decide)] at h), fun h => k8 (by rwa [getD_set _ _ _ (by decide)] at h), fun h => k9 (by rwa [getD_set _ _ _ (by decide)] at h), fun h => k10 (by rwa [getD_set _ _ _ (by decide)] at h)⟩
    | 4, _ =>
      simp at ho
      subst ho
      have m3 := hall ⟨3, .data⟩ (by simp) rfl
      obtain rfl := k3 m3
      unfold wpOp
      refine Or.inl ?_
      unfold Oper.wp
      go_simp
      exact ⟨by simpa using hz, hb, _, _, _, _, _, _, _, _, _, _, _, rfl, fun h => k0 (by rwa [getD_set _ _ _ (by decide)] at h), fun h => k1 (by rwa [getD_set _ _ _ (by decide)] at h), fun h => k2 (by rwa [getD_set _ _ _ (by decide)] at h), fun _ => rfl, fun _ => rfl, fun h => k5 (by rwa [getD_set _ _ _ (by decide)] at h), fun h => k6 (by rwa [getD_set _ _ _ (by decide)] at h), fun h => k7 (by rwa [getD_set _ _ _ (by decide)] at h), fun h => k8 (by rwa [getD_set _ _ _ (by decide)] at h), fun h => k9 (by rwa [getD_set _ _ _ (by decide)] at h), fun h => k10 (by rwa [getD_set _ _ _ (by decide)] at h)⟩
    | 5, _ =>
      simp at ho
      subst ho
      have m4 := hall ⟨4, .data⟩ (by simp) rfl
      obtain rfl := k4 m4
      unfold wpOp
      refine Or.inl ?_
      unfold Oper.wp
      go_simp
      exact ⟨by simpa using hz, hb, _, _, _, _, _, _, _, _, _, _, _, rfl, fun h => k0 (by rwa [getD_set _ _ _ (by decide)] at h), fun h => k1 (by rwa [getD_set _ _ _ (by decide)] at h), fun h => k2 (by rwa [getD_set _ _ _ (by decide)] at h), fun h => k3 (by rwa [getD_set _ _ _ (by decide)] at h), fun _ => rfl, fun _ => rfl, fun h => k6 (by rwa [getD_set _ _ _ (by decide)] at h), fun h => k7 (by rwa [getD_set _ _ _ (by decide)] at h), fun h => k8 (by rwa [getD_set _ _ _ (by decide)] at h), fun h => k9 (by rwa [getD_set _ _ _ (by decide)] at h), fun h => k10 (by rwa [getD_set _ _ _ (by decide)] at h)⟩
    | 6, _ =>
      simp at ho
      subst ho
      have m5 := hall ⟨5, .data⟩ (by simp) rfl
      obtain rfl := k5 m5
      unfold wpOp
      refine Or.inl ?_
      unfold Oper.wp
      go_simp
      exact ⟨by simpa using hz, hb, _, _, _, _, _, _, _, _, _, _, _, rfl, fun h => k0 (by rwa [getD_set _ _ _ (by decide)] at h), fun h => k1 (by rwa [getD_set _ _ _ (by decide)] at h), fun h => k2 (by rwa [getD_set _ _ _ (by decide)] at h), fun h => k3 (by rwa [getD_set _ _ _ (by decide)] at h), fun h => k4 (by rwa [getD_set _ _ _ (by decide)] at h), fun _ => rfl, fun _ => rfl, fun h => k7 (by rwa [getD_set _ _ _ (by decide)] at h), fun h => k8 (by rwa [getD_set _ _ _ (by decide)] at h), fun h => k9 (by rwa [getD_set _ _ _ (by decide)] at h), fun h => k10 (by rwa [getD_set _ _ _ (by decide)] at h)⟩
    | 7, _ =>
      simp at ho
      subst ho
      have m6 := hall ⟨6, .data⟩ (by simp) rfl
      obtain rfl := k6 m6
      unfold wpOp
      refine Or.inl ?_
      unfold Oper.wp
      go_simp
      exact ⟨by simpa using hz, hb.alloc hb.size _, _, _, _, _, _, _, _, _, _, _, _, rfl, fun h => k0 (by rwa [getD_set _ _ _ (by decide)] at h), fun h => k1 (by rwa [getD_set _ _ _ (by decide)] at h), fun h => k2 (by rwa [getD_set _ _ _ (by decide)] at h), fun h => k3 (by rwa [getD_set _ _ _ (by decide)] at h), fun h => k4 (by rwa [getD_set _ _ _ (by decide)] at h), fun h => k5 (by rwa [getD_set _ _ _ (by decide)] at h), fun _ => rfl, fun _ => ⟨w'.heap.size, hb.size, rfl, heap_alloc_new w' _⟩, fun h => k8 (by rwa [getD_set _ _ _ (by decide)] at h), fun h => k9 (by rwa [getD_set _ _ _ (by decide)] at h), fun h => k10 (by rwa [getD_set _ _ _ (by decide)] at h)⟩
    | 8, _ =>
      simp at ho
      subst ho
      have m7 := hall ⟨7, .data⟩ (by simp) rfl
      obtain ⟨g, hg, rfl, hcell⟩ := k7 m7
      have hcv := conv1 w' g c hc.1 hc.2 hcell
      rw [hB] at hcv
      unfold wpOp
      refine Or.inl ?_
      unfold Oper.wp
      go_simp
      exact ⟨by simpa using hz, hb, _, _, _, _, _, _, _, _, _, _, _, rfl, fun h => k0 (by rwa [getD_set _ _ _ (by decide)] at h), fun h => k1 (by rwa [getD_set _ _ _ (by decide)] at h), fun h => k2 (by rwa [getD_set _ _ _ (by decide)] at h), fun h => k3 (by rwa [getD_set _ _ _ (by decide)] at h), fun h => k4 (by rwa [getD_set _ _ _ (by decide)] at h), fun h => k5 (by rwa [getD_set _ _ _ (by decide)] at h), fun h => k6 (by rwa [getD_set _ _ _ (by decide)] at h), fun h => ⟨g, hg, rfl, hcell⟩, fun _ => rfl, fun h => k9 (by rwa [getD_set _ _ _ (by decide)] at h), fun h => k10 (by rwa [getD_set _ _ _ (by decide)] at h)⟩
    | 9, _ =>
      simp at ho
      subst ho
      have m2 := hall ⟨2, .data⟩ (by simp) rfl
      obtain rfl := k2 m2
      have m8 := hall ⟨8, .data⟩ (by simp) rfl
      obtain rfl := k8 m8
      unfold wpOp
      refine Or.inl ?_
      unfold Oper.wp
      go_simp
      exact ⟨by simpa using hz, hb, _, _, _, _, _, _, _, _, _, _, _, rfl, fun h => k0 (by rwa [getD_set _ _ _ (by decide)] at h), fun h => k1 (by rwa [getD_set _ _ _ (by decide)] at h), fun _ => rfl, fun h => k3 (by rwa [getD_set _ _ _ (by decide)] at h), fun h => k4 (by rwa [getD_set _ _ _ (by decide)] at h), fun h => k5 (by rwa [getD_set _ _ _ (by decide)] at h), fun h => k6 (by rwa [getD_set _ _ _ (by decide)] at h), fun h => k7 (by rwa [getD_set _ _ _ (by decide)] at h), fun _ => rfl, fun _ => rfl, fun h => k10 (by rwa [getD_set _ _ _ (by decide)] at h)⟩
    | 10, _ =>
      simp at ho
      subst ho
      have m9 := hall ⟨9, .data⟩ (by simp) rfl
      obtain rfl := k9 m9
      unfold wpOp
      refine Or.inl ?_
      unfold Oper.wp
      go_simp
      exact ⟨by simpa using hz, hb, _, _, _, _, _, _, _, _, _, _, _, rfl, fun h => k0 (by rwa [getD_set _ _ _ (by decide)] at h), fun h => k1 (by rwa [getD_set _ _ _ (by decide)] at h), fun h => k2 (by rwa [getD_set _ _ _ (by decide)] at h), fun h => k3 (by rwa [getD_set _ _ _ (by decide)] at h), fun h => k4 (by rwa [getD_set _ _ _ (by decide)] at h), fun h => k5 (by rwa [getD_set _ _ _ (by decide)] at h), fun h => k6 (by rwa [getD_set _ _ _ (by decide)] at h), fun h => k7 (by rwa [getD_set _ _ _ (by decide)] at h), fun h => k8 (by rwa [getD_set _ _ _ (by decide)] at h), fun _ => rfl, fun _ => rfl⟩
end Go.Proofs.YtdmicehmmmpjcaaDoor
