/- Chapter 10's own answer for Of: the key and whether it is one, for every text. No condition. -/
import Derived.Test.YtnmnniknklfemaaKr
import Derived.Test.YtnmnniknklfemaaSep
namespace Go.Proofs.Ytnmnniknklfemaa
open Go.RowKit
set_option linter.unusedVariables false
set_option linter.unusedSimpArgs false

theorem rof_res (tmps : Array Value) (W : World) (l : List UInt8) (g : Nat) (b : Bool) (h2 : tmps.getD 2 undef = .pointer (some ⟨g, 0, none⟩)) (h3 : tmps.getD 3 undef = .bool b)
    (H : W.heap[g]? = some (.cells (kv l) 23 (0, 0))) : (results Try.f17 tmps).run Try.prog W = .ok (.tuple #[.agg (kv l), .bool b]) W := by
  have hr := run_loadVar_row (P := Try.prog) W g 23 23 (kv l) (0, 0) _ H und23 rfl (info23 l)
  rw [results_cell_tmp Try.results17, h2, h3]
  simp [asAddr, hr, Result.andThen]
theorem kv_set (l : List UInt8) (k : Nat) (hk : k < 16) (hl : k < l.length) : (kv (l.take k)).setIfInBounds k (.int .u8 ((l[k]).toNat : Int)) = kv (l.take (k + 1)) := by
  apply Array.ext'
  apply List.ext_getElem?
  intro i
  rw [Array.toList_setIfInBounds, List.getElem?_set]
  rcases Nat.lt_or_ge i 16 with hi | hi
  · have h1 : (kv (l.take k)).toList[i]? = some (.int .u8 (kb (l.take k) i)) := by rw [Array.getElem?_toList]; exact kv_get _ i hi
    have h2 : (kv (l.take (k + 1))).toList[i]? = some (.int .u8 (kb (l.take (k + 1)) i)) := by rw [Array.getElem?_toList]; exact kv_get _ i hi
    rw [h1, h2]
    by_cases e : k = i
    · subst e
      have : k < (kv (l.take k)).toList.length := hk
      rw [if_pos rfl, if_pos this]
      simp [kb, List.getD_eq_getElem?_getD, List.getElem?_take, hl]
    · rw [if_neg e]
      simp only [kb, List.getD_eq_getElem?_getD, List.getElem?_take]
      by_cases e2 : i < k
      · rw [if_pos e2, if_pos (by omega)]
      · rw [if_neg e2, if_neg (by omega)]
  · have h1 : (kv (l.take k)).toList[i]? = none := List.getElem?_eq_none (by show 16 ≤ i; exact hi)
    have h2 : (kv (l.take (k + 1))).toList[i]? = none := List.getElem?_eq_none (by show 16 ≤ i; exact hi)
    rw [h1, h2]
    have hl2 : (kv (l.take k)).toList.length = 16 := rfl
    by_cases e : k = i
    · omega
    · rw [if_neg e]
set_option maxRecDepth 100000 in
set_option maxHeartbeats 4000000 in
theorem rof_calls (s : ByteArray) (w : World) :
    Calls Try.prog 17 #[.string s] w fun e w' => e = .returned (.tuple #[.agg (kv (ofK s.data.toList)), .bool (okS s.data.toList)]) ∧ Below w.heap.size w w' := by
  have hlen : s.data.toList.length = s.size := rfl
  have hz := kv_nil
  have H0 := Lib.hid (W2_0 w)
  have H1 := Lib.hid (W2_1 w)
  have H1' := Lib.hid (set_at (W := W2 w) (W2_1 w) [])
  have H0' := Lib.hid (show ((W2 w).setRow (w.heap.size + 1) (kv [])).heap[w.heap.size]? = some (.cells (kv []) 23 (0, 0)) by rw [setRow_other _ _ _ _ (by omega)]; exact W2_0 w)
  by_cases hb : s.size < 1 ∨ 16 < s.size
  · have hk : okS s.data.toList = false := by
      rcases hb with hb | hb
      · have : s.data.toList = [] := List.eq_nil_of_length_eq_zero (by omega)
        rw [this]; rfl
      · simp [okS, hlen]; intro _ h; omega
    have HO := Lib.hid hk
    clear hk
    rcases hb with hb | hb
    · have c1 : (s.size : Int) < 1 := by omega
      go_enter Try.func17, Try.ntmps17
      go_wp2_with (first | refine st (.tmp 4) (.tmp 6) rfl rfl _ [] [] rfl rfl H1.out ?_ | refine ld (.tmp 4) rfl rfl _ rfl [] H1'.out ?_ | refine st (.tmp 2) (.tmp 15) rfl rfl _ [] [] rfl rfl H0'.out ?_)
      exact bodyPost_ret (rof_res _ _ [] w.heap.size false rfl rfl (set_at H0'.out [])) rfl ⟨by simp [ofK, HO.out], below_setRow (below_setRow (W2_below w) (by omega) _) (Nat.le_refl _) _⟩
    · have c1 : ¬ (s.size : Int) < 1 := by omega
      have c2 : (16 : Int) < (s.size : Int) := by omega
      go_enter Try.func17, Try.ntmps17
      go_wp2_with (first | refine st (.tmp 4) (.tmp 6) rfl rfl _ [] [] rfl rfl H1.out ?_ | refine ld (.tmp 4) rfl rfl _ rfl [] H1'.out ?_ | refine st (.tmp 2) (.tmp 15) rfl rfl _ [] [] rfl rfl H0'.out ?_)
      exact bodyPost_ret (rof_res _ _ [] w.heap.size false rfl rfl (set_at H0'.out [])) rfl ⟨by simp [ofK, HO.out], below_setRow (below_setRow (W2_below w) (by omega) _) (Nat.le_refl _) _⟩
  · have c1 : ¬ (s.size : Int) < 1 := by omega
    have c2 : ¬ (16 : Int) < (s.size : Int) := by omega
    have HBB := Lib.hid (show Below w.heap.size w ((W2 w).setRow (w.heap.size + 1) (kv [])) from below_setRow (W2_below w) (by omega) _)
    go_enter Try.func17, Try.ntmps17
    go_wp2_with (first | refine st (.tmp 4) (.tmp 6) rfl rfl _ [] [] rfl rfl H1.out ?_)
    go_loopw [5] (fun i wr => ∃ k : Nat, k ≤ s.size ∧ i = .int .i64 k ∧ (∀ j (h : j < s.data.toList.length), j < k → s.data.toList[j] ≠ 0) ∧ wr.heap[w.heap.size]? = some (.cells (kv []) 23 (0, 0)) ∧ wr.heap[w.heap.size + 1]? = some (.cells (kv (s.data.toList.take k)) 23 (0, 0)) ∧ Below w.heap.size w wr) (fun i _ => s.size - (intOf i).toNat)
    case atStart => exact ⟨0, by omega, rfl, (fun j h hj => by omega), H0'.out, H1'.out, HBB.out⟩
    case round =>
      obtain ⟨k, hk, rfl, hne, g0, g1, hbr⟩ := hrel
      have HN := Lib.hid hne
      have G0 := Lib.hid g0
      have G1 := Lib.hid g1
      have HBR := Lib.hid hbr
      clear hne g0 g1 hbr
      by_cases hlt : k < s.size
      · have hkl : k < s.data.toList.length := by omega
        have hki : (k : Int) < (s.size : Int) := by omega
        obtain ⟨x, hx⟩ : ∃ x, s.data.toList[k] = x := ⟨_, rfl⟩
        have hix : (Instr.index 9 (.string s) (.int .i64 (k : Int))).run Try.prog wr = .ok (.int .u8 (x.toNat : Int)) wr := by
          rw [run_index_string (h := Try.underlying9)]
          have h1 : s[k]'(by omega) = x := by
            rw [← hx]
            rfl
          simp [hki, h1]
        have HX := Lib.hid hx
        clear hx
        by_cases hz0 : x = 0
        · have hz1 : ((x.toNat : Int) == 0) = true := by rw [hz0]; rfl
          have HZ := Lib.hid hz0
          clear hz0
          go_wp2_with (first | refine st (.tmp 2) (.tmp 26) rfl rfl _ [] [] rfl rfl G0.out ?_)
          have hno : okS s.data.toList = false := by
            have : (0 : UInt8) ∈ s.data.toList := by rw [← HZ.out, ← HX.out]; exact List.getElem_mem _
            simp [okS]; intro _ _; simpa using this
          exact bodyPost_ret (rof_res _ _ [] w.heap.size false rfl rfl (set_at G0.out [])) rfl ⟨by simp [ofK, hno], below_setRow HBR.out (Nat.le_refl _) _⟩
        · have hz1 : ((x.toNat : Int) == 0) = false := by
            have : x.toNat ≠ 0 := fun h => hz0 (UInt8.toNat_inj.1 (by simpa using h))
            simpa using this
          have HZ := Lib.hid hz0
          clear hz0
          have hki16 : (k : Int) < 16 := by omega
          have hfz : wr.frozen? ⟨w.heap.size + 1, k, none⟩ = false := by simp [World.frozen?, G1.out]
          have hcl : wr.cell? ⟨w.heap.size + 1, k, none⟩ = some (.int .u8 (kb (s.data.toList.take k) k)) := kv_cell G1.out k (by omega)
          go_wp2_with fail
          go_roundw
          case rel => 
            refine ⟨k + 1, by omega, by go_num, fun j h hj => ?_, ?_, ?_, ?_⟩
            · by_cases e : j = k
              · subst e; rw [HX.out]; exact HZ.out
              · exact HN.out j h (by omega)
            · exact (Below.heap_setCell _ _ _ _ (by show w.heap.size ≠ w.heap.size + 1; omega)).trans G0.out
            · have := Sp.heap_set G1.out k (.int .u8 (x.toNat : Int))
              rw [← HX.out, kv_set _ k (by omega) hkl] at this
              rw [← HX.out]
              exact this
            · exact HBR.out.grown (Sp.set_grown wr ⟨w.heap.size + 1, k, none⟩ _) HBR.out.size (by rintro r hr; injection hr with hr; have hr2 : w.heap.size + 1 = r := hr; omega)
          case measure => simp [intOf]; omega
      · obtain rfl : k = s.size := by omega
        have G1' := Lib.hid (show wr.heap[w.heap.size + 1]? = some (.cells (kv s.data.toList) 23 (0, 0)) by have := G1.out; rwa [List.take_of_length_le (by omega)] at this)
        go_wp2_with (first | refine ld (.tmp 4) rfl rfl _ rfl s.data.toList G1'.out ?_ | refine st (.tmp 2) (.tmp 32) rfl rfl _ s.data.toList [] rfl rfl G0.out ?_)
        have hok : okS s.data.toList = true := by
          have h1 : s.data.toList.isEmpty = false := by
            cases h : s.data.toList with
            | nil => rw [h] at hlen; simp at hlen; omega
            | cons a b => rfl
          have h2 : s.data.toList.contains 0 = false := by
            simp only [List.contains_eq_mem, decide_eq_false_iff_not]
            intro hm
            obtain ⟨j, hj, e⟩ := List.getElem_of_mem hm
            exact HN.out j hj (by omega) e
          simp only [okS, h1, h2, hlen, Bool.not_false, Bool.true_and, Bool.and_true, decide_eq_true_eq]
          omega
        exact bodyPost_ret (rof_res _ _ s.data.toList w.heap.size true rfl rfl (set_at G0.out _)) rfl ⟨by simp [ofK, hok], below_setRow HBR.out (Nat.le_refl _) _⟩
end Go.Proofs.Ytnmnniknklfemaa
