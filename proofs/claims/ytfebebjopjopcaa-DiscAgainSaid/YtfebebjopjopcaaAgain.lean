/-
  hourglasslaw7.DiscAgain returns true for every input and leaves its arguments as they were: a clock that is made anew of its last time goes on above it, whatever the raw clock says. No condition.
-/
import Derived.Test.YtfebebjopjopcaaRows
import Derived.Test.YtfebebjopjopcaaClk
import Derived.LoopTactic
import Derived.WalkKit
import Derived.ProofKit
import Derived.OpenShut
import Derived.ShutString
import Derived.ChangeOld
import Derived.Below
namespace Go.Proofs.Ytfebebjopjopcaa.discAgain
open Go.ChangeShapes Go.WideShapes Go.ChangeAt Go.RowKit
open Go.ChangeMaps (open_string shut_string)
set_option linter.unusedVariables false
set_option linter.unusedSimpArgs false

theorem own : ownKnob Try.prog.godebug = none := by kernel_rfl
theorem laidOut : laidOutB Try.prog = true := by kernel_rfl

/-- WHAT THE WALK IS TOLD OF A SLICE OF INTEGERS THAT CAME IN: it is nil; or it leads to a row of 'cap' cells, the numbers 'zs' (the first 'len' are its elements, the rest its spare room), each fitting its kind. -/
def IsRow (k : IntKind) (w : World) (a : Option Addr) (len cap : Nat) (zs : List Int) : Prop :=
  (a = none ∧ len = 0 ∧ cap = 0 ∧ zs = []) ∨
  ∃ x, a = some x ∧ len ≤ cap ∧ cap ≤ maxLen ∧ zs.length = cap ∧ (∀ i, i < zs.length → w.cell? (x.add i) = some (.int k (zs.getD i 0))) ∧ ∀ n ∈ zs, (Lit.int k n).wf = true

theorem IsRow.at_ {kd : IntKind} {w : World} {a : Option Addr} {len cap : Nat} {zs : List Int} (H : IsRow kd w a len cap zs) {k : Nat} (hk : k < len) :
    ∃ b off, a = some ⟨b, off, none⟩ ∧ w.cell? ⟨b, off + k, none⟩ = some (.int kd (zs.getD k 0)) := by
  rcases H with ⟨_, rfl, _⟩ | ⟨x, rfl, hl, hm, hz, hc, hw⟩
  · omega
  · have h0 := hc k (by omega)
    obtain ⟨b, off, sp⟩ := x
    have h1 := World.cell?_spot (hc 0 (by omega))
    have hsp : sp = none := by simpa [Addr.add] using h1
    subst hsp
    have e : (⟨b, off, none⟩ : Addr).add k = ⟨b, off + k, none⟩ := by unfold Addr.add; split <;> simp_all
    rw [e] at h0
    exact ⟨b, off, rfl, h0⟩

theorem step_bound (l r : Int) (h1 : l < 36028797018963967) : l < mx (rdT l 0 r) (l + 1) ∧ mx (rdT l 0 r) (l + 1) ≤ 36028797018963967 := by
  have e1 := mx_le (rdT l 0 r) (l + 1)
  have e2 : rdT l 0 r ≤ 36028797018963967 := by
    unfold rdT
    generalize mx (mn (mx r (-1099511627776)) 36029896530591743 + 0) 0 = a
    have e3 := mn_le a 36028797018963967
    have e4 := mx_le (mn a 36028797018963967) l
    omega
  omega

theorem _root_.Go.Proofs.Ytfebebjopjopcaa.IsClk.spent {w w2 : World} {g : Nat} {n h o : Int} (H : IsClk w g n h o) (hg : w.grownBy w2 none) (x : Obj) : IsClk (w2.alloc x) g n h o := by
  have h2 : IsClk w2 g n h o := (hg.block g H.lt (by simp)).trans H
  exact h2.alloc x

def Rel (w : World) (g len : Nat) (last i : Value) (wr : World) : Prop :=
  ∃ (k : Nat) (l : Int), k ≤ len ∧ i = .int .i64 k ∧ last = .int .i64 l ∧ -1 ≤ l ∧ l ≤ 36028797018963967 ∧ IsClk wr g 2 l 0 ∧ Below w.heap.size w wr

set_option maxHeartbeats 2000000 in
theorem walk (a0 : Option Addr) (len0 cap0 : Nat) (z0 : List Int) (a1 : Option Addr) (len1 cap1 : Nat) (z1 : List Int) (w : World) (w0 : IsRow .i64 w a0 len0 cap0 z0) (w1 : IsRow .i64 w a1 len1 cap1 z1) :
    Calls Try.prog 4 #[.slice a0 len0 cap0, .slice a1 len1 cap1] w fun e w' => e = .returned (.bool true) ∧ Below w.heap.size w w' := by
  by_cases h0 : 30 < len0
  · have h0' : (30 : Int) < (len0 : Int) := by omega
    go_enter Try.func4, Try.ntmps4
    go_wp2_with (go_at_call 9; refine (awake_calls _).mono ?_; rintro e w' ⟨rfl, hb⟩)
    go_ret
    exact ⟨rfl, by assumption⟩
  have h0' : ¬ (30 : Int) < (len0 : Int) := by omega
  by_cases h1 : 30 < len1
  · have h1' : (30 : Int) < (len1 : Int) := by omega
    go_enter Try.func4, Try.ntmps4
    go_wp2_with (go_at_call 9; refine (awake_calls _).mono ?_; rintro e w' ⟨rfl, hb⟩)
    go_ret
    exact ⟨rfl, by assumption⟩
  have h1' : ¬ (30 : Int) < (len1 : Int) := by omega
  go_enter Try.func4, Try.ntmps4
  go_wp2_with fail
  refine (awake_calls _).mono ?_
  rintro e w' ⟨rfl, hb⟩
  go_wp2_with fail
  refine (new_yes 2 (-1) _ (by omega) (by omega)).mono ?_
  rintro e wn ⟨rfl, hwn⟩
  go_wp2_with fail
  have hB1 : Below w.heap.size w (w'.alloc (Obj.cells #[Value.int IntKind.u8 2, Value.int IntKind.i64 (-1), Value.int IntKind.i64 0] 49)) := hb.alloc hb.size _
  have hK1 := IsClk.new w' 2 (-1) 0
  have hgw : w.heap.size ≤ w'.heap.size := hb.size
  obtain ⟨g, hg⟩ : ∃ g, g = w'.heap.size := ⟨_, rfl⟩
  rw [← hg] at hK1
  have HB1 := Lib.hid hB1
  have HK1 := Lib.hid hK1
  clear hB1 hK1 hb
  rw [← hg]
  have HG := Lib.hid hg
  have hgB : w.heap.size ≤ g := by omega
  clear hg
  go_loopw [7, 8] (fun last i wr => Rel w g len0 last i wr) (fun _ i _ => len0 - (intOf i).toNat)
  case atStart => exact ⟨0, -1, by omega, rfl, rfl, by omega, by omega, HK1.out, HB1.out⟩
  case round =>
    obtain ⟨k, l, hk, rfl, rfl, hl0, hl1, hK, hB⟩ := hrel
    have HK := Lib.hid hK
    have HB := Lib.hid hB
    have hwr := hB.size
    clear hK hB
    by_cases hlt : k < len0
    · obtain ⟨b, off, rfl, hc⟩ := IsRow.at_ w0 hlt
      have hcr := (HB.out.cell (World.block_lt_of_cell? _ _ hc)).trans hc
      obtain ⟨u, hu⟩ : ∃ u, u = z0.getD k 0 := ⟨_, rfl⟩
      rw [← hu] at hcr
      clear hc hu
      by_cases hM : l = 36028797018963967
      · subst hM
        go_wp2_with fail
        refine (issue_spent g 2 0 u _ HK.out).mono ?_
        rintro e w2 ⟨rfl, hg2⟩
        have HG2 := Lib.hid hg2
        clear hg2
        go_wp2_with fail
        go_roundw
        case rel => exact ⟨k + 1, _, by omega, by go_num, rfl, by omega, by omega, HK.out.spent HG2.out _, (HB.out.grown HG2.out (by omega) (by simp)).alloc (by have := HG2.out.size; omega) _⟩
        case measure => simp [intOf]; omega
      · have hb := step_bound l u (by omega)
        obtain ⟨t, ht⟩ : ∃ t, mx (rdT l 0 u) (l + 1) = t := ⟨_, rfl⟩
        rw [ht] at hb
        have HT := Lib.hid ht
        clear ht
        go_wp2_with fail
        refine (issue_t t g 2 l 0 u _ HK.out (by omega) (by omega) (by omega) HT.out).mono ?_
        rintro e w2 ⟨rfl, hg2, hc2⟩
        have HG2 := Lib.hid hg2
        have HC2 := Lib.hid hc2
        clear hg2 hc2
        go_wp2_with fail
        go_roundw
        case rel => exact ⟨k + 1, t, by omega, by go_num, rfl, by omega, by omega, HC2.out.alloc _, (below_of_grown HB.out (by omega) HG2.out (by omega)).alloc (by have := HG2.out.size; omega) _⟩
        case measure => simp [intOf]; omega
    · go_wp2_with fail
      refine (high_calls g 2 l 0 _ HK.out).mono ?_
      rintro e w3 ⟨rfl, rfl⟩
      go_wp2_with fail
      refine (new_yes 2 l _ (by omega) (by omega)).mono ?_
      rintro e w4 ⟨rfl, rfl⟩
      go_wp2_with fail
      refine (high_calls g 2 l 0 _ (HK.out.alloc _)).mono ?_
      rintro e w5 ⟨rfl, rfl⟩
      go_wp2_with fail
      have hK2 := IsClk.new wr 2 l 0
      have hB2 : Below w.heap.size w (wr.alloc (Obj.cells #[Value.int IntKind.u8 2, Value.int IntKind.i64 l, Value.int IntKind.i64 0] 49)) := HB.out.alloc hwr _
      obtain ⟨g2, hg2⟩ : ∃ g2, g2 = wr.heap.size := ⟨_, rfl⟩
      rw [← hg2] at hK2
      have HB2 := Lib.hid hB2
      have HK2 := Lib.hid hK2
      clear hB2 hK2
      rw [← hg2]
      have hgB2 : w.heap.size ≤ g2 := by omega
      clear hg2
      obtain ⟨wo, hwo⟩ : ∃ wo : World, wr.alloc (Obj.cells #[Value.int IntKind.u8 2, Value.int IntKind.i64 l, Value.int IntKind.i64 0] 49) = wo := ⟨_, rfl⟩
      rw [hwo] at HB2 HK2
      rw [hwo]
      clear hwo
      go_loopw [7, 13] (fun last i wr => Rel w g2 len1 last i wr) (fun _ i _ => len1 - (intOf i).toNat)
      case atStart => exact ⟨0, l, by omega, rfl, rfl, by omega, by omega, HK2.out, HB2.out⟩
      case round =>
        rename_i wr2 
        obtain ⟨k, l, hk, rfl, rfl, hl0, hl1, hK, hB⟩ := hrel
        have HK := Lib.hid hK
        have HB := Lib.hid hB
        have hwr := hB.size
        clear hK hB
        by_cases hlt : k < len1
        · obtain ⟨b, off, rfl, hc⟩ := IsRow.at_ w1 hlt
          have hcr := (HB.out.cell (World.block_lt_of_cell? _ _ hc)).trans hc
          obtain ⟨u, hu⟩ : ∃ u, u = z1.getD k 0 := ⟨_, rfl⟩
          rw [← hu] at hcr
          clear hc hu
          by_cases hM : l = 36028797018963967
          · subst hM
            go_wp2_with fail
            refine (issue_spent g2 2 0 u _ HK.out).mono ?_
            rintro e w2 ⟨rfl, hg2⟩
            have HG2 := Lib.hid hg2
            clear hg2
            go_wp2_with fail
            go_ret
            exact ⟨rfl, (HB.out.grown HG2.out (by omega) (by simp)).alloc (by have := HG2.out.size; omega) _⟩
          · have hb := step_bound l u (by omega)
            obtain ⟨t, ht⟩ : ∃ t, mx (rdT l 0 u) (l + 1) = t := ⟨_, rfl⟩
            rw [ht] at hb
            have HT := Lib.hid ht
            clear ht
            obtain ⟨hb1, hb2⟩ := hb
            go_wp2_with fail
            refine (issue_t t g2 2 l 0 u _ HK.out (by omega) (by omega) (by omega) HT.out).mono ?_
            rintro e w2 ⟨rfl, hg2, hc2⟩
            have HG2 := Lib.hid hg2
            have HC2 := Lib.hid hc2
            clear hg2 hc2
            go_wp2_with fail
            go_roundw
            case rel => exact ⟨k + 1, t, by omega, by go_num, rfl, by omega, by omega, HC2.out.alloc _, (below_of_grown HB.out (by omega) HG2.out (by omega)).alloc (by have := HG2.out.size; omega) _⟩
            case measure => simp [intOf]; omega
        · go_wp2_with fail
          go_ret
          exact ⟨rfl, HB.out⟩

/-! ### THE ROW's STEP: WRITTEN OUT: LEAVE IT -/
set_option maxRecDepth 100000 in
theorem lifted (os : Os) (started : os.Started) (H : Type) (enc : TypeId × Value → H) :
    ReturnsInHanded {} Try.checked os 4 .any (Rows.discAgainSpec.pre6 enc Try.prog Try.f4 Rows.discAgainRow.domain false) (Rows.discAgainSpec.post enc Try.prog Try.f4 false true false false) := by
  refine returnsInHanded_of_change (C := Try.checked) own started (by kernel_rfl) Try.func4
    (ChangeSpec.witness6 (enc := enc) (C := Try.checked) false ⟨#[], #[.slice none 0 0, .slice none 0 0], []⟩ 8 (by kernel_rfl) (by kernel_rfl) (by kernel_rfl) (by kernel_rfl)) ?_
  intro W base args ds gs before hval0 hW hcnd _
  have hval : ∀ (j : Nat) t v, Try.f4.params[j]? = some t → args[j]? = some v → Value.okWide Try.prog W .any base t v := hval0
  have hW' := hW
  obtain ⟨p, q, hA0, hV, rfl, hfz, hnd⟩ := hW
  have hA : DataW.TrodAll enc Try.prog W 0 (fun _ => true) true Try.f4.params.toList args.toList ds p := hA0
  rw [Try.params4] at hA hval
  obtain ⟨v0, vs0, d0, ds0, p0, q0, hargs, rfl, rfl, h0, r0⟩ := trodAll_cons hA
  obtain ⟨v1, vs1, d1, ds1, p1, q1, rfl, rfl, rfl, h1, r1⟩ := trodAll_cons r0
  obtain ⟨rfl, rfl, rfl⟩ := trodAll_nil r1
  obtain rfl : args = #[v0, v1] := by cases args; simp_all
  obtain ⟨rfl, rfl⟩ := trodVars_none hV
  obtain ⟨a0, len0, cap0, rfl⟩ := okWide_slice Try.underlying33 (hval 0 33 v0 rfl rfl)
  have k0 := h0
  have lt0 : ∀ x ∈ p0, x.block < W.heap.size := by obtain ⟨m, hm⟩ := k0; exact DataW.trod_lt m _ _ _ hm
  obtain ⟨z0, w0⟩ : ∃ zs, IsRow .i64 W a0 len0 cap0 zs := by
    obtain ⟨fuel, hf⟩ := h0
    rcases open_ints Try.underlying33 Try.underlying2 (by kernel_rfl) hf with ⟨hcs, _⟩ | ⟨x, l, c, zs, hcs, _, hl, hm, hz, _, hcell, hwz⟩
    · simp [Value.cells] at hcs
      obtain ⟨rfl, rfl, rfl⟩ := hcs
      exact ⟨[], .inl ⟨rfl, rfl, rfl, rfl⟩⟩
    · simp [Value.cells] at hcs
      obtain ⟨rfl, rfl, rfl⟩ := hcs
      exact ⟨zs, .inr ⟨_, rfl, hl, hm, by simpa using hz, hcell, hwz⟩⟩
  obtain ⟨a1, len1, cap1, rfl⟩ := okWide_slice Try.underlying33 (hval 1 33 v1 rfl rfl)
  have k1 := h1
  have lt1 : ∀ x ∈ p1, x.block < W.heap.size := by obtain ⟨m, hm⟩ := k1; exact DataW.trod_lt m _ _ _ hm
  obtain ⟨z1, w1⟩ : ∃ zs, IsRow .i64 W a1 len1 cap1 zs := by
    obtain ⟨fuel, hf⟩ := h1
    rcases open_ints Try.underlying33 Try.underlying2 (by kernel_rfl) hf with ⟨hcs, _⟩ | ⟨x, l, c, zs, hcs, _, hl, hm, hz, _, hcell, hwz⟩
    · simp [Value.cells] at hcs
      obtain ⟨rfl, rfl, rfl⟩ := hcs
      exact ⟨[], .inl ⟨rfl, rfl, rfl, rfl⟩⟩
    · simp [Value.cells] at hcs
      obtain ⟨rfl, rfl, rfl⟩ := hcs
      exact ⟨zs, .inr ⟨_, rfl, hl, hm, by simpa using hz, hcell, hwz⟩⟩
  clear hA0 hval0
  refine (walk a0 len0 cap0 z0 a1 len1 cap1 z1 W w0 w1).mono fun e W' ⟨he, bel⟩ => ?_
  subst he
  exact ⟨_, rfl, _, _, _, [], _, [], hW', trodAll_mk1 (shut_bool Try.underlying4 _), (trodAll_cons_mk (Below.trod laidOut (by kernel_rfl) (of_decide_eq_true (by kernel_rfl)) k0 bel lt0) (trodAll_cons_mk (Below.trod laidOut (by kernel_rfl) (of_decide_eq_true (by kernel_rfl)) k1 bel lt1) trodAll_mk0)), rfl, bel.frame _, fun h => by cases h⟩

theorem over : Rows.discAgainRow.holds Try.pinned (OpenSpec.ofChange Rows.discAgainSpec) :=
  OpenClaim.holds_of_wide 4 Try.f4 rfl rfl rfl rfl rfl rfl rfl ⟨rfl, rfl, rfl, rfl, rfl⟩ rfl rfl rfl rfl rfl (by kernel_rfl) Try.func4 (by kernel_rfl)
    (of_decide_eq_true (by kernel_rfl)) (by unfold Func.isWrapper; first | (rw [if_pos (by decide +kernel)]; kernel_rfl) | (rw [if_neg (by decide +kernel)]; exact ⟨rfl, rfl⟩))
    (fun os started H enc _ => lifted os started H enc)

/-- ████ THE STATEMENT ████ -/
theorem proved : Rows.DiscAgainSaid := over
#print axioms proved
end Go.Proofs.Ytfebebjopjopcaa.discAgain
