/-
  hourglasslaw7.DiscSteady returns true for every input and leaves its arguments as they were: a raw clock that goes on by itself, never sampled, gives its own times, once each. No condition.
-/
import Derived.Test.YtfebebjopjopcaaRows
import Derived.Test.YtfebebjopjopcaaClk
import Derived.LoopTactic
import Derived.WalkKit
import Derived.ProofKit
import Derived.OpenShut
import Derived.ShutString
import Derived.ChangeOld
import Derived.Below
namespace Go.Proofs.Ytfebebjopjopcaa.discSteady
open Go.ChangeShapes Go.WideShapes Go.ChangeAt Go.RowKit
open Go.ChangeMaps (open_string shut_string)
set_option linter.unusedVariables false
set_option linter.unusedSimpArgs false

theorem own : ownKnob Try.prog.godebug = none := by kernel_rfl
theorem laidOut : laidOutB Try.prog = true := by kernel_rfl

/-- WHAT THE WALK IS TOLD OF A SLICE OF INTEGERS THAT CAME IN: it is nil; or it leads to a row of 'cap' cells, the numbers 'zs' (the first 'len' are its elements, the rest its spare room), each fitting its kind. -/
def IsRow (k : IntKind) (w : World) (a : Option Addr) (len cap : Nat) (zs : List Int) : Prop :=
  (a = none ∧ len = 0 ∧ cap = 0 ∧ zs = []) ∨
  ∃ x, a = some x ∧ len ≤ cap ∧ cap ≤ maxLen ∧ zs.length = cap ∧ (∀ i, i < zs.length → w.cell? (x.add i) = some (.int k (zs.getD i 0))) ∧ ∀ n ∈ zs, (Lit.int k n).wf = true

theorem IsRow.at_ {w : World} {a : Option Addr} {len cap : Nat} {zs : List Int} (H : IsRow .u8 w a len cap zs) {k : Nat} (hk : k < len) :
    ∃ b off, a = some ⟨b, off, none⟩ ∧ w.cell? ⟨b, off + k, none⟩ = some (.int .u8 (zs.getD k 0)) ∧ 0 ≤ zs.getD k 0 ∧ zs.getD k 0 ≤ 255 := by
  rcases H with ⟨_, rfl, _⟩ | ⟨x, rfl, hl, hm, hz, hc, hw⟩
  · omega
  · have h0 := hc k (by omega)
    obtain ⟨b, off, sp⟩ := x
    have h1 := World.cell?_spot (hc 0 (by omega))
    have hsp : sp = none := by simpa [Addr.add] using h1
    subst hsp
    have hmem : zs.getD k 0 ∈ zs := by
      rw [List.getD_eq_getElem?_getD, List.getElem?_eq_getElem (by omega)]
      exact List.getElem_mem _
    have hwf := hw _ hmem
    have e : (⟨b, off, none⟩ : Addr).add k = ⟨b, off + k, none⟩ := by unfold Addr.add; split <;> simp_all
    rw [e] at h0
    refine ⟨b, off, rfl, h0, ?_, ?_⟩
    all_goals
      simp [Lit.wf, IntKind.min, IntKind.max, IntKind.signed, IntKind.bits] at hwf
      simp
      omega

/-! ### STEP 1: THE WALK: the Go text returns true, AND WRITES NOTHING THAT WAS THERE: 'Below w.heap.size w w'' (Derived/Below.lean: '.refl', '.alloc', '.drew', '.setCell' at a new block, '.trans'). Open each 'IsRow' by 'rcases' AHEAD of 'go_enter'; part every test ahead of the walk. -/
theorem rdT_in (l r : Int) (h0 : 0 ≤ r) (h1 : r ≤ 36028797018963967) : rdT l 0 r = mx r l := by
  have e1 : mx r (-1099511627776) = r := by unfold mx; rw [if_neg (by omega)]
  have e2 : mn r 36029896530591743 = r := by unfold mn; rw [if_neg (by omega)]
  have e3 : mx (r + 0) 0 = r := by unfold mx; rw [if_neg (by omega)]; omega
  have e4 : mn r 36028797018963967 = r := by unfold mn; rw [if_neg (by omega)]
  unfold rdT
  rw [e1, e2, e3, e4]
theorem step_val (l r : Int) (h0 : 0 ≤ r) (h1 : r ≤ 36028797018963967) : mx (rdT l 0 r) (l + 1) = if r ≤ l then l + 1 else r := by
  rw [rdT_in l r h0 h1]
  unfold mx
  repeat' split
  all_goals omega

def Rel (w : World) (g len : Nat) (raw last i : Value) (wr : World) : Prop :=
  ∃ (k : Nat) (r l : Int), k ≤ len ∧ i = .int .i64 k ∧ raw = .int .i64 r ∧ last = .int .i64 l ∧ 0 ≤ r ∧ r ≤ 1125899906842624 + 255 * k ∧ -1 ≤ l ∧ l ≤ 1125899906842624 + 256 * k ∧
    IsClk wr g 1 l 0 ∧ Below w.heap.size w wr

set_option maxHeartbeats 1000000 in
theorem walk (a0 : Int) (a1 : Option Addr) (len1 cap1 : Nat) (z1 : List Int) (w : World) (w0 : (Lit.int .i64 a0).wf = true) (w1 : IsRow .u8 w a1 len1 cap1 z1) :
    Calls Try.prog 3 #[.int .i64 a0, .slice a1 len1 cap1] w fun e w' => e = .returned (.bool true) ∧ Below w.heap.size w w' := by
  by_cases h0 : a0 < 0
  · go_enter Try.func3, Try.ntmps3
    go_wp2_with (go_at_call 9; refine (awake_calls _).mono ?_; rintro e w' ⟨rfl, hb⟩)
    go_ret
    exact ⟨rfl, by assumption⟩
  by_cases h1 : 1125899906842624 < a0
  · go_enter Try.func3, Try.ntmps3
    go_wp2_with (go_at_call 9; refine (awake_calls _).mono ?_; rintro e w' ⟨rfl, hb⟩)
    go_ret
    exact ⟨rfl, by assumption⟩
  by_cases h2 : 60 < len1
  · have h2' : (60 : Int) < (len1 : Int) := by omega
    go_enter Try.func3, Try.ntmps3
    go_wp2_with (go_at_call 9; refine (awake_calls _).mono ?_; rintro e w' ⟨rfl, hb⟩)
    go_ret
    exact ⟨rfl, by assumption⟩
  have h2' : ¬ (60 : Int) < (len1 : Int) := by omega
  go_enter Try.func3, Try.ntmps3
  go_wp2_with fail
  refine (awake_calls _).mono ?_
  rintro e w' ⟨rfl, hb⟩
  go_wp2_with fail
  refine (new_yes 1 (-1) _ (by omega) (by omega)).mono ?_
  rintro e wn ⟨rfl, hwn⟩
  go_wp2_with fail
  have hB1 : Below w.heap.size w (w'.alloc (Obj.cells #[Value.int IntKind.u8 1, Value.int IntKind.i64 (-1), Value.int IntKind.i64 0] 49)) := hb.alloc hb.size _
  have hK1 := IsClk.new w' 1 (-1) 0
  have hgw : w.heap.size ≤ w'.heap.size := hb.size
  obtain ⟨g, hg⟩ : ∃ g, g = w'.heap.size := ⟨_, rfl⟩
  rw [← hg] at hK1
  have HB1 := Lib.hid hB1
  have HK1 := Lib.hid hK1
  clear hB1 hK1 hb
  rw [← hg]
  have HG := Lib.hid hg
  have hgB : w.heap.size ≤ g := by omega
  clear hg
  go_loopw [7, 8, 9] (fun raw last i wr => Rel w g len1 raw last i wr) (fun _ _ i _ => len1 - (intOf i).toNat)
  case atStart => exact ⟨0, a0, -1, by omega, rfl, rfl, rfl, by omega, by omega, by omega, by omega, HK1.out, HB1.out⟩
  case round =>
    obtain ⟨k, r, l, hk, rfl, rfl, rfl, hr0, hr1, hl0, hl1, hK, hB⟩ := hrel
    have HK := Lib.hid hK
    have HB := Lib.hid hB
    have hwr := hB.size
    clear hK hB
    by_cases hlt : k < len1
    · obtain ⟨b, off, rfl, hc, b0, b1⟩ := IsRow.at_ w1 hlt
      have hcr := (HB.out.cell (World.block_lt_of_cell? _ _ hc)).trans hc
      obtain ⟨u, hu⟩ : ∃ u, u = z1.getD k 0 := ⟨_, rfl⟩
      rw [← hu] at hcr b0 b1
      clear hc hu
      obtain ⟨t, ht⟩ : ∃ t, t = if r + u ≤ l then l + 1 else r + u := ⟨_, rfl⟩
      have hv := Lib.hid (show mx (rdT l 0 (r + u)) (l + 1) = t by rw [ht]; exact step_val l (r + u) (by omega) (by omega))
      have ht1 : t ≤ 1125899906842624 + 256 * (k + 1) ∧ -1 ≤ t := by subst ht; split <;> omega
      by_cases hc : r + u ≤ l
      · have htl : t = l + 1 := by rw [ht, if_pos hc]
        subst htl
        clear ht
        go_wp2_with fail
        refine (issue_t (l + 1) g 1 l 0 (r + u) _ HK.out (by omega) (by omega) (by omega) hv.out).mono ?_
        rintro e w2 ⟨rfl, hg2, hc2⟩
        have HG2 := Lib.hid hg2
        have HC2 := Lib.hid hc2
        clear hg2 hc2
        go_wp2_with fail
        go_roundw
        case rel => exact ⟨k + 1, r + u, l + 1, by omega, by go_num, rfl, rfl, by omega, by omega, by omega, by omega, HC2.out.alloc _, (below_of_grown HB.out (by omega) HG2.out (by omega)).alloc (by have := HB.out.size; have := HG2.out.size; omega) _⟩
        case measure => simp [intOf]; omega
      · have htl : t = r + u := by rw [ht, if_neg hc]
        subst htl
        clear ht
        go_wp2_with fail
        refine (issue_t (r + u) g 1 l 0 (r + u) _ HK.out (by omega) (by omega) (by omega) hv.out).mono ?_
        rintro e w2 ⟨rfl, hg2, hc2⟩
        have HG2 := Lib.hid hg2
        have HC2 := Lib.hid hc2
        clear hg2 hc2
        go_wp2_with fail
        go_roundw
        case rel => exact ⟨k + 1, r + u, r + u, by omega, by go_num, rfl, rfl, by omega, by omega, by omega, by omega, HC2.out.alloc _, (below_of_grown HB.out (by omega) HG2.out (by omega)).alloc (by have := HB.out.size; have := HG2.out.size; omega) _⟩
        case measure => simp [intOf]; omega
    · go_wp2
      go_ret
      exact ⟨rfl, HB.out⟩

/-! ### THE ROW's STEP: WRITTEN OUT: LEAVE IT -/
set_option maxRecDepth 100000 in
theorem lifted (os : Os) (started : os.Started) (H : Type) (enc : TypeId × Value → H) :
    ReturnsInHanded {} Try.checked os 3 .any (Rows.discSteadySpec.pre6 enc Try.prog Try.f3 Rows.discSteadyRow.domain false) (Rows.discSteadySpec.post enc Try.prog Try.f3 false true false false) := by
  refine returnsInHanded_of_change (C := Try.checked) own started (by kernel_rfl) Try.func3
    (ChangeSpec.witness6 (enc := enc) (C := Try.checked) false ⟨#[], #[.int .i64 0, .slice none 0 0], []⟩ 8 (by kernel_rfl) (by kernel_rfl) (by kernel_rfl) (by kernel_rfl)) ?_
  intro W base args ds gs before hval0 hW hcnd _
  have hval : ∀ (j : Nat) t v, Try.f3.params[j]? = some t → args[j]? = some v → Value.okWide Try.prog W .any base t v := hval0
  have hW' := hW
  obtain ⟨p, q, hA0, hV, rfl, hfz, hnd⟩ := hW
  have hA : DataW.TrodAll enc Try.prog W 0 (fun _ => true) true Try.f3.params.toList args.toList ds p := hA0
  rw [Try.params3] at hA hval
  obtain ⟨v0, vs0, d0, ds0, p0, q0, hargs, rfl, rfl, h0, r0⟩ := trodAll_cons hA
  obtain ⟨v1, vs1, d1, ds1, p1, q1, rfl, rfl, rfl, h1, r1⟩ := trodAll_cons r0
  obtain ⟨rfl, rfl, rfl⟩ := trodAll_nil r1
  obtain rfl : args = #[v0, v1] := by cases args; simp_all
  obtain ⟨rfl, rfl⟩ := trodVars_none hV
  obtain ⟨a0, rfl, rfl, rfl, w0⟩ := open_int Try.underlying2 (hval 0 2 v0 rfl rfl) h0
  obtain ⟨a1, len1, cap1, rfl⟩ := okWide_slice Try.underlying22 (hval 1 22 v1 rfl rfl)
  have k1 := h1
  have lt1 : ∀ x ∈ p1, x.block < W.heap.size := by obtain ⟨m, hm⟩ := k1; exact DataW.trod_lt m _ _ _ hm
  obtain ⟨z1, w1⟩ : ∃ zs, IsRow .u8 W a1 len1 cap1 zs := by
    obtain ⟨fuel, hf⟩ := h1
    rcases open_ints Try.underlying22 Try.underlying5 (by kernel_rfl) hf with ⟨hcs, _⟩ | ⟨x, l, c, zs, hcs, _, hl, hm, hz, _, hcell, hwz⟩
    · simp [Value.cells] at hcs
      obtain ⟨rfl, rfl, rfl⟩ := hcs
      exact ⟨[], .inl ⟨rfl, rfl, rfl, rfl⟩⟩
    · simp [Value.cells] at hcs
      obtain ⟨rfl, rfl, rfl⟩ := hcs
      exact ⟨zs, .inr ⟨_, rfl, hl, hm, by simpa using hz, hcell, hwz⟩⟩
  clear hA0 hval0
  refine (walk a0 a1 len1 cap1 z1 W w0 w1).mono fun e W' ⟨he, bel⟩ => ?_
  subst he
  exact ⟨_, rfl, _, _, _, [], _, [], hW', trodAll_mk1 (shut_bool Try.underlying4 _), (trodAll_cons_mk (shut_int Try.underlying2 w0) (trodAll_cons_mk (Below.trod laidOut (by kernel_rfl) (of_decide_eq_true (by kernel_rfl)) k1 bel lt1) trodAll_mk0)), rfl, bel.frame _, fun h => by cases h⟩

theorem over : Rows.discSteadyRow.holds Try.pinned (OpenSpec.ofChange Rows.discSteadySpec) :=
  OpenClaim.holds_of_wide 3 Try.f3 rfl rfl rfl rfl rfl rfl rfl ⟨rfl, rfl, rfl, rfl, rfl⟩ rfl rfl rfl rfl rfl (by kernel_rfl) Try.func3 (by kernel_rfl)
    (of_decide_eq_true (by kernel_rfl)) (by unfold Func.isWrapper; first | (rw [if_pos (by decide +kernel)]; kernel_rfl) | (rw [if_neg (by decide +kernel)]; exact ⟨rfl, rfl⟩))
    (fun os started H enc _ => lifted os started H enc)

/-- ████ THE STATEMENT ████ -/
theorem proved : Rows.DiscSteadySaid := over
#print axioms proved
end Go.Proofs.Ytfebebjopjopcaa.discSteady
