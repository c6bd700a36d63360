/- Names, calls' first faults, bytes.Clone: contracts for every world; what a disk and its files are. Conditions: each theorem's own. -/
import Derived.Test.YtocpelkgiebkjaaProg
import Derived.Test.YtocpelkgiebkjaaMp
import Derived.Test.YtocpelkgiebkjaaRg
import Derived.Test.YtocpelkgiebkjaaRw
import Derived.KernelRfl
import Derived.LoopTactic
import Derived.StillTailTactics
import Derived.Deep.QuietTactic
import Derived.BigQuiet
import Derived.Laws.Tables
import Derived.Laws.Strings
import Derived.Maps.RangeWalk
namespace Go.Proofs.Ytocpelkgiebkjaa
open Go.RowKit Go.Proofs.Ytocpelkgiebkjaa.Sp
set_option linter.unusedVariables false
set_option linter.unusedSimpArgs false
def signs (s : ByteArray) : Bool := s.data.toList.all fun x => decide (33 ≤ x.toNat ∧ x.toNat ≤ 126)
def goodN (s : ByteArray) : Bool := signs s && decide (1 ≤ s.size ∧ s.size ≤ 20)
theorem signs_iff (s : ByteArray) : signs s = true ↔ ∀ j (h : j < s.size), 33 ≤ (s[j]).toNat ∧ (s[j]).toNat ≤ 126 := by
  unfold signs
  rw [List.all_eq_true]
  constructor
  · intro h j hj
    have hm : s.data[j]'hj ∈ s.data.toList := by simp
    exact of_decide_eq_true (h _ hm)
  · intro h x hx
    obtain ⟨j, hj, rfl⟩ := List.mem_iff_getElem.mp hx
    have hj' : j < s.size := by simpa using hj
    have := h j hj'
    simp only [Array.getElem_toList]
    exact decide_eq_true this
theorem good_calls (s : ByteArray) (w : World) (hs : s.size ≤ 9223372036854775807) : Calls Try.prog 44 #[.string s] w fun e w' => e = .returned (.bool (goodN s)) ∧ w' = w := by
  go_enter Try.func44, Try.ntmps44
  go_wp2
  go_loopw [6] (fun i wr => wr = w ∧ ∃ k : Nat, k ≤ s.size ∧ i = .int .i64 k ∧ ∀ j (hj : j < k) (hj2 : j < s.size), 33 ≤ (s[j]).toNat ∧ (s[j]).toNat ≤ 126) (fun i _ => s.size - (intOf i).toNat)
  case atStart => exact ⟨rfl, 0, by omega, rfl, fun j hj => by omega⟩
  case round =>
    obtain ⟨rfl, k, hk, rfl, hj⟩ := hrel
    have HJ := Lib.hid hj
    clear hj
    by_cases hlt : k < s.size
    · by_cases h1 : 33 ≤ (s[k]).toNat
      · by_cases h2 : (s[k]).toNat ≤ 126
        · have h1' : ¬ ((s[k]).toNat : Int) < 33 := by omega
          have h2' : ¬ (126 : Int) < ((s[k]).toNat : Int) := by omega
          go_wp2
          refine ⟨⟨trivial, k + 1, by omega, by simp, fun j hj hj2 => ?_⟩, by simp [intOf]; omega⟩
          rcases Nat.lt_or_ge j k with h | h
          · exact HJ.out j h hj2
          · obtain rfl : j = k := by omega
            exact ⟨h1, h2⟩
        · have h1' : ¬ ((s[k]).toNat : Int) < 33 := by omega
          have h2' : (126 : Int) < ((s[k]).toNat : Int) := by omega
          go_wp2
          go_ret
          refine ⟨?_, rfl⟩
          have : goodN s = false := by
            unfold goodN
            rw [Bool.and_eq_false_iff]
            left
            cases hq : signs s
            · rfl
            · have := (signs_iff s).mp hq k hlt
              omega
          rw [this]
          rfl
      · have h1' : ((s[k]).toNat : Int) < 33 := by omega
        go_wp2
        go_ret
        refine ⟨?_, rfl⟩
        have : goodN s = false := by
          unfold goodN
          rw [Bool.and_eq_false_iff]
          left
          cases hq : signs s
          · rfl
          · have := (signs_iff s).mp hq k hlt
            omega
        rw [this]
        rfl
    · have hall : signs s = true := (signs_iff s).mpr (fun j hj => HJ.out j (by omega) hj)
      have hg : goodN s = decide (1 ≤ s.size ∧ s.size ≤ 20) := by simp [goodN, hall]
      by_cases h1 : 1 ≤ s.size
      · have h1' : (1 : Int) ≤ (s.size : Int) := by omega
        go_wp2
        go_ret
        refine ⟨?_, rfl⟩
        show Ending.returned (.bool (decide ((s.size : Int) ≤ 20))) = _
        congr 2
        rw [hg, decide_eq_decide]
        omega
      · have h1' : ¬ (1 : Int) ≤ (s.size : Int) := by omega
        go_wp2
        go_ret
        refine ⟨?_, rfl⟩
        first | rfl | (rw [hg]; congr 2; symm; rw [decide_eq_false_iff_not]; omega)
def mayE (power : Bool) (ns : List ByteArray) : Int := if power then (if ns.all goodN then 0 else 1) else 7
theorem may_calls (g : Nat) (room lives : Int) (power : Bool) (mb : Nat) (ns : List ByteArray) (A : Option Addr) (c : Nat) (w : World) (hg : w.heap[g]? = some (.cells #[.int .i64 room, .int .i64 lives, .bool power, .map (some mb)] 55 (0, 0)))
    (hr : Reads w A ns.length 1 (ns.map Value.string)) (hc : ns.length ≤ c) (hn : ∀ s ∈ ns, s.size ≤ 9223372036854775807) (hm : ns.length ≤ 100) :
    Calls Try.prog 30 #[.pointer (some ⟨g, 0, none⟩), .slice A ns.length c] w fun e w' => e = .returned (.int .i64 (mayE power ns)) ∧ w' = w := by
  have c2 : w.cell? ⟨g, 2, none⟩ = some (.bool power) := by simp [World.cell?, hg]
  clear hg
  cases power
  · go_enter Try.func30, Try.ntmps30
    go_wp2
    go_ret
    exact ⟨rfl, rfl⟩
  · go_enter Try.func30, Try.ntmps30
    go_wp2
    go_loopw [14] (fun i wr => wr = w ∧ ∃ k : Nat, k ≤ ns.length ∧ i = .int .i64 k ∧ (ns.take k).all goodN = true) (fun i _ => ns.length - (intOf i).toNat)
    case atStart => exact ⟨rfl, 0, by omega, rfl, by simp⟩
    case round =>
      obtain ⟨rfl, k, hk, rfl, hj⟩ := hrel
      have HJ := Lib.hid hj
      clear hj
      by_cases hlt : k < ns.length
      · obtain ⟨s, hs⟩ : ∃ s, s = ns[k] := ⟨_, rfl⟩
        have hs' : ns[k]? = some s := by rw [List.getElem?_eq_getElem hlt, hs]
        have hsz := hn s (List.mem_of_getElem? hs')
        have HS := Lib.hid hs'
        cases A with
        | none => have := hr.2.1 rfl; omega
        | some ad =>
          have q0 : wr.cell? (ad.add k) = some (.string s) := hr.2.2 ad rfl k _ (by simp [hs'])
          have HR := Lib.hid hr
          clear hr hs hs'
          cases hgd : goodN s
          · go_wp2_with fail
            refine (good_calls s _ hsz).mono ?_
            rintro e w' ⟨rfl, rfl⟩
            go_wp2_with fail
            go_ret
            refine ⟨?_, rfl⟩
            have : ns.all goodN = false := by
              rw [List.all_eq_false]
              exact ⟨s, List.mem_of_getElem? HS.out, by rw [hgd]; decide⟩
            simp [mayE, this]
          · go_wp2_with fail
            refine (good_calls s _ hsz).mono ?_
            rintro e w' ⟨rfl, rfl⟩
            go_wp2_with fail
            refine ⟨⟨trivial, k + 1, by omega, by simp, ?_⟩, by simp [intOf]; omega⟩
            rw [List.take_add_one, HS.out, List.all_append, HJ.out]
            simp [hgd]
      · go_wp2
        go_ret
        refine ⟨?_, rfl⟩
        have : ns.all goodN = true := by have := HJ.out; rwa [List.take_of_length_le (by omega)] at this
        simp [mayE, this]

theorem info5 : ∃ i, Try.prog.info? 5 = some i ∧ i.zero = some (.int .u8 0) ∧ i.size = 1 ∧ i.bytes = 1 := by
  have h : (Try.prog.info? 5).any (fun i => (match i.zero with | some (.int .u8 0) => true | _ => false) && i.size == 1 && i.bytes == 1) = true := by kernel_rfl
  cases hu : Try.prog.info? 5 with
  | none => rw [hu] at h; cases h
  | some i =>
    rw [hu] at h
    simp only [Option.any_some, Bool.and_eq_true, beq_iff_eq] at h
    obtain ⟨⟨h1, h2⟩, h3⟩ := h
    refine ⟨i, rfl, ?_, h2, h3⟩
    split at h1 <;> simp_all
def bv (bs : List UInt8) : List Value := bs.map fun x => .int .u8 x.toNat
theorem bv_one (bs : List UInt8) : ∀ u ∈ bv bs, u.oneCell' = true := by
  intro u hu
  obtain ⟨x, _, rfl⟩ := List.mem_map.mp hu
  rfl
/-- append, of bytes. -/
theorem bytes_append {w0 w : World} {h F : Hp} {v : Value} {bs : List UInt8} (R : RowB 5 1 v bs.length (bv bs) h) (H : Holds w0 (h ++ F) w) (ty : TypeId) (A : Option Addr) (c : Nat) (ds : List UInt8) (hc : A = none → c = 0) (hr : Reads w A ds.length 1 (bv ds))
    (hl : bs.length + ds.length ≤ 140737488355328) : ∃ v' h' w', (Builtin.append_ #[28, 28] ty #[v, .slice A ds.length c]).run Try.prog w = .ok v' w' ∧ RowB 5 1 v' (bs ++ ds).length (bv (bs ++ ds)) h' ∧ Holds w0 (h' ++ F) w' := by
  obtain ⟨i, hi, hz, h1, h2⟩ := info5
  have hmx : maxLen = 9223372036854775807 := rfl
  obtain ⟨v', h', w', r1, r2, r3⟩ := row_append (t := 28) R H ty i (.int .u8 0) 1 Try.underlying28 hi hz h1 h2 rfl (by decide) A ds.length c hc (bv ds) hr (bv_one ds) (by omega) (by omega)
  refine ⟨v', h', w', r1, ?_, r3⟩
  simpa [bv] using r2
theorem clone_calls (A : Option Addr) (c : Nat) (bs : List UInt8) (w0 w : World) (F : Hp) (hc : A = none → c = 0) (hr : Reads w A bs.length 1 (bv bs)) (hl : bs.length ≤ 140737488355328) (H : Holds w0 F w) :
    Calls Try.prog 33 #[.slice A bs.length c] w fun e w' => ∃ v, e = .returned v ∧ ∃ h, RowB 5 1 v bs.length (bv bs) h ∧ Holds w0 (h ++ F) w' := by
  have heq : ∀ w : World, (binOp .eql 28 (.slice A bs.length c) (.slice none 0 0)).run Try.prog w = .ok (.bool A.isNone) w := fun w => Lib.run_eql_slice_nil w 28 5 A bs.length c 0 0 Try.underlying28
  have HH := Lib.hid H
  clear H
  cases A with
  | none =>
    have e0 : bs = [] := List.eq_nil_of_length_eq_zero (hr.2.1 rfl)
    subst e0
    obtain rfl := hc rfl
    clear hr hc
    have heq2 : ∀ w : World, (binOp .eql 28 (.slice none 0 0) (.slice none 0 0)).run Try.prog w = .ok (.bool true) w := heq
    clear heq
    go_enter Try.func33, Try.ntmps33
    go_wp2
    go_ret
    exact ⟨_, rfl, [], RowB.nil _ _, HH.out⟩
  | some ad =>
    have heq2 : ∀ w : World, (binOp .eql 28 (.slice (some ad) bs.length c) (.slice none 0 0)).run Try.prog w = .ok (.bool false) w := heq
    clear heq
    have H1 := HH.out.alloc (.cells #[] 5)
    obtain ⟨v', h', w', r1, r2, r3⟩ := bytes_append (bs := []) (RowB.lit HH.out #[] 0 (Nat.zero_le _) rfl) H1 28 (some ad) c bs hc (hr.below ((Below.refl _ w).alloc (Nat.le_refl _) _)) (by simpa using hl)
    have R1 := Lib.hid r1; have R2 := Lib.hid r2; have R3 := Lib.hid r3
    clear r1 r2 r3 H1 hr
    go_enter Try.func33, Try.ntmps33
    go_wp2_with ((with_reducible refine apL (.tmp 5) (.tmp 6) ?_ ?_ R1.out ?_); rfl; rfl)
    go_ret
    exact ⟨_, rfl, h', by simpa using R2.out, R3.out⟩
end Go.Proofs.Ytocpelkgiebkjaa
