/- The document's own clock: contracts for every world. Conditions: each theorem's own. -/
import Derived.Test.YtfebebjopjopcaaSm
import Derived.Test.YtfebebjopjopcaaRg
import Derived.Test.YtfebebjopjopcaaRw
import Derived.Test.YtfebebjopjopcaaGcl
namespace Go.Proofs.YtfebebjopjopcaaG
open Go.RowKit Go.Proofs.Ytfebebjopjopcaa.Sp
set_option linter.unusedVariables false
set_option linter.unusedSimpArgs false
def rkO (n h o : Int) : Obj := .cells #[.int .u8 n, .int .i64 h, .int .i64 o] 46 (0, 0)
def heldI (v lo hi : Int) : Int := if v < lo then lo else if hi < v then hi else v
theorem held_calls (v lo hi : Int) (w : World) : Calls Try.prog 25 #[.int .i64 v, .int .i64 lo, .int .i64 hi] w fun e w' => e = .returned (.int .i64 (heldI v lo hi)) ∧ w' = w := by
  by_cases h1 : v < lo
  · have e1 : heldI v lo hi = lo := if_pos h1
    rw [e1]
    clear e1
    go_enter Try.func25, Try.ntmps25
    go_wp2
    go_ret
    exact ⟨rfl, rfl⟩
  · by_cases h2 : hi < v
    · have e1 : heldI v lo hi = hi := by unfold heldI; rw [if_neg h1, if_pos h2]
      rw [e1]
      clear e1
      go_enter Try.func25, Try.ntmps25
      go_wp2
      go_ret
      exact ⟨rfl, rfl⟩
    · have e1 : heldI v lo hi = v := by unfold heldI; rw [if_neg h1, if_neg h2]
      rw [e1]
      clear e1
      go_enter Try.func25, Try.ntmps25
      go_wp2
      go_ret
      exact ⟨rfl, rfl⟩
theorem rd_is (h o raw : Int) (ho : -1099511627776 ≤ o ∧ o ≤ 1099511627776) : mx (heldI (heldI raw (-1152921504606846976) 1152921504606846976 + o) 0 36028797018963967) h = rdT h o raw := by
  unfold rdT
  congr 1
  unfold heldI mx mn
  split <;> split <;> split <;> (try split) <;> (try split) <;> (try split) <;> (try split) <;> omega
theorem rread_calls (g : Nat) (n h o raw : Int) (w0 w : World) (F : Hp) (ho : -1099511627776 ≤ o ∧ o ≤ 1099511627776) (H : Holds w0 ((g, rkO n h o) :: F) w) : Calls Try.prog 21 #[.pointer (some ⟨g, 0, none⟩), .int .i64 raw] w fun e w' => e = .returned (.int .i64 (rdT h o raw)) ∧ w' = w := by
  have c1 : w.cell? ⟨g, 1, none⟩ = some (.int .i64 h) := H.cell 1
  have c2 : w.cell? ⟨g, 2, none⟩ = some (.int .i64 o) := H.cell 2
  have HE := Lib.hid (rd_is h o raw ho)
  obtain ⟨a, ha⟩ : ∃ a, a = heldI raw (-1152921504606846976) 1152921504606846976 := ⟨_, rfl⟩
  have hab : -1152921504606846976 ≤ a ∧ a ≤ 1152921504606846976 := by rw [ha]; unfold heldI; split <;> (try split) <;> omega
  obtain ⟨b, hb⟩ : ∃ b, b = heldI (a + o) 0 36028797018963967 := ⟨_, rfl⟩
  have H1 := Lib.hid (held_calls raw (-1152921504606846976) 1152921504606846976 w)
  have H2 := Lib.hid (held_calls (a + o) 0 36028797018963967 w)
  rw [← ha] at H1 HE
  rw [← hb] at H2 HE
  clear H ha hb
  obtain ⟨ho1, ho2⟩ := ho
  by_cases hc : b < h
  · have HM := Lib.hid (show mx b h = h from if_pos hc)
    go_enter Try.func21, Try.ntmps21
    go_wp2_with fail
    refine H1.out.mono ?_
    rintro e w1 ⟨rfl, hw⟩
    rw [hw]
    clear hw w1
    go_wp2_with fail
    refine H2.out.mono ?_
    rintro e w1 ⟨rfl, hw⟩
    rw [hw]
    clear hw w1
    go_wp2_with fail
    go_ret
    exact ⟨by rw [← HE.out, HM.out] <;> rfl, rfl⟩
  · have HM := Lib.hid (show mx b h = b from if_neg hc)
    go_enter Try.func21, Try.ntmps21
    go_wp2_with fail
    refine H1.out.mono ?_
    rintro e w1 ⟨rfl, hw⟩
    rw [hw]
    clear hw w1
    go_wp2_with fail
    refine H2.out.mono ?_
    rintro e w1 ⟨rfl, hw⟩
    rw [hw]
    clear hw w1
    go_wp2_with fail
    go_ret
    exact ⟨by rw [← HE.out, HM.out] <;> rfl, rfl⟩
theorem rissue_spent (g : Nat) (n o raw : Int) (w0 w : World) (F : Hp) (H : Holds w0 ((g, rkO n 36028797018963967 o) :: F) w) :
    Calls Try.prog 18 #[.pointer (some ⟨g, 0, none⟩), .int .i64 raw] w fun e w' => e = .returned (.tuple #[.agg #[.int .i64 0, .int .u8 0], .int .i64 12]) ∧ Holds w0 ((g, rkO n 36028797018963967 o) :: F) w' := by
  have H1 := H.alloc_ (.cells #[.int .i64 0, .int .u8 0] 29)
  have c1 : (w.alloc (.cells #[.int .i64 0, .int .u8 0] 29)).cell? ⟨g, 1, none⟩ = some (.int .i64 36028797018963967) := H1.cell 1
  have c2 : w.cell? ⟨g, 1, none⟩ = some (.int .i64 36028797018963967) := H.cell 1
  have HH := Lib.hid H1
  have hl := H.lt
  clear H H1
  go_enter Try.func18, Try.ntmps18
  go_wp2
  exact bodyPost_ret (v := .tuple #[.agg #[.int .i64 0, .int .u8 0], .int .i64 12]) (by simp [results, Try.results18, go_sem]) rfl ⟨rfl, HH.out⟩
theorem rissue_ok (g : Nat) (n hh o raw : Int) (w0 w : World) (F : Hp) (H : Holds w0 ((g, rkO n hh o) :: F) w) (ho : -1099511627776 ≤ o ∧ o ≤ 1099511627776) (h1 : -1 ≤ hh) (h2 : hh < 36028797018963967) :
    Calls Try.prog 18 #[.pointer (some ⟨g, 0, none⟩), .int .i64 raw] w fun e w' => e = .returned (.tuple #[.agg #[.int .i64 (mx (rdT hh o raw) (hh + 1)), .int .u8 n], .int .i64 0]) ∧ Holds w0 ((g, rkO n (mx (rdT hh o raw) (hh + 1)) o) :: F) w' := by
  have H1 := Lib.hid ((H.alloc (.cells #[.int .i64 0, .int .u8 0] 29)).perm (k := (g, rkO n hh o) :: ((w.heap.size, .cells #[.int .i64 0, .int .u8 0] 29) :: F)) (by classical rw [List.perm_iff_count]; intro a; simp only [List.count_append, List.count_cons, List.count_nil]; omega))
  have c0 : (w.alloc (.cells #[.int .i64 0, .int .u8 0] 29)).cell? ⟨g, 0, none⟩ = some (.int .u8 n) := H1.out.cell 0
  have c1 : (w.alloc (.cells #[.int .i64 0, .int .u8 0] 29)).cell? ⟨g, 1, none⟩ = some (.int .i64 hh) := H1.out.cell 1
  have f1 : (w.alloc (.cells #[.int .i64 0, .int .u8 0] 29)).frozen? ⟨g, 1, none⟩ = false := H1.out.froz 1
  have hl := H.lt
  have HR := Lib.hid (rread_calls g n hh o raw w0 _ _ ho H1.out)
  obtain ⟨t, ht⟩ : ∃ t, t = rdT hh o raw := ⟨_, rfl⟩
  rw [← ht] at HR ⊢
  have HHB := Lib.hid H
  clear H ht
  by_cases hc : t ≤ hh
  · have hm : mx t (hh + 1) = hh + 1 := if_pos (by omega)
    rw [hm]
    clear hm
    have H2 := Lib.hid ((HHB.out.set 1 (.int .i64 (hh + 1))).alloc_ (.cells #[.int .i64 0, .int .u8 0] 29))
    have c0b : _ = some (Value.int .u8 n) := H2.out.cell 0
    go_enter Try.func18, Try.ntmps18
    go_wp2_with fail
    refine HR.out.mono ?_
    rintro e w1 ⟨rfl, hw⟩
    rw [hw]
    clear hw w1
    go_wp2_with fail
    exact bodyPost_ret (v := .tuple #[.agg #[.int .i64 (hh + 1), .int .u8 n], .int .i64 0]) (by simp [results, Try.results18, go_sem]) rfl ⟨rfl, (HHB.out.set 1 (.int .i64 (hh + 1))).alloc_ _⟩
  · have hm : mx t (hh + 1) = t := if_neg (by omega)
    rw [hm]
    clear hm
    have H2 := Lib.hid ((HHB.out.set 1 (.int .i64 t)).alloc_ (.cells #[.int .i64 0, .int .u8 0] 29))
    have c0b : _ = some (Value.int .u8 n) := H2.out.cell 0
    go_enter Try.func18, Try.ntmps18
    go_wp2_with fail
    refine HR.out.mono ?_
    rintro e w1 ⟨rfl, hw⟩
    rw [hw]
    clear hw w1
    go_wp2_with fail
    exact bodyPost_ret (v := .tuple #[.agg #[.int .i64 t, .int .u8 n], .int .i64 0]) (by simp [results, Try.results18, go_sem]) rfl ⟨rfl, (HHB.out.set 1 (.int .i64 t)).alloc_ _⟩
theorem info2i : ∃ i z, Try.prog.info? 2 = some i ∧ i.zero = some z ∧ i.size = 1 ∧ i.bytes = 8 ∧ z.cells.size = 1 := by
  have h : (Try.prog.info? 2).any (fun i => (match i.zero with | some z => z.cells.size == 1 | _ => false) && i.size == 1 && i.bytes == 8) = true := by kernel_rfl
  cases hu : Try.prog.info? 2 with
  | none => rw [hu] at h; cases h
  | some i =>
    rw [hu] at h
    simp only [Option.any_some, Bool.and_eq_true, beq_iff_eq] at h
    obtain ⟨⟨h1, h2⟩, h3⟩ := h
    cases hz : i.zero with
    | none => rw [hz] at h1; cases h1
    | some z =>
      rw [hz] at h1
      exact ⟨i, z, rfl, hz, h2, h3, by simpa using h1⟩
def iv (r : List Int) : List Value := r.map (Value.int .i64)
theorem iv_one (r : List Int) : ∀ u ∈ iv r, u.oneCell' = true := by intro x hx; obtain ⟨y, _, rfl⟩ := List.mem_map.mp hx; rfl
theorem RowB.form {e : TypeId} {sz n : Nat} {v : Value} {xs : List Value} {h : Hp} (R : RowB e sz v n xs h) : ∃ A c, v = .slice A n c ∧ n ≤ c ∧ (A = none → c = 0) := by
  obtain ⟨_, ⟨rfl, rfl, _⟩ | ⟨g, cap, cur, rfl, _, h1, h2, _⟩⟩ := R
  · exact ⟨none, 0, rfl, Nat.le_refl _, fun _ => rfl⟩
  · exact ⟨_, _, rfl, by omega, fun h => by cases h⟩
theorem num_append {w0 w : World} {h F : Hp} {v : Value} {n : Nat} {xs : List Value} (R : RowB 2 1 v n xs h) (H : Holds w0 (h ++ F) w) (ty : TypeId) (A : Option Addr) (m c : Nat) (hc : A = none → c = 0) (news : List Value) (hr : Reads w A m 1 news) (h1 : ∀ u ∈ news, u.oneCell' = true) (hn : n + m ≤ 1000000) :
    ∃ v' h' w', (Builtin.append_ #[33, 33] ty #[v, .slice A m c]).run Try.prog w = .ok v' w' ∧ RowB 2 1 v' (n + m) (xs ++ news) h' ∧ Holds w0 (h' ++ F) w' := by
  obtain ⟨i, z, hi, hz, q1, q2, q3⟩ := info2i
  have hmx : maxLen = 9223372036854775807 := rfl
  exact row_append (t := 33) R H ty i z 8 Try.underlying33 hi hz q1 q2 q3 (by decide) A m c hc news hr h1 (by omega) (by omega)
theorem cut_hi (A : Option Addr) (n c p : Nat) (hp : p ≤ n) (hn : n ≤ c) (W : World) : (Instr.slice 33 (.slice A n c) none (some (.int .i64 (p : Int))) none).run Try.prog W = .ok (.slice A p c) W := by
  obtain ⟨i, z, hi, hz, q1, q2, q3⟩ := info2i
  have hel : Try.prog.elem 33 = 2 := by simp [Program.elem, Try.underlying33]
  have hu : Try.prog.underlying 33 = some (.slice (Try.prog.elem 33)) := by rw [hel]; exact Try.underlying33
  have ha : (A.map fun x => x.add 0) = A := by cases A <;> simp [Addr.add]
  rw [run_slice_h W 33 A n c hu .i64 (p : Int) (by omega) (by omega), hel]
  simp [sizeOf, typeInfo, hi, q1, sliced, Result.andThen, ha]
theorem cut_lo (A : Option Addr) (n c p : Nat) (hp : p ≤ n) (hn : n ≤ c) (h0 : A = none → c = 0) : ∃ A' : Option Addr, (∀ W : World, (Instr.slice 33 (.slice A n c) (some (.int .i64 (p : Int))) none none).run Try.prog W = .ok (.slice A' (n - p) (c - p)) W) ∧ (A' = none → c - p = 0) ∧ ∀ (W : World) (xs : List Value), Reads W A n 1 xs → Reads W A' (n - p) 1 (xs.drop p) := by
  obtain ⟨i, z, hi, hz, q1, q2, q3⟩ := info2i
  refine ⟨if c = p then A else A.map (·.add p), fun W => ?_, fun h => ?_, fun W xs h => ?_⟩
  · have hel : Try.prog.elem 33 = 2 := by simp [Program.elem, Try.underlying33]
    have hu : Try.prog.underlying 33 = some (.slice (Try.prog.elem 33)) := by rw [hel]; exact Try.underlying33
    rw [run_slice_l W 33 A n c hu .i64 (p : Int) (Int.natCast_nonneg _) (by omega), hel]
    simp [sizeOf, typeInfo, hi, q1, sliced, Result.andThen]
  · by_cases hcp : c = p
    · omega
    · rw [if_neg hcp] at h
      cases A with
      | none => have := h0 rfl; omega
      | some ad => simp at h
  · obtain ⟨r1, r2, r3⟩ := h
    rw [Nat.mul_one] at r1
    by_cases hcp : c = p
    · have hnp : n = p := by omega
      refine ⟨by rw [List.length_drop, r1]; omega, (fun _ => by omega), fun ad had j u hj => ?_⟩
      have hjl := (List.getElem?_eq_some_iff.mp hj).1
      rw [List.length_drop, r1] at hjl
      omega
    · rw [if_neg hcp]
      cases A with
      | none => have := h0 rfl; omega
      | some a0 =>
        refine ⟨by rw [List.length_drop, r1]; omega, fun h => by simp at h, fun ad had j u hj => ?_⟩
        obtain rfl : a0.add p = ad := by simpa using had
        rw [List.getElem?_drop] at hj
        have := r3 a0 rfl (p + j) u hj
        have e : (a0.add p).add j = a0.add (p + j) := by unfold Addr.add; by_cases h1 : p = 0 <;> by_cases h2 : j = 0 <;> simp [h1, h2, Nat.add_assoc]
        rw [e]
        exact this
theorem wpA {P : Program} {o : Oper} {a : Act} {w w' : World} {K : Act → World → Prop} {Q : Exit → Act → World → Prop} (s x : Operand) {t u : TypeId} {v v1 v' : Value}
    (ho : o.op = .call { callee := .builtin .append, args := #[s, x], argTypes := #[t, u] }) (hs : a.eval s = v) (hx : a.eval x = v1) (hrun : (Builtin.append_ #[t, u] o.type #[v, v1]).run P w = .ok v' w') (hK : K (a.put o.dst v') w') : o.wp P a w K Q := by
  unfold Oper.wp execOp
  simp only [ho, resolve, invoke, builtin, Sem.run_bind, Sem.run_pure, Result.andThen_ok, List.map_toArray, List.map_cons, List.map_nil, hs, hx, hrun]
  exact hK
theorem take_snoc {α : Type} (l : List α) (k : Nat) (r : α) (h : l[k]? = some r) : l.take (k + 1) = l.take k ++ [r] := by rw [List.take_add_one, h]; rfl
theorem one_reads {w0 w : World} {F : Hp} {b : Nat} {u : Value} {t : TypeId} (H : Holds w0 ((b, .cells #[u] t (0, 0)) :: F) w) : Reads w (some ⟨b, 0, none⟩) 1 1 [u] := by
  refine ⟨rfl, (fun h => by cases h), fun ad had j x hj => ?_⟩
  injection had with had
  subst had
  have e2 : (⟨b, 0, none⟩ : Addr).add j = ⟨b, j, none⟩ := by simp [Addr.add]; omega
  rw [e2, H.cell j, ← Array.getElem?_toList]
  exact hj
def SmR (w0 : World) (g : Nat) (n h o : Int) (zs : List Int) (F : Hp) (s i : Value) (wr : World) : Prop := ∃ (k : Nat) (hb : Hp), k ≤ zs.length ∧ i = .int .i64 k ∧ RowB 2 1 s (srt (zs.take k)).length (iv (srt (zs.take k))) hb ∧ Holds w0 (hb ++ ((g, rkO n h o) :: F)) wr
def SkR (W : World) (s : List Int) (v : Int) (i : Value) (wr : World) : Prop := wr = W ∧ ∃ p : Nat, p ≤ s.length ∧ i = .int .i64 p ∧ ∀ (j : Nat) (x : Int), j < p → s[j]? = some x → x < v
theorem rsample_no (g : Nat) (n h o : Int) (A : Option Addr) (len c : Nat) (w0 w : World) (F : Hp) (hl : len = 0 ∨ 64 < len) (H : Holds w0 ((g, rkO n h o) :: F) w) : Calls Try.prog 19 #[.pointer (some ⟨g, 0, none⟩), .slice A len c] w fun e w' => e = .returned (.int .i64 o) ∧ w' = w := by
  have c2 : w.cell? ⟨g, 2, none⟩ = some (.int .i64 o) := H.cell 2
  clear H
  rcases hl with rfl | hl
  · go_enter Try.func19, Try.ntmps19
    go_wp2
    go_ret
    exact ⟨rfl, rfl⟩
  · have h1 : ¬ (len : Int) < 1 := by omega
    have h2 : (64 : Int) < (len : Int) := by omega
    go_enter Try.func19, Try.ntmps19
    go_wp2
    go_ret
    exact ⟨rfl, rfl⟩
set_option maxRecDepth 100000 in
set_option maxHeartbeats 2000000 in
theorem rsample_ok (g : Nat) (n h o : Int) (A : Option Addr) (c : Nat) (zs : List Int) (w0 w : World) (F : Hp) (h0 : 0 < zs.length) (h1 : zs.length ≤ 64) (hrd : ∀ w', Holds w0 F w' → Reads w' A zs.length 1 (iv zs)) (H : Holds w0 ((g, rkO n h o) :: F) w) :
    Calls Try.prog 19 #[.pointer (some ⟨g, 0, none⟩), .slice A zs.length c] w fun e w' => e = .returned (.int .i64 (mid zs)) ∧ Holds w0 ((g, rkO n h (mid zs)) :: F) w' := by
  have HRD := Lib.hid hrd; have HH0 := Lib.hid H
  have q1 : ¬ (zs.length : Int) < 1 := by omega
  have q2 : ¬ (64 : Int) < (zs.length : Int) := by omega
  clear hrd H
  go_enter Try.func19, Try.ntmps19
  go_wp2_with fail
  go_loopw [5, 6] (fun s i wr => SmR w0 g n h o zs F s i wr) (fun _ i _ => zs.length - (intOf i).toNat)
  case atStart => exact ⟨0, [], by omega, rfl, RowB.nil _ _, HH0.out⟩
  case round =>
    clear HH0
    obtain ⟨k, hb, hk, rfl, hRs, hH⟩ := hrel
    obtain ⟨s, hs⟩ : ∃ s, s = srt (zs.take k) := ⟨_, rfl⟩
    rw [← hs] at hRs
    have hsl : s.length = k := by rw [hs, srt_len, List.length_take]; omega
    rw [hsl] at hRs
    obtain ⟨As, cs, rfl, hcs, hns⟩ := RowB.form hRs
    have HS := Lib.hid hs; have HSL := Lib.hid hsl; have HRS := Lib.hid hRs; have HH := Lib.hid hH; have HNS := Lib.hid hns
    clear hs hsl hRs hH hns
    by_cases hlt : k < zs.length
    · obtain ⟨z, hz⟩ : ∃ z, zs[k]? = some z := ⟨_, List.getElem?_eq_getElem hlt⟩
      obtain ⟨hr1, hr2, hr3⟩ := HRD.out _ HH.out.right.tail
      cases A with
      | none => have := hr2 rfl; omega
      | some ad =>
        have hc0 := hr3 ad rfl k (.int .i64 z) (by unfold iv; rw [List.getElem?_map, hz]; rfl)
        have HZ := Lib.hid hz
        have HHE := Lib.hid (held_calls z (-1099511627776) 1099511627776)
        rw [show heldI z (-1099511627776) 1099511627776 = cl z from rfl] at HHE
        obtain ⟨v0_, hv⟩ : ∃ v, v = cl z := ⟨_, rfl⟩
        rw [← hv] at HHE
        have HV := Lib.hid hv
        clear hz hr1 hr2 hr3 hv
        go_wp2_with fail
        refine (HHE.out _).mono ?_
        rintro e w1 ⟨rfl, hw⟩
        rw [hw]
        clear hw w1 hc0
        go_wp2_with fail
        go_loopw [8] (fun i wr2 => SkR wr s v0_ i wr2) (fun i _ => s.length - (intOf i).toNat)
        case atStart => exact ⟨rfl, 0, by omega, rfl, fun j x hj => by omega⟩
        case round =>
          obtain ⟨rfl, p, hp, rfl, hpj⟩ := hrel
          have HPJ := Lib.hid hpj
          clear hpj
          rw [HSL.out] at hp ⊢
          obtain ⟨As', cs', es, hcs', hns', hrs⟩ := HRS.out.reads HH.out
          obtain ⟨rfl, rfl⟩ : As = As' ∧ cs = cs' := by injection es with e1 e2 e3; exact ⟨e1, e3⟩
          have HRDS := Lib.hid (fun w' (H' : Holds w0 (hb ++ ((g, rkO n h o) :: F)) w') => show Reads w' As k 1 (iv s) from by
            obtain ⟨_, _, e9, _, _, h9⟩ := HRS.out.reads H'
            injection e9 with e1 e2 e3
            rw [e1]
            exact h9)
          by_cases hpk : p < k
          · obtain ⟨x, hx⟩ : ∃ x, s[p]? = some x := ⟨_, List.getElem?_eq_getElem (by rw [HSL.out]; exact hpk)⟩
            cases As with
            | none => have := hrs.2.1 rfl; omega
            | some ada =>
              have hc1 := hrs.2.2 ada rfl p (.int .i64 x) (by unfold iv; rw [List.getElem?_map, hx]; rfl)
              have HX := Lib.hid hx
              clear hx hrs es
              by_cases hxv : x < v0_
              · go_wp2_with fail
                refine ⟨⟨rfl, p + 1, by rw [HSL.out]; omega, by simp, ?_⟩, by simp [intOf]; omega⟩
                intro j y hj hy
                by_cases hjp : j < p
                · exact HPJ.out j y hjp hy
                · obtain rfl : j = p := by omega
                  rw [HX.out] at hy
                  injection hy with hy
                  omega
              · have HINS := Lib.hid (insI_at v0_ s p (by rw [HSL.out]; omega) HPJ.out (Or.inr ⟨x, HX.out, hxv⟩))
                obtain ⟨AL, hcut2, hnl, hrl⟩ := cut_lo (some ada) k cs p hp hcs HNS.out
                have hcut1 := cut_hi (some ada) k cs p hp hcs
                have HNL := Lib.hid hnl; have HRL := Lib.hid hrl
                clear hnl hrl
                go_wp2_with fail
                refine wp_region_own 12 (fun k => match k with | 4 => [0] | 7 => [4, 6] | 11 => [7] | 12 => [11] | _ => []) (by kernel_rfl) (by kernel_rfl) (by kernel_rfl) (by kernel_rfl) (Nat.le_of_ble_eq_true (by kernel_rfl)) w0 (fun Ls hs => hs = (hb ++ ((g, rkO n h o) :: F))) (fun i v h => match i with | 0 => RowB 2 1 v 0 [] h | 1 => v = .slice (some ada) k cs ∧ h = [] | 2 => v = .int .i64 (p : Nat) ∧ h = [] | 3 => v = .slice (some ada) p cs ∧ h = [] | 4 => RowB 2 1 v p (iv (s.take p)) h | 5 => v = .int .i64 v0_ ∧ h = [] | 6 => ∃ b_, v = .slice (some ⟨b_, 0, none⟩) 1 1 ∧ h = [(b_, .cells #[.int .i64 v0_] 2 (0, 0))] | 7 => RowB 2 1 v (p + 1) (iv (s.take p) ++ [.int .i64 v0_]) h | 8 => v = .slice (some ada) k cs ∧ h = [] | 9 => v = .int .i64 (p : Nat) ∧ h = [] | 10 => v = .slice AL (k - p) (cs - p) ∧ h = [] | 11 => RowB 2 1 v (p + 1 + (k - p)) (iv (s.take p) ++ [.int .i64 v0_] ++ iv (s.drop p)) h | _ => True) ((hb ++ ((g, rkO n h o) :: F))) (rfl) (HH.out.drew) ?_ ?_
                · intro i o hi ho Ls f Hf hs R w1 hI hL hd hH
                  simp only [fill, List.take_succ_cons, List.take_zero, Act.put, List.setIfInBounds_toArray, List.set_cons_zero, List.set_cons_succ]
                  match i, hi with
                  | 0, _ =>
                    obtain rfl := Option.some.inj ho
                    clear hd ho
                    have hH : Holds w0 (hs ++ ([] ++ R)) w1 := hH
                    subst hI
                    unfold wpOp
                    refine Or.inl ?_
                    unfold Oper.wp
                    go_simp
                    exact OwnBy.mk _ [(w1.heap.size, .cells #[] 2)] _ rfl rfl (RowB.lit hH #[] 0 (Nat.zero_le _) rfl) ((hH.alloc (.cells #[] 2)).perm (by classical rw [List.perm_iff_count]; intro a; simp only [List.count_append, List.count_cons, List.count_nil]; omega))
                  | 1, _ =>
                    obtain rfl := Option.some.inj ho
                    clear hd ho
                    have hH : Holds w0 (hs ++ ([] ++ R)) w1 := hH
                    subst hI
                    unfold wpOp
                    refine Or.inl ?_
                    unfold Oper.wp
                    go_simp
                    exact OwnBy.mk _ _ _ rfl (rfl) (⟨rfl, rfl⟩) (hH)
                  | 2, _ =>
                    obtain rfl := Option.some.inj ho
                    clear hd ho
                    have hH : Holds w0 (hs ++ ([] ++ R)) w1 := hH
                    subst hI
                    unfold wpOp
                    refine Or.inl ?_
                    unfold Oper.wp
                    go_simp
                    exact OwnBy.mk _ _ _ rfl (rfl) (⟨rfl, rfl⟩) (hH)
                  | 3, _ =>
                    obtain rfl := Option.some.inj ho
                    have e1 : f 1 = .slice (some ada) k cs := (hd ⟨1, .data⟩ (by simp) rfl).2.1
                    have e2 : f 2 = .int .i64 (p : Nat) := (hd ⟨2, .data⟩ (by simp) rfl).2.1
                    clear hd ho
                    have hH : Holds w0 (hs ++ ([] ++ R)) w1 := hH
                    subst hI
                    unfold wpOp
                    refine Or.inl ?_
                    simp only [e1, e2]
                    unfold Oper.wp
                    go_simp
                    exact OwnBy.mk _ _ _ rfl (rfl) (⟨rfl, rfl⟩) (hH)
                  | 4, _ =>
                    obtain rfl := Option.some.inj ho
                    have e0 := (hd ⟨0, .data⟩ (by simp) rfl).2
                    have e3 : f 3 = .slice (some ada) p cs := (hd ⟨3, .data⟩ (by simp) rfl).2.1
                    clear hd ho
                    have hH : Holds w0 (hs ++ ((Hf 0 ++ ([])) ++ R)) w1 := hH
                    simp only [List.append_nil, List.append_assoc] at hH
                    subst hI
                    unfold wpOp
                    refine Or.inl ?_
                    simp only [e3]
                    unfold Oper.wp
                    obtain ⟨v8, h8, w8, r1, r2, r3⟩ := num_append e0 (hH.perm (k := Hf 0 ++ ((hb ++ ((g, rkO n h o) :: F)) ++ R)) (by classical rw [List.perm_iff_count]; intro a; simp only [List.count_append, List.count_cons, List.count_nil]; omega)) 33 (some ada) p cs HNS.out (iv (s.take p)) (by have h9 := (HRDS.out w1 hH.left).take (k := p) hp; rw [Nat.mul_one] at h9; simpa [iv, List.map_take] using h9) (iv_one _) (by omega)
                    refine wpA (.tmp 46) (.tmp 49) rfl rfl rfl r1 ?_
                    exact OwnBy.mk _ h8 _ rfl rfl (by simpa using r2) (r3.perm (by classical rw [List.perm_iff_count]; intro a; simp only [List.count_append, List.count_cons, List.count_nil]; omega))
                  | 5, _ =>
                    obtain rfl := Option.some.inj ho
                    clear hd ho
                    have hH : Holds w0 (hs ++ ([] ++ R)) w1 := hH
                    subst hI
                    unfold wpOp
                    refine Or.inl ?_
                    unfold Oper.wp
                    go_simp
                    exact OwnBy.mk _ _ _ rfl (rfl) (⟨rfl, rfl⟩) (hH)
                  | 6, _ =>
                    obtain rfl := Option.some.inj ho
                    have e5 : f 5 = .int .i64 v0_ := (hd ⟨5, .data⟩ (by simp) rfl).2.1
                    clear hd ho
                    have hH : Holds w0 (hs ++ ([] ++ R)) w1 := hH
                    subst hI
                    unfold wpOp
                    refine Or.inl ?_
                    simp only [e5]
                    unfold Oper.wp
                    go_simp
                    exact OwnBy.mk _ [(w1.heap.size, .cells #[.int .i64 v0_] 2)] _ rfl rfl ⟨_, rfl, rfl⟩ ((hH.alloc (.cells #[.int .i64 v0_] 2)).perm (by classical rw [List.perm_iff_count]; intro a; simp only [List.count_append, List.count_cons, List.count_nil]; omega))
                  | 7, _ =>
                    obtain rfl := Option.some.inj ho
                    have e4 := (hd ⟨4, .data⟩ (by simp) rfl).2
                    have e6 := (hd ⟨6, .data⟩ (by simp) rfl).2
                    obtain ⟨b6, e6, q6⟩ := e6
                    clear hd ho
                    have hH : Holds w0 (hs ++ ((Hf 4 ++ (Hf 6 ++ ([]))) ++ R)) w1 := hH
                    simp only [q6, List.append_nil, List.append_assoc] at hH
                    subst hI
                    unfold wpOp
                    refine Or.inl ?_
                    simp only [e6]
                    unfold Oper.wp
                    have hG := hH.perm (k := (b6, .cells #[.int .i64 v0_] 2 (0, 0)) :: (Hf 4 ++ ((hb ++ ((g, rkO n h o) :: F)) ++ R))) (by classical rw [List.perm_iff_count]; intro a; simp only [List.count_append, List.count_cons, List.count_nil]; omega)
                    obtain ⟨v8, h8, w8, r1, r2, r3⟩ := num_append e4 (hG.perm (k := Hf 4 ++ ((b6, .cells #[.int .i64 v0_] 2 (0, 0)) :: ((hb ++ ((g, rkO n h o) :: F)) ++ R))) (by classical rw [List.perm_iff_count]; intro a; simp only [List.count_append, List.count_cons, List.count_nil]; omega)) 33 (some ⟨b6, 0, none⟩) 1 1 (fun h => by cases h) [.int .i64 v0_] (one_reads hG) (by intro u hu; obtain rfl := List.mem_singleton.mp hu; rfl) (by omega)
                    refine wpA (.tmp 50) (.tmp 52) rfl rfl rfl r1 ?_
                    exact OwnBy.mk _ h8 _ rfl rfl r2 ((r3.perm (k := (b6, .cells #[.int .i64 v0_] 2 (0, 0)) :: ((hb ++ ((g, rkO n h o) :: F)) ++ (h8 ++ R))) (by classical rw [List.perm_iff_count]; intro a; simp only [List.count_append, List.count_cons, List.count_nil]; omega)).tail)
                  | 8, _ =>
                    obtain rfl := Option.some.inj ho
                    clear hd ho
                    have hH : Holds w0 (hs ++ ([] ++ R)) w1 := hH
                    subst hI
                    unfold wpOp
                    refine Or.inl ?_
                    unfold Oper.wp
                    go_simp
                    exact OwnBy.mk _ _ _ rfl (rfl) (⟨rfl, rfl⟩) (hH)
                  | 9, _ =>
                    obtain rfl := Option.some.inj ho
                    clear hd ho
                    have hH : Holds w0 (hs ++ ([] ++ R)) w1 := hH
                    subst hI
                    unfold wpOp
                    refine Or.inl ?_
                    unfold Oper.wp
                    go_simp
                    exact OwnBy.mk _ _ _ rfl (rfl) (⟨rfl, rfl⟩) (hH)
                  | 10, _ =>
                    obtain rfl := Option.some.inj ho
                    have e8 : f 8 = .slice (some ada) k cs := (hd ⟨8, .data⟩ (by simp) rfl).2.1
                    have e9 : f 9 = .int .i64 (p : Nat) := (hd ⟨9, .data⟩ (by simp) rfl).2.1
                    clear hd ho
                    have hH : Holds w0 (hs ++ ([] ++ R)) w1 := hH
                    subst hI
                    unfold wpOp
                    refine Or.inl ?_
                    simp only [e8, e9]
                    unfold Oper.wp
                    go_simp
                    exact OwnBy.mk _ _ _ rfl (rfl) (⟨rfl, rfl⟩) (hH)
                  | 11, _ =>
                    obtain rfl := Option.some.inj ho
                    have e7 := (hd ⟨7, .data⟩ (by simp) rfl).2
                    have e10 : f 10 = .slice AL (k - p) (cs - p) := (hd ⟨10, .data⟩ (by simp) rfl).2.1
                    clear hd ho
                    have hH : Holds w0 (hs ++ ((Hf 7 ++ ([])) ++ R)) w1 := hH
                    simp only [List.append_nil, List.append_assoc] at hH
                    subst hI
                    unfold wpOp
                    refine Or.inl ?_
                    simp only [e10]
                    unfold Oper.wp
                    obtain ⟨v8, h8, w8, r1, r2, r3⟩ := num_append e7 (hH.perm (k := Hf 7 ++ ((hb ++ ((g, rkO n h o) :: F)) ++ R)) (by classical rw [List.perm_iff_count]; intro a; simp only [List.count_append, List.count_cons, List.count_nil]; omega)) 33 AL (k - p) (cs - p) HNL.out (iv (s.drop p)) (by have h9 := HRL.out w1 _ (HRDS.out w1 hH.left); simpa [iv, List.map_drop] using h9) (iv_one _) (by omega)
                    refine wpA (.tmp 53) (.tmp 56) rfl rfl rfl r1 ?_
                    exact OwnBy.mk _ h8 _ rfl rfl r2 (r3.perm (by classical rw [List.perm_iff_count]; intro a; simp only [List.count_append, List.count_cons, List.count_nil]; omega))
                · intro Ls f Hf hs w1 hI hL hV hH
                  have e0 := hV 0 (by decide)
                  have e1 : f 1 = .slice (some ada) k cs := (hV 1 (by decide)).1
                  have e2 : f 2 = .int .i64 (p : Nat) := (hV 2 (by decide)).1
                  have e3 : f 3 = .slice (some ada) p cs := (hV 3 (by decide)).1
                  have e4 := hV 4 (by decide)
                  have e5 : f 5 = .int .i64 v0_ := (hV 5 (by decide)).1
                  have e6 := hV 6 (by decide)
                  obtain ⟨b6, e6, q6⟩ := e6
                  have e7 := hV 7 (by decide)
                  have e8 : f 8 = .slice (some ada) k cs := (hV 8 (by decide)).1
                  have e9 : f 9 = .int .i64 (p : Nat) := (hV 9 (by decide)).1
                  have e10 : f 10 = .slice AL (k - p) (cs - p) := (hV 10 (by decide)).1
                  have e11 := hV 11 (by decide)
                  clear hV
                  have hH : Holds w0 (hs ++ (Hf 11 ++ [])) w1 := hH
                  simp only [List.append_nil, List.append_assoc] at hH
                  simp only [fill, List.take_succ_cons, List.take_zero, List.drop_succ_cons, List.drop_zero, Act.put, List.setIfInBounds_toArray, List.set_cons_zero, List.set_cons_succ, e1, e2, e3, e5, e6, e8, e9, e10]
                  subst hI
                  have HF11 := Lib.hid (show Holds w0 (Hf 11 ++ (hb ++ ((g, rkO n h o) :: F))) w1 from by have := hH; (try simp only [List.append_nil] at this); exact this.perm (by classical rw [List.perm_iff_count]; intro a; simp only [List.count_append, List.count_cons, List.count_nil]; omega))
                  obtain ⟨n8, hn8⟩ : ∃ n8, n8 = (p + 1 + (k - p)) := ⟨_, rfl⟩
                  rw [← hn8] at e11
                  obtain ⟨A8, c8, hv8, _, _⟩ := RowB.form e11
                  rw [hv8] at e11 ⊢
                  have HR8 := Lib.hid e11; have HN8 := Lib.hid hn8
                  clear hH hL e11 hn8 hv8
                  go_wp2_with fail
                  have e5 : srt (zs.take (k + 1)) = s.take p ++ v0_ :: s.drop p := by rw [take_snoc zs k z HZ.out, srt_snoc, ← HS.out, ← HV.out]; exact HINS.out
                  have e6 : (srt (zs.take (k + 1))).length = n8 := by rw [srt_len, List.length_take, HN8.out]; omega
                  refine ⟨⟨k + 1, Hf 11, by omega, by simp, ?_, HF11.out.sub (List.Sublist.append (List.Sublist.refl _) (List.sublist_append_right hb _))⟩, by simp [intOf]; omega⟩
                  rw [e6, e5]
                  have := HR8.out
                  unfold iv at this ⊢
                  simpa using this
          · obtain rfl : p = k := by omega
            have HINS := Lib.hid (insI_at v0_ s p (by rw [HSL.out]; omega) HPJ.out (Or.inl HSL.out.symm))
            obtain ⟨AL, hcut2, hnl, hrl⟩ := cut_lo As p cs p hp hcs HNS.out
            have hcut1 := cut_hi As p cs p hp hcs
            have HNL := Lib.hid hnl; have HRL := Lib.hid hrl
            clear hnl hrl hrs es
            go_wp2_with fail
            refine wp_region_own 12 (fun k => match k with | 4 => [0] | 7 => [4, 6] | 11 => [7] | 12 => [11] | _ => []) (by kernel_rfl) (by kernel_rfl) (by kernel_rfl) (by kernel_rfl) (Nat.le_of_ble_eq_true (by kernel_rfl)) w0 (fun Ls hs => hs = (hb ++ ((g, rkO n h o) :: F))) (fun i v h => match i with | 0 => RowB 2 1 v 0 [] h | 1 => v = .slice As p cs ∧ h = [] | 2 => v = .int .i64 (p : Nat) ∧ h = [] | 3 => v = .slice As p cs ∧ h = [] | 4 => RowB 2 1 v p (iv (s.take p)) h | 5 => v = .int .i64 v0_ ∧ h = [] | 6 => ∃ b_, v = .slice (some ⟨b_, 0, none⟩) 1 1 ∧ h = [(b_, .cells #[.int .i64 v0_] 2 (0, 0))] | 7 => RowB 2 1 v (p + 1) (iv (s.take p) ++ [.int .i64 v0_]) h | 8 => v = .slice As p cs ∧ h = [] | 9 => v = .int .i64 (p : Nat) ∧ h = [] | 10 => v = .slice AL (p - p) (cs - p) ∧ h = [] | 11 => RowB 2 1 v (p + 1 + (p - p)) (iv (s.take p) ++ [.int .i64 v0_] ++ iv (s.drop p)) h | _ => True) ((hb ++ ((g, rkO n h o) :: F))) (rfl) (HH.out.drew) ?_ ?_
            · intro i o hi ho Ls f Hf hs R w1 hI hL hd hH
              simp only [fill, List.take_succ_cons, List.take_zero, Act.put, List.setIfInBounds_toArray, List.set_cons_zero, List.set_cons_succ]
              match i, hi with
              | 0, _ =>
                obtain rfl := Option.some.inj ho
                clear hd ho
                have hH : Holds w0 (hs ++ ([] ++ R)) w1 := hH
                subst hI
                unfold wpOp
                refine Or.inl ?_
                unfold Oper.wp
                go_simp
                exact OwnBy.mk _ [(w1.heap.size, .cells #[] 2)] _ rfl rfl (RowB.lit hH #[] 0 (Nat.zero_le _) rfl) ((hH.alloc (.cells #[] 2)).perm (by classical rw [List.perm_iff_count]; intro a; simp only [List.count_append, List.count_cons, List.count_nil]; omega))
              | 1, _ =>
                obtain rfl := Option.some.inj ho
                clear hd ho
                have hH : Holds w0 (hs ++ ([] ++ R)) w1 := hH
                subst hI
                unfold wpOp
                refine Or.inl ?_
                unfold Oper.wp
                go_simp
                exact OwnBy.mk _ _ _ rfl (rfl) (⟨rfl, rfl⟩) (hH)
              | 2, _ =>
                obtain rfl := Option.some.inj ho
                clear hd ho
                have hH : Holds w0 (hs ++ ([] ++ R)) w1 := hH
                subst hI
                unfold wpOp
                refine Or.inl ?_
                unfold Oper.wp
                go_simp
                exact OwnBy.mk _ _ _ rfl (rfl) (⟨rfl, rfl⟩) (hH)
              | 3, _ =>
                obtain rfl := Option.some.inj ho
                have e1 : f 1 = .slice As p cs := (hd ⟨1, .data⟩ (by simp) rfl).2.1
                have e2 : f 2 = .int .i64 (p : Nat) := (hd ⟨2, .data⟩ (by simp) rfl).2.1
                clear hd ho
                have hH : Holds w0 (hs ++ ([] ++ R)) w1 := hH
                subst hI
                unfold wpOp
                refine Or.inl ?_
                simp only [e1, e2]
                unfold Oper.wp
                go_simp
                exact OwnBy.mk _ _ _ rfl (rfl) (⟨rfl, rfl⟩) (hH)
              | 4, _ =>
                obtain rfl := Option.some.inj ho
                have e0 := (hd ⟨0, .data⟩ (by simp) rfl).2
                have e3 : f 3 = .slice As p cs := (hd ⟨3, .data⟩ (by simp) rfl).2.1
                clear hd ho
                have hH : Holds w0 (hs ++ ((Hf 0 ++ ([])) ++ R)) w1 := hH
                simp only [List.append_nil, List.append_assoc] at hH
                subst hI
                unfold wpOp
                refine Or.inl ?_
                simp only [e3]
                unfold Oper.wp
                obtain ⟨v8, h8, w8, r1, r2, r3⟩ := num_append e0 (hH.perm (k := Hf 0 ++ ((hb ++ ((g, rkO n h o) :: F)) ++ R)) (by classical rw [List.perm_iff_count]; intro a; simp only [List.count_append, List.count_cons, List.count_nil]; omega)) 33 As p cs HNS.out (iv (s.take p)) (by have h9 := (HRDS.out w1 hH.left).take (k := p) hp; rw [Nat.mul_one] at h9; simpa [iv, List.map_take] using h9) (iv_one _) (by omega)
                refine wpA (.tmp 46) (.tmp 49) rfl rfl rfl r1 ?_
                exact OwnBy.mk _ h8 _ rfl rfl (by simpa using r2) (r3.perm (by classical rw [List.perm_iff_count]; intro a; simp only [List.count_append, List.count_cons, List.count_nil]; omega))
              | 5, _ =>
                obtain rfl := Option.some.inj ho
                clear hd ho
                have hH : Holds w0 (hs ++ ([] ++ R)) w1 := hH
                subst hI
                unfold wpOp
                refine Or.inl ?_
                unfold Oper.wp
                go_simp
                exact OwnBy.mk _ _ _ rfl (rfl) (⟨rfl, rfl⟩) (hH)
              | 6, _ =>
                obtain rfl := Option.some.inj ho
                have e5 : f 5 = .int .i64 v0_ := (hd ⟨5, .data⟩ (by simp) rfl).2.1
                clear hd ho
                have hH : Holds w0 (hs ++ ([] ++ R)) w1 := hH
                subst hI
                unfold wpOp
                refine Or.inl ?_
                simp only [e5]
                unfold Oper.wp
                go_simp
                exact OwnBy.mk _ [(w1.heap.size, .cells #[.int .i64 v0_] 2)] _ rfl rfl ⟨_, rfl, rfl⟩ ((hH.alloc (.cells #[.int .i64 v0_] 2)).perm (by classical rw [List.perm_iff_count]; intro a; simp only [List.count_append, List.count_cons, List.count_nil]; omega))
              | 7, _ =>
                obtain rfl := Option.some.inj ho
                have e4 := (hd ⟨4, .data⟩ (by simp) rfl).2
                have e6 := (hd ⟨6, .data⟩ (by simp) rfl).2
                obtain ⟨b6, e6, q6⟩ := e6
                clear hd ho
                have hH : Holds w0 (hs ++ ((Hf 4 ++ (Hf 6 ++ ([]))) ++ R)) w1 := hH
                simp only [q6, List.append_nil, List.append_assoc] at hH
                subst hI
                unfold wpOp
                refine Or.inl ?_
                simp only [e6]
                unfold Oper.wp
                have hG := hH.perm (k := (b6, .cells #[.int .i64 v0_] 2 (0, 0)) :: (Hf 4 ++ ((hb ++ ((g, rkO n h o) :: F)) ++ R))) (by classical rw [List.perm_iff_count]; intro a; simp only [List.count_append, List.count_cons, List.count_nil]; omega)
                obtain ⟨v8, h8, w8, r1, r2, r3⟩ := num_append e4 (hG.perm (k := Hf 4 ++ ((b6, .cells #[.int .i64 v0_] 2 (0, 0)) :: ((hb ++ ((g, rkO n h o) :: F)) ++ R))) (by classical rw [List.perm_iff_count]; intro a; simp only [List.count_append, List.count_cons, List.count_nil]; omega)) 33 (some ⟨b6, 0, none⟩) 1 1 (fun h => by cases h) [.int .i64 v0_] (one_reads hG) (by intro u hu; obtain rfl := List.mem_singleton.mp hu; rfl) (by omega)
                refine wpA (.tmp 50) (.tmp 52) rfl rfl rfl r1 ?_
                exact OwnBy.mk _ h8 _ rfl rfl r2 ((r3.perm (k := (b6, .cells #[.int .i64 v0_] 2 (0, 0)) :: ((hb ++ ((g, rkO n h o) :: F)) ++ (h8 ++ R))) (by classical rw [List.perm_iff_count]; intro a; simp only [List.count_append, List.count_cons, List.count_nil]; omega)).tail)
              | 8, _ =>
                obtain rfl := Option.some.inj ho
                clear hd ho
                have hH : Holds w0 (hs ++ ([] ++ R)) w1 := hH
                subst hI
                unfold wpOp
                refine Or.inl ?_
                unfold Oper.wp
                go_simp
                exact OwnBy.mk _ _ _ rfl (rfl) (⟨rfl, rfl⟩) (hH)
              | 9, _ =>
                obtain rfl := Option.some.inj ho
                clear hd ho
                have hH : Holds w0 (hs ++ ([] ++ R)) w1 := hH
                subst hI
                unfold wpOp
                refine Or.inl ?_
                unfold Oper.wp
                go_simp
                exact OwnBy.mk _ _ _ rfl (rfl) (⟨rfl, rfl⟩) (hH)
              | 10, _ =>
                obtain rfl := Option.some.inj ho
                have e8 : f 8 = .slice As p cs := (hd ⟨8, .data⟩ (by simp) rfl).2.1
                have e9 : f 9 = .int .i64 (p : Nat) := (hd ⟨9, .data⟩ (by simp) rfl).2.1
                clear hd ho
                have hH : Holds w0 (hs ++ ([] ++ R)) w1 := hH
                subst hI
                unfold wpOp
                refine Or.inl ?_
                simp only [e8, e9]
                unfold Oper.wp
                go_simp
                exact OwnBy.mk _ _ _ rfl (rfl) (⟨rfl, rfl⟩) (hH)
              | 11, _ =>
                obtain rfl := Option.some.inj ho
                have e7 := (hd ⟨7, .data⟩ (by simp) rfl).2
                have e10 : f 10 = .slice AL (p - p) (cs - p) := (hd ⟨10, .data⟩ (by simp) rfl).2.1
                clear hd ho
                have hH : Holds w0 (hs ++ ((Hf 7 ++ ([])) ++ R)) w1 := hH
                simp only [List.append_nil, List.append_assoc] at hH
                subst hI
                unfold wpOp
                refine Or.inl ?_
                simp only [e10]
                unfold Oper.wp
                obtain ⟨v8, h8, w8, r1, r2, r3⟩ := num_append e7 (hH.perm (k := Hf 7 ++ ((hb ++ ((g, rkO n h o) :: F)) ++ R)) (by classical rw [List.perm_iff_count]; intro a; simp only [List.count_append, List.count_cons, List.count_nil]; omega)) 33 AL (p - p) (cs - p) HNL.out (iv (s.drop p)) (by have h9 := HRL.out w1 _ (HRDS.out w1 hH.left); simpa [iv, List.map_drop] using h9) (iv_one _) (by omega)
                refine wpA (.tmp 53) (.tmp 56) rfl rfl rfl r1 ?_
                exact OwnBy.mk _ h8 _ rfl rfl r2 (r3.perm (by classical rw [List.perm_iff_count]; intro a; simp only [List.count_append, List.count_cons, List.count_nil]; omega))
            · intro Ls f Hf hs w1 hI hL hV hH
              have e0 := hV 0 (by decide)
              have e1 : f 1 = .slice As p cs := (hV 1 (by decide)).1
              have e2 : f 2 = .int .i64 (p : Nat) := (hV 2 (by decide)).1
              have e3 : f 3 = .slice As p cs := (hV 3 (by decide)).1
              have e4 := hV 4 (by decide)
              have e5 : f 5 = .int .i64 v0_ := (hV 5 (by decide)).1
              have e6 := hV 6 (by decide)
              obtain ⟨b6, e6, q6⟩ := e6
              have e7 := hV 7 (by decide)
              have e8 : f 8 = .slice As p cs := (hV 8 (by decide)).1
              have e9 : f 9 = .int .i64 (p : Nat) := (hV 9 (by decide)).1
              have e10 : f 10 = .slice AL (p - p) (cs - p) := (hV 10 (by decide)).1
              have e11 := hV 11 (by decide)
              clear hV
              have hH : Holds w0 (hs ++ (Hf 11 ++ [])) w1 := hH
              simp only [List.append_nil, List.append_assoc] at hH
              simp only [fill, List.take_succ_cons, List.take_zero, List.drop_succ_cons, List.drop_zero, Act.put, List.setIfInBounds_toArray, List.set_cons_zero, List.set_cons_succ, e1, e2, e3, e5, e6, e8, e9, e10]
              subst hI
              have HF11 := Lib.hid (show Holds w0 (Hf 11 ++ (hb ++ ((g, rkO n h o) :: F))) w1 from by have := hH; (try simp only [List.append_nil] at this); exact this.perm (by classical rw [List.perm_iff_count]; intro a; simp only [List.count_append, List.count_cons, List.count_nil]; omega))
              obtain ⟨n8, hn8⟩ : ∃ n8, n8 = (p + 1 + (p - p)) := ⟨_, rfl⟩
              rw [← hn8] at e11
              obtain ⟨A8, c8, hv8, _, _⟩ := RowB.form e11
              rw [hv8] at e11 ⊢
              have HR8 := Lib.hid e11; have HN8 := Lib.hid hn8
              clear hH hL e11 hn8 hv8
              go_wp2_with fail
              have e5 : srt (zs.take (p + 1)) = s.take p ++ v0_ :: s.drop p := by rw [take_snoc zs p z HZ.out, srt_snoc, ← HS.out, ← HV.out]; exact HINS.out
              have e6 : (srt (zs.take (p + 1))).length = n8 := by rw [srt_len, List.length_take, HN8.out]; omega
              refine ⟨⟨p + 1, Hf 11, by omega, by simp, ?_, HF11.out.sub (List.Sublist.append (List.Sublist.refl _) (List.sublist_append_right hb _))⟩, by simp [intOf]; omega⟩
              rw [e6, e5]
              have := HR8.out
              unfold iv at this ⊢
              simpa using this
    · have hkn : k = zs.length := by omega
      subst hkn
      rw [List.take_length] at HS
      obtain ⟨m, hm⟩ : ∃ m : Nat, m = (zs.length - 1) / 2 := ⟨_, rfl⟩
      obtain ⟨y, hy⟩ : ∃ y, s[m]? = some y := ⟨_, List.getElem?_eq_getElem (by rw [HSL.out]; omega)⟩
      have HMID := Lib.hid (show mid zs = y by unfold mid; rw [← HS.out, ← hm, List.getD_eq_getElem?_getD, hy]; rfl)
      obtain ⟨As', cs', es, hcs', hns', hrs⟩ := HRS.out.reads HH.out
      obtain ⟨rfl, rfl⟩ : As = As' ∧ cs = cs' := by injection es with e1 e2 e3; exact ⟨e1, e3⟩
      obtain ⟨L, hL⟩ : ∃ L, L = zs.length := ⟨_, rfl⟩
      rw [← hL] at hm hrs hcs h0 h1 q1 q2 ⊢
      cases As with
      | none => have := hrs.2.1 rfl; omega
      | some ada =>
        have hc1 := hrs.2.2 ada rfl m (.int .i64 y) (by unfold iv; rw [List.getElem?_map, hy]; rfl)
        have HHC := Lib.hid (show Holds w0 ((g, rkO n h o) :: (hb ++ F)) _ from HH.out.perm (by classical rw [List.perm_iff_count]; intro a; simp only [List.count_append, List.count_cons, List.count_nil]; omega))
        have c2 : _ = some (Value.int .i64 o) := HHC.out.cell 2
        have f2 : _ = false := HHC.out.froz 2
        have hmI : ((L : Int) - 1).tdiv 2 = (m : Int) := by rw [Int.tdiv_eq_ediv_of_nonneg (by omega)]; omega
        have hmL : m < L := by omega
        have HHX := Lib.hid (HHC.out.set 2 (.int .i64 y))
        clear hL hm hy hrs es hcs'
        go_wp2_with fail
        go_ret
        exact ⟨by rw [HMID.out] <;> rfl, by rw [HMID.out]; exact HHX.out.sub (List.Sublist.cons_cons _ (List.sublist_append_right hb F))⟩
end Go.Proofs.YtfebebjopjopcaaG
