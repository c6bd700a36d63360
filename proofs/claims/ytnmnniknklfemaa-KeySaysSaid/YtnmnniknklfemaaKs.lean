/- Package key's Sort: a new slice: the keys in order, each once. No condition other than the reach. -/
import Derived.Test.YtnmnniknklfemaaAp
import Derived.Test.YtnmnniknklfemaaCp
namespace Go.Proofs.Ytnmnniknklfemaa
open Go.RowKit Go.Maps Go.Sort Go.Shelf
open Sp (RowB Hp Reads)
attribute [local go_sem] Oper.semAt_some
set_option linter.unusedVariables false
set_option linter.unusedSimpArgs false

theorem holds_of_block_v {w : World} {g : Nat} {cur : Array Value} {e : TypeId} {vs : List Value} (hb : w.heap[g]? = some (.cells cur e (0, 0))) (ht : cur.toList.take vs.length = vs) : Go.Sort.Holds id w g 0 vs.toArray := by
  intro j hj
  have hj' : j < vs.length := by simpa using hj
  refine ⟨?_, by simp [World.frozen?, hb]⟩
  have h1 : (cur.toList.take vs.length)[j]? = vs[j]? := by rw [ht]
  rw [List.getElem?_take_of_lt hj'] at h1
  simp only [World.cell?, hb, Nat.zero_add]
  simp only [Option.isSome_none, Bool.false_eq_true, if_false]
  rw [← Array.getElem?_toList, h1]
  simp [hj']
theorem heap_sorted_v {w : World} {g n : Nat} {os : Array Obj} {cur : Array Value} {e : TypeId} {fr : Nat × Nat} (d : Array Value) (hb : w.heap[g]? = some (.cells cur e fr)) :
    (grow (putRow id (Sort.ahead w n) g 0 d) os).heap[g]? = some (.cells (putCells id 0 d cur) e fr) := by
  have hg : g < w.heap.size := (Array.getElem?_eq_some_iff.1 hb).1
  rw [heap_grow_old _ _ (by simpa using hg)]
  simp [putRow, mapBlock, Sort.ahead, Array.getElem?_modify, hb, onCells]
theorem grownBy_sorted_v {w : World} {g n : Nat} {os : Array Obj} (d : Array Value) : w.grownBy (grow (putRow id (Sort.ahead w n) g 0 d) os) (some g) := by
  refine ⟨rfl, rfl, rfl, by simp, fun k hk hne => ?_⟩
  rw [heap_grow_old _ _ (by simpa using hk)]
  have : g ≠ k := fun e => hne (by rw [e])
  simp [putRow, mapBlock, Sort.ahead, Array.getElem?_modify, this]
theorem take_putCells_v (cur : Array Value) (ts : List Value) (h : ts.length ≤ cur.size) : (putCells id 0 ts.toArray cur).toList.take ts.length = ts := by
  apply List.ext_getElem?
  intro j
  by_cases hj : j < ts.length
  · rw [List.getElem?_take_of_lt hj, Array.getElem?_toList]
    simp [putCells, hj, show j < cur.size by omega]
  · rw [List.getElem?_take_eq_none (by omega), List.getElem?_eq_none (by omega)]
theorem sortK_len (ks : List K16) : (sortK ks).length = ks.length := by simp [sortK]

set_option maxRecDepth 100000 in
set_option maxHeartbeats 2000000 in
theorem sorted_b (F : Fence) (n : Nat) (hF : F = Fence.wide) (hn : 4 ≤ n) (g : Nat) (lb : Array Value) (eg : ∀ args w, (callFunc g args).run Try.prog w = .ok (.enter g args) w)
    (S : List K16 → Prop) (N : Nat) (hN : N ≤ 90000) (w : World) (hseq : SeqB F (n - 1 - 1 - 1) Try.prog g lb vK (fun ss => S ss ∧ ss.length ≤ N) N w) :
    CallsIn F n Try.prog 29 #[.func (.func g) #[] lb, .func (.func 13) #[] #[]] w fun e w' => ∃ v, e = .returned v ∧ ∃ ss h, S ss ∧ RowB 23 16 v ss.length (flat (sortK ss)) h ∧ Sp.Holds w h w' := by
  have h1 : 1 ≤ n := by omega
  have e34 : ∀ args w, (callFunc 34 args).run Try.prog w = .ok (.enter 34 args) w := enters_of Try.func34 (by kernel_rfl) rfl
  have e35 : ∀ args w, (callFunc 35 args).run Try.prog w = .ok (.enter 35 args) w := enters_of Try.func35 (by kernel_rfl) rfl
  have hro : F.round = none := by rw [hF]; rfl
  have hf : ∀ k, F.fn k := by rw [hF]; exact fun _ => trivial
  have h34 := hf 34
  have h35 := hf 35
  have HF := Lib.hid hF
  clear hF
  refine callsIn_of_wp Try.func29 rfl (hf 29) ?_ hro
  simp only [Try.ntmps29, List.size_toArray, List.length_cons, List.length_nil, Nat.reduceAdd, Nat.reduceSub, Array.replicate_succ, Array.replicate_zero, List.push_toArray, List.append_toArray, List.nil_append, List.cons_append]
  gi_wp2_with (gi_at_fn 34; refine (collect_b F (n - 1) (hf 34) (hf 38) hro (by omega) g lb (hf g) eg _ N hN _ hseq).mono ?_; rintro e w' ⟨v, rfl, ss, h, hS, hR, hH⟩)
  obtain ⟨hS, hlen⟩ := hS
  obtain ⟨hl, ⟨rfl, h0, rfl⟩ | ⟨gb, cap, cur, rfl, rfl, r1, r2, r3, r4⟩⟩ := hR
  · have hss : ss = [] := List.eq_nil_of_length_eq_zero h0
    subst hss
    have HH := Lib.hid hH
    clear hH hl
    gi_wp2_with (gi_at_fn 35; refine (show CallsIn F (n - 1) Try.prog 35 _ _ _ by rw [HF.out]; exact callsIn_wide.2 (sortF_none none 0 (.func (.func 13) #[] #[]) _)).mono ?_; rintro e w' ⟨rfl, rfl⟩)
    go_ret
    exact ⟨.slice none 0 0, rfl, [], [], hS, by simpa [sortK, flat] using RowB.nil 23 16, HH.out⟩
  · have hgb := hH.get
    have hHs : Go.Sort.Holds id w' gb 0 (flat ss).toArray := holds_of_block_v hgb (by rw [flat_len]; exact r4)
    have hgl : gb < w'.heap.size := lt_of_block hgb
    have cS := sortF_calls gb cap ss w' hHs hgl (by omega)
    have HH := Lib.hid hH
    clear hHs hgb
    gi_wp2_with (gi_at_fn 35; refine (show CallsIn F (n - 1) Try.prog 35 _ _ _ by rw [HF.out]; exact callsIn_wide.2 cS).mono ?_; rintro e w' ⟨rfl, nn, os, rfl⟩)
    go_ret
    refine ⟨_, rfl, ss, [(gb, .cells (putCells id 0 (flat (sortK ss)).toArray cur) 23)], hS, ⟨by rw [flat_len, sortK_len], .inr ⟨gb, cap, _, rfl, rfl, r1, r2, by simp [putCells, r3], ?_⟩⟩, HH.out.turn (grownBy_sorted_v _) (heap_sorted_v _ HH.out.get)⟩
    have e : ss.length * 16 = (flat (sortK ss)).length := by rw [flat_len, sortK_len]
    rw [e]
    exact take_putCells_v cur _ (by rw [← e, r3]; exact Nat.mul_le_mul_right _ r1)

theorem values_calls (a : Option Addr) (len cap : Nat) (w : World) :
    Calls Try.prog 30 #[.slice a len cap] w fun e w' => e = .returned (.func (.func 36) #[] #[.pointer (some ⟨w.heap.size, 0, none⟩)]) ∧ w' = w.alloc (.cells #[.slice a len cap] 35) := by
  go_enter Try.func30, Try.ntmps30
  go_wp2
  go_ret
  exact ⟨rfl, rfl⟩

theorem sorted_calls (Bs cap : Nat) (A : Option Addr) (ks : List K16) (hn : ks.length ≤ 90000) (w : World) (hBs : Bs < w.heap.size)
    (hc : w.cell? ⟨Bs, 0, none⟩ = some (.slice A ks.length cap)) (hA : KAt w A ks) :
    Calls Try.prog 29 #[.func (.func 36) #[] #[.pointer (some ⟨Bs, 0, none⟩)], .func (.func 13) #[] #[]] w fun e w' => ∃ v, e = .returned v ∧ ∃ h, RowB 23 16 v ks.length (flat (sortK ks)) h ∧ Sp.Holds w h w' := by
  have hseq : SeqB Fence.wide (5 - 1 - 1 - 1) Try.prog 36 #[.pointer (some ⟨Bs, 0, none⟩)] vK (fun ss => ss = ks ∧ ss.length ≤ ks.length) ks.length w := by
    by_cases h0 : 0 < ks.length
    · obtain ⟨b, off, e1, e2, e3⟩ := hA h0
      refine fun l J W hW hJ hK hY hj => (values_gives Fence.wide (5 - 1 - 1 - 1) trivial rfl (by omega) Bs cap A b off ks (by omega) w hBs hc (fun _ => ⟨e1, e2, e3⟩) l J W hW hJ hK hY hj).mono fun e W' ⟨he, xs, hx, hj⟩ => ⟨he, xs, ⟨hx, by rw [hx]; exact Nat.le_refl _⟩, hj⟩
    · refine fun l J W hW hJ hK hY hj => (values_gives Fence.wide (5 - 1 - 1 - 1) trivial rfl (by omega) Bs cap A 0 0 ks (by omega) w hBs hc (fun h => absurd h h0) l J W hW hJ hK hY hj).mono fun e W' ⟨he, xs, hx, hj⟩ => ⟨he, xs, ⟨hx, by rw [hx]; exact Nat.le_refl _⟩, hj⟩
  refine ((callsIn_wide (n := 5)).1 (sorted_b Fence.wide 5 rfl (by omega) 36 #[.pointer (some ⟨Bs, 0, none⟩)] (enters_of Try.func36 (by kernel_rfl) rfl) (· = ks) ks.length hn w hseq)).mono ?_
  rintro e w' ⟨v, rfl, ss, h, rfl, hR, hH⟩
  exact ⟨v, rfl, h, hR, hH⟩

def ksort (ks : List K16) : List K16 := Lib.compact (sortK ks)
set_option maxRecDepth 100000 in
set_option maxHeartbeats 2000000 in
theorem ksort_calls (A : Option Addr) (cap : Nat) (ks : List K16) (hn : ks.length ≤ 90000) (w : World) (hA : KAt w A ks) :
    Calls Try.prog 15 #[.slice A ks.length cap] w fun e w' => ∃ v, e = .returned v ∧ ∃ h, RowB 23 16 v (ksort ks).length (flat (ksort ks)) h ∧ Sp.Holds w h w' := by
  have HA := Lib.hid hA
  obtain ⟨n, hn2⟩ : ∃ n, ks.length = n := ⟨_, rfl⟩
  have HN := Lib.hid hn2
  rw [hn2] at hn ⊢
  clear hn2 hA
  go_enter Try.func15, Try.ntmps15
  go_wp2_with fail
  refine (values_calls _ _ _ _).mono ?_
  rintro e w1 ⟨rfl, rfl⟩
  go_wp2_with fail
  have hnk : ks.length ≤ 90000 := by rw [HN.out]; exact hn
  have hcell : (w.alloc (.cells #[.slice A n cap] 35)).cell? ⟨w.heap.size, 0, none⟩ = some (.slice A ks.length cap) := by rw [HN.out]; exact ((Sp.Holds.nil w).alloc _).cell 0
  refine (sorted_calls w.heap.size cap A ks hnk _ (by simp) hcell (HA.out.below ((Below.refl _ _).alloc (Nat.le_refl _) _))).mono ?_
  rintro e w2 ⟨v, rfl, h, hR, hH⟩
  have hl : (sortK ks).length = ks.length := sortK_len ks
  have hR' : RowB 23 16 v (sortK ks).length (flat (sortK ks)) h := by rw [hl]; exact hR
  have hlb : (sortK ks).length ≤ 100000 := by omega
  have hH' : Sp.Holds w (h ++ [(w.heap.size, .cells #[.slice A n cap] 35)]) w2 := Holds.join ((Sp.Holds.nil w).alloc (.cells #[.slice A n cap] 35)) hH
  have HC := Lib.hid (compact_calls v (sortK ks) h _ w w2 hlb hR' hH')
  clear hR hH hR' hH' hlb hl hnk hcell
  go_wp2_with fail
  refine HC.out.mono ?_
  rintro e w3 ⟨v', rfl, h', hR3, hH3⟩
  have HR3 := Lib.hid hR3
  have HH3 := Lib.hid hH3
  clear hR3 hH3
  go_wp2_with fail
  go_ret
  exact ⟨_, rfl, h', HR3.out, HH3.out.left⟩
end Go.Proofs.Ytnmnniknklfemaa
