/- A text that is cut at its first blank; an offset that is read. Conditions: each theorem's own. -/
import Derived.Test.YthelnkmjhchmnaaDoorShelf
import Derived.Test.YthelnkmjhchmnaaDoorQu
import Derived.Shelf.Strings.SlTrimAscii
import Derived.WalkKit
import Derived.Lib.Hide
import Derived.Lib.IndexLaws
import Derived.Lib.CutLaws
import Derived.Lib.IndexBytes
import Derived.Shelf.RegionOpenPlain
import Derived.OwnWalk
import Derived.KernelRfl
import Derived.Lib.AtoiErrMem
namespace Go.Proofs.YthelnkmjhchmnaaDoor.Nm
open Go.RowKit Go.Proofs.YthelnkmjhchmnaaDoor
set_option linter.unusedVariables false
set_option linter.unusedSimpArgs false
def cut32 (s : ByteArray) : ByteArray × ByteArray × Bool := (⟨(Lib.cut s.data.toList [32]).1.toArray⟩, ⟨(Lib.cut s.data.toList [32]).2.1.toArray⟩, (Lib.cut s.data.toList [32]).2.2)
set_option maxHeartbeats 2000000 in
set_option maxRecDepth 100000 in
theorem slcut (s : ByteArray) (w : World) (hs : s.size ≤ 1000000) : Calls Tryd.prog 42 #[.string s, .string ⟨#[32]⟩] w fun e w' => e = .returned (.tuple #[.string (cut32 s).1, .string (cut32 s).2.1, .bool (cut32 s).2.2]) ∧ ∃ n, w' = w.drewN n := by
  have H := Lib.hid (Tryd.stringslite_Index_one s 32)
  unfold cut32
  have hx : Lib.indexByte s.data.toList 32 = Lib.indexB s ⟨#[32]⟩ := (Lib.index_one s.data.toList 32).symm
  rw [hx] at H
  clear hx
  rcases Lib.indexB_cases s ⟨#[32]⟩ with hix | ⟨i, hix, hroom⟩
  · obtain ⟨e1, e2, e3⟩ := Lib.cutB_miss s ⟨#[32]⟩ hix
    rw [hix] at H
    rw [show ([32] : List UInt8) = (⟨#[32]⟩ : ByteArray).data.toList from rfl, e1, e2, e3]
    clear e1 e2 e3 hix
    go_enter Tryd.func42, Tryd.ntmps42
    go_wp2_with fail
    refine (H.out w).mono ?_
    rintro e w' ⟨rfl, rfl⟩
    go_wp2_with fail
    go_ret3
    exact ⟨rfl, 0, rfl⟩
  · obtain ⟨e1, e2, e3⟩ := Lib.cutB_hit s ⟨#[32]⟩ i hix
    rw [hix] at H
    rw [show ([32] : List UInt8) = (⟨#[32]⟩ : ByteArray).data.toList from rfl, e1, e2, e3]
    have hz : (⟨#[32]⟩ : ByteArray).size = 1 := rfl
    rw [hz] at hroom ⊢
    clear e1 e2 e3 hix hz
    have c1 : (0 : Int) ≤ ↑i := by omega
    have c2 : (↑i : Int) ≤ ↑s.size := by omega
    have c3 : (0 : Int) ≤ ↑i + 1 := by omega
    have c4 : (↑i + 1 : Int) ≤ ↑s.size := by omega
    have mixed : Tryd.prog.follows .mixedOrders = true := by kernel_rfl
    have hw : IntKind.i64.wrap ((i : Int) + 1) = (i : Int) + 1 := by rw [IntKind.wrap_i64]; omega
    go_enter Tryd.func42, Tryd.ntmps42
    go_wp2_with fail
    refine (H.out w).mono ?_
    rintro e w' ⟨rfl, rfl⟩
    go_wp2_with fail
    go_region_o
    go_wp2
    go_ret3
    exact ⟨rfl, 1, rfl⟩
theorem cut_calls (s : ByteArray) (w : World) (hs : s.size ≤ 1000000) : Calls Tryd.prog 33 #[.string s, .string ⟨#[32]⟩] w fun e w' => e = .returned (.tuple #[.string (cut32 s).1, .string (cut32 s).2.1, .bool (cut32 s).2.2]) ∧ ∃ n, w' = w.drewN n := by
  have H := Lib.hid (slcut s w hs)
  go_enter Tryd.func33, Tryd.ntmps33
  go_wp2_with fail
  refine H.out.mono ?_
  rintro e w' ⟨rfl, n, rfl⟩
  go_wp2_with fail
  go_ret3
  exact ⟨rfl, n, rfl⟩

/-! An offset. -/
def digs : List UInt8 := [48, 49, 50, 51, 52, 53, 54, 55, 56, 57]
def rest (s : ByteArray) : ByteArray := ⟨(Lib.trimPrefix s.data.toList [45]).toArray⟩
def below (s : ByteArray) : Bool := Lib.hasPrefix s.data.toList [45]
def bad1 (s : ByteArray) : Bool := decide ((rest s).size < 1 ∨ 4 < (rest s).size ∨ Lib.trimS (rest s).data.toList digs ≠ [])
def bad2 (s : ByteArray) : Bool := decide ((rest s).data[0]? = some 48 ∧ (1 < (rest s).size ∨ below s = true))
def num (s : ByteArray) : Int × Bool := if bad1 s = true then (0, false) else if bad2 s = true then (0, false) else ((Lib.atoi s.data.toList).getD 0, true)
theorem dw_nil {α : Type} {p : α → Bool} : ∀ {l : List α}, l.dropWhile p = [] → ∀ x ∈ l, p x = true
  | [], _ => fun x hx => by simp at hx
  | a :: l, h => by
    rw [List.dropWhile_cons] at h
    split at h
    · rename_i ha
      intro x hx
      rcases List.mem_cons.mp hx with rfl | hx
      · exact ha
      · exact dw_nil h x hx
    · simp at h
theorem all_of_trim {l cs : List UInt8} (h : Lib.trimS l cs = []) : ∀ b ∈ l, cs.contains b = true := by
  unfold Lib.trimS Lib.trimLeftS Lib.trimRightS at h
  have h := dw_nil h
  intro b hb
  have hb2 : b ∈ l.reverse := List.mem_reverse.mpr hb
  rw [← List.takeWhile_append_dropWhile (p := (cs.contains ·)) (l := l.reverse)] at hb2
  rcases List.mem_append.mp hb2 with h1 | h1
  · exact List.all_eq_true.mp List.all_takeWhile b h1
  · exact h b (List.mem_reverse.mpr h1)
theorem digs_val {b : UInt8} (h : digs.contains b = true) : ∃ d, Lib.digitVal b = some d := by
  simp [digs] at h
  rcases h with rfl | rfl | rfl | rfl | rfl | rfl | rfl | rfl | rfl | rfl <;> exact ⟨_, rfl⟩
theorem dec_of : ∀ (l : List UInt8) (acc : Nat), (∀ b ∈ l, digs.contains b = true) → ∃ m, Lib.decFrom acc l = some m
  | [], acc, _ => ⟨acc, rfl⟩
  | b :: l, acc, h => by
    obtain ⟨d, hd⟩ := digs_val (h b List.mem_cons_self)
    obtain ⟨m, hm⟩ := dec_of l (acc * 10 + d) (fun x hx => h x (List.mem_cons_of_mem _ hx))
    exact ⟨m, by simp [Lib.decFrom, hd, hm]⟩
theorem atoi_of (s : ByteArray) (h : bad1 s = false) : ∃ n, Lib.atoi s.data.toList = some n ∧ -9999 ≤ n ∧ n ≤ 9999 := by
  unfold bad1 at h
  simp only [decide_eq_false_iff_not, not_or, Decidable.not_not] at h
  obtain ⟨h1, h2, h3⟩ := h
  have hall := all_of_trim h3
  have hd : ∀ l : List UInt8, (rest s).data.toList = l → ∃ m : Nat, Lib.decNat l = some m ∧ m ≤ 9999 := by
    intro l hl
    rw [hl] at hall
    obtain ⟨m, hm⟩ := dec_of l 0 hall
    have hlen : (rest s).size = l.length := by rw [← hl, Array.length_toList]; rfl
    have hlt := Lib.decFrom_lt l 0 m hm
    rw [Nat.zero_add, Nat.one_mul] at hlt
    have hp : 10 ^ l.length ≤ 10 ^ 4 := Nat.pow_le_pow_right (by decide) (by omega)
    refine ⟨m, ?_, by omega⟩
    unfold Lib.decNat
    cases l with
    | nil => simp only [List.length_nil] at hlen; omega
    | cons b l => simpa using hm
  unfold rest Lib.trimPrefix Lib.hasPrefix at hd
  cases hs : s.data.toList with
  | nil =>
    rw [hs] at hd
    obtain ⟨m, hm, hb⟩ := hd _ rfl
    simp [Lib.decNat, List.isPrefixOf] at hm
  | cons b l =>
    rw [hs] at hd
    by_cases hb : b = 45
    · subst hb
      obtain ⟨m, hm, hb⟩ := hd l (by simp [List.isPrefixOf])
      exact ⟨-(m : Int), by simp [Lib.atoi, hm], by omega, by omega⟩
    · have hne : ([45] : List UInt8).isPrefixOf (b :: l) = false := by simp [List.isPrefixOf, Ne.symm hb]
      obtain ⟨m, hm, hmb⟩ := hd (b :: l) (by simp [hne])
      have hp : b ≠ 43 := by
        rintro rfl
        have := (Lib.decNat_some hm).2
        simp [Lib.decFrom, Lib.digitVal] at this
      exact ⟨(m : Int), by simp [Lib.atoi, hb, hp, hm], by omega, by omega⟩
set_option maxHeartbeats 4000000 in
set_option maxRecDepth 100000 in
theorem number_calls (s : ByteArray) (w : World) (hs : s.size ≤ 1000000) : Calls Tryd.prog 36 #[.string s] w fun e w' => e = .returned (.tuple #[.int .i64 (num s).1, .bool (num s).2]) ∧ Below w.heap.size w w' := by
  have H1 := Lib.hid (show ∀ w, Calls Tryd.prog 44 #[.string s, .string ⟨#[45]⟩] w fun e w' => e = .returned (.tuple #[.string (rest s), .bool (below s)]) ∧ w' = w from fun w => Tryd.strings_CutPrefix s ⟨#[45]⟩ w)
  have hrs : (rest s).size ≤ s.size := by
    show (Lib.trimPrefix s.data.toList [45]).toArray.size ≤ s.data.size
    rw [List.size_toArray]
    unfold Lib.trimPrefix
    split <;> simp
  have hr2 : s.size ≤ (rest s).size + 1 := by
    have h1 : (rest s).size = (Lib.trimPrefix s.data.toList [45]).length := by
      show (Lib.trimPrefix s.data.toList [45]).toArray.size = _
      rw [List.size_toArray]
    have h2 : s.size = s.data.toList.length := by rw [Array.length_toList]; rfl
    rw [h1, h2]
    unfold Lib.trimPrefix
    split
    · rw [List.length_drop]; show _ ≤ _ - 1 + 1; omega
    · omega
  have H2 := Lib.hid (show ∀ w, Calls Tryd.prog 45 #[.string (rest s), .string ⟨#[48, 49, 50, 51, 52, 53, 54, 55, 56, 57]⟩] w fun e w' => e = .returned (.string ⟨(Lib.trimS (rest s).data.toList digs).toArray⟩) ∧ Below w.heap.size w w' from
    fun w => Any.strings_Trim_laid Tryd.lays160 (by kernel_rfl) (rest s) ⟨#[48, 49, 50, 51, 52, 53, 54, 55, 56, 57]⟩ w (Nat.le_trans hrs (Nat.le_trans hs (by decide))) (by decide) (ascii_of_all (by decide)))
  have H3 := atoi_of s
  unfold num
  obtain ⟨B1, hB1⟩ : ∃ b, b = bad1 s := ⟨_, rfl⟩
  obtain ⟨B2, hB2⟩ : ∃ b, b = bad2 s := ⟨_, rfl⟩
  rw [← hB1] at H3 ⊢
  rw [← hB2]
  unfold bad1 at hB1
  unfold bad2 at hB2
  obtain ⟨r, hr⟩ : ∃ r, r = rest s := ⟨_, rfl⟩
  obtain ⟨b, hb⟩ : ∃ b, b = below s := ⟨_, rfl⟩
  obtain ⟨t, ht⟩ : ∃ t, t = Lib.trimS (rest s).data.toList digs := ⟨_, rfl⟩
  rw [← ht, ← hr] at hB1 H2
  rw [← hr] at hr2
  rw [← hr, ← hb] at hB2 H1
  clear hr hb ht hrs
  have HR2 := Lib.hid hr2
  clear hr2
  by_cases c1 : (r.size : Int) < 1
  · rw [show B1 = true from hB1.trans (decide_eq_true (Or.inl (by omega))), if_pos rfl]
    clear hB1 hB2 H3 H2
    go_enter Tryd.func36, Tryd.ntmps36
    go_wp2_with fail
    refine (H1.out _).mono ?_
    rintro e w' ⟨rfl, rfl⟩
    go_wp2_with fail
    go_ret2
    exact ⟨rfl, Below.refl _ _⟩
  by_cases c2 : (4 : Int) < (r.size : Int)
  · rw [show B1 = true from hB1.trans (decide_eq_true (Or.inr (Or.inl (by omega)))), if_pos rfl]
    clear hB1 hB2 H3 H2
    go_enter Tryd.func36, Tryd.ntmps36
    go_wp2_with fail
    refine (H1.out _).mono ?_
    rintro e w' ⟨rfl, rfl⟩
    go_wp2_with fail
    go_ret2
    exact ⟨rfl, Below.refl _ _⟩
  obtain ⟨T, hT⟩ : ∃ T : ByteArray, T = ⟨t.toArray⟩ := ⟨_, rfl⟩
  rw [← hT] at H2
  by_cases c3 : t = []
  · have c3' : T = ⟨#[]⟩ := by rw [hT, c3]
    subst c3'
    have hf : B1 = false := hB1.trans (decide_eq_false (fun h => by
      rcases h with h | h | h
      · omega
      · omega
      · exact h c3))
    obtain ⟨n, hn, _, _⟩ := H3 hf
    have H4 := Lib.hid (fun w hl => Tryd.strconv_Atoi s n hl hn w)
    rw [hf, hn]
    simp only [Option.getD_some, Bool.false_eq_true, if_false]
    clear hB1 H3 hf hT hn
    have h0 : 0 < r.size := by omega
    have HS := Lib.hid (show s.size ≤ 18 by have := HR2.out; omega)
    have c1' : (1 : Int) ≤ (r.size : Int) := by omega
    have c2' : (r.size : Int) ≤ 4 := by omega
    have hg : r.data[0]? = some r[0] := Array.getElem?_eq_getElem h0
    rw [hg] at hB2
    clear hg
    by_cases hk : ((r[0]).toNat : Int) = 48
    · have hk2 : r[0] = 48 := UInt8.toNat.inj (by rw [show (48 : UInt8).toNat = 48 from rfl]; omega)
      by_cases hb : b = true
      · rw [show B2 = true from hB2.trans (decide_eq_true ⟨by rw [hk2], Or.inr hb⟩), if_pos rfl]
        subst hb
        clear hB2 hk2 H4 c1 c2
        go_enter Tryd.func36, Tryd.ntmps36
        go_wp2_with fail
        refine (H1.out _).mono ?_
        rintro e w' ⟨rfl, rfl⟩
        go_wp2_with fail
        refine (H2.out _).mono ?_
        rintro e w1 ⟨rfl, hb⟩
        have HB := Lib.hid hb
        clear hb
        go_wp2_with fail
        all_goals (go_ret2; exact ⟨rfl, HB.out⟩)
      have hb : b = false := by simpa using hb
      subst hb
      by_cases hn1 : (1 : Int) < (r.size : Int)
      · rw [show B2 = true from hB2.trans (decide_eq_true ⟨by rw [hk2], Or.inl (by omega)⟩), if_pos rfl]
        clear hB2 hk2 H4 c1 c2
        go_enter Tryd.func36, Tryd.ntmps36
        go_wp2_with fail
        refine (H1.out _).mono ?_
        rintro e w' ⟨rfl, rfl⟩
        go_wp2_with fail
        refine (H2.out _).mono ?_
        rintro e w1 ⟨rfl, hb⟩
        have HB := Lib.hid hb
        clear hb
        go_wp2_with fail
        all_goals (go_ret2; exact ⟨rfl, HB.out⟩)
      · rw [show B2 = false from hB2.trans (decide_eq_false (fun h => h.2.elim (fun h => hn1 (by omega)) (by simp)))]
        simp only [Bool.false_eq_true, if_false]
        have hn1' : (r.size : Int) ≤ 1 := by omega
        clear hB2 hk2 c1 c2
        go_enter Tryd.func36, Tryd.ntmps36
        go_wp2_with fail
        refine (H1.out _).mono ?_
        rintro e w' ⟨rfl, rfl⟩
        go_wp2_with fail
        refine (H2.out _).mono ?_
        rintro e w1 ⟨rfl, hb⟩
        have HB := Lib.hid hb
        clear hb
        go_wp2_with fail
        refine (H4.out _ HS.out).mono ?_
        rintro e w2 ⟨rfl, tt, rfl⟩
        have HB2 := Lib.hid (HB.out.trans ((Lib.bytesWorld_below w1 5 tt).mono HB.out.size))
        go_wp2_with fail
        go_ret2
        exact ⟨rfl, HB2.out⟩
    · rw [show B2 = false from hB2.trans (decide_eq_false (fun h => hk (by have := Option.some.inj h.1; rw [this]; rfl)))]
      simp only [Bool.false_eq_true, if_false]
      clear hB2 c1 c2
      go_enter Tryd.func36, Tryd.ntmps36
      go_wp2_with fail
      refine (H1.out _).mono ?_
      rintro e w' ⟨rfl, rfl⟩
      go_wp2_with fail
      refine (H2.out _).mono ?_
      rintro e w1 ⟨rfl, hb⟩
      have HB := Lib.hid hb
      clear hb
      go_wp2_with fail
      refine (H4.out _ HS.out).mono ?_
      rintro e w2 ⟨rfl, tt, rfl⟩
      have HB2 := Lib.hid (HB.out.trans ((Lib.bytesWorld_below w1 5 tt).mono HB.out.size))
      go_wp2_with fail
      go_ret2
      exact ⟨rfl, HB2.out⟩
  · have hne : T.toList.isEmpty = false := by
      rw [Lib.toList_data, hT]
      cases t with
      | nil => exact absurd rfl c3
      | cons => rfl
    rw [show B1 = true from hB1.trans (decide_eq_true (Or.inr (Or.inr c3))), if_pos rfl]
    clear hB1 hB2 H3 hT
    go_enter Tryd.func36, Tryd.ntmps36
    go_wp2_with fail
    refine (H1.out _).mono ?_
    rintro e w' ⟨rfl, rfl⟩
    go_wp2_with fail
    refine (H2.out _).mono ?_
    rintro e w1 ⟨rfl, hb⟩
    have HB := Lib.hid hb
    clear hb
    go_wp2_with fail
    go_ret2
    exact ⟨rfl, HB.out⟩
end Go.Proofs.YthelnkmjhchmnaaDoor.Nm
