/- What StampSays' own code does, for all stamps and numbers. Condition: the library's table of powers is as its own text lays it. -/
import Derived.Test.YtdmicehmmmpjcaaDoorSaysA
import Derived.Test.YtdmicehmmmpjcaaDoorSaysB
import Derived.Test.YtdmicehmmmpjcaaDoorSaysC
import Derived.Test.YtdmicehmmmpjcaaDoorSaysD
namespace Go.Proofs.YtdmicehmmmpjcaaDoor
open Go.RowKit
set_option linter.unusedVariables false
set_option linter.unusedSimpArgs false
theorem max_one (a m b n : Int) : ∃ p q, (if cs a m b n < 0 then (Value.agg (st2 b n)) else .agg (st2 a m)) = .agg (st2 p q) := by
  by_cases h : cs a m b n < 0
  · exact ⟨b, n, by rw [if_pos h]⟩
  · exact ⟨a, m, by rw [if_neg h]⟩
theorem stampSays_calls (t n u k v : Int) (h0 : -9223372036854775808 ≤ t) (h1 : t ≤ 9223372036854775807) (hn : 0 ≤ n ∧ n ≤ 255) (v0 : 0 ≤ v) (v1 : v < 18446744073709551616) (w : World) (hT : Tab w) :
    Calls Tryd.prog 7 #[.agg #[.int .i64 t, .int .u8 n], .agg #[.int .i64 u, .int .u8 k], .int .u64 v] w fun x w' => x = .returned (.bool true) ∧ Below w.heap.size w w' := by
  obtain ⟨m1, m2, hm⟩ := max_one t n u k
  have HM := max_calls t n u k
  have RM := rmax_calls t n u k
  rw [hm] at HM RM
  have HT := fun w hw => text_calls t n h0 h1 hn w hw
  have RT := fun w => rtext_calls t n h0 h1 hn w
  have HG := good_calls t n
  have RG := rgood_calls t n
  have V : (∃ i1 i2, (∀ w, Calls Tryd.prog 10 #[.int .u64 v] w fun e w' => e = .returned (.tuple #[.agg (st2 i1 i2), .int .i64 0]) ∧ Below w.heap.size w w') ∧ (∀ w, Calls Tryd.prog 17 #[.int .u64 v] w fun e w' => e = .returned (.tuple #[.agg (st2 i1 i2), .bool true]) ∧ Below w.heap.size w w')) ∨
      (∃ i1 i2, (∀ w, Calls Tryd.prog 10 #[.int .u64 v] w fun e w' => e = .returned (.tuple #[.agg (st2 i1 i2), .int .i64 1]) ∧ Below w.heap.size w w') ∧ (∀ w, Calls Tryd.prog 17 #[.int .u64 v] w fun e w' => e = .returned (.tuple #[.agg (st2 i1 i2), .bool false]) ∧ Below w.heap.size w w')) := by
    by_cases hv : v < 9223372036854775808
    · exact .inl ⟨_, _, unpack_yes v v0 hv, runpack_yes v v0 hv⟩
    · exact .inr ⟨_, _, unpack_no v (by omega) v1, runpack_no v (by omega) v1⟩
  cases hg : gd t with
  | false =>
    rw [hg] at HG RG
    rcases V with ⟨i1, i2, HV, RV⟩ | ⟨i1, i2, HV, RV⟩
    · exact says_00 t n u k v 0 i1 i2 _ m1 m2 _ w (Lib.hid hT) (Lib.hid (pack_no t n hg)) (Lib.hid (rpack_no t n hg)) (Lib.hid HV) (Lib.hid RV) (Lib.hid (next_no t n hg)) (Lib.hid RG) (Lib.hid HG) (Lib.hid (cmp_calls _ n u k)) (Lib.hid (rcmp_calls _ n u k)) (Lib.hid HM) (Lib.hid RM) (Lib.hid HT) (Lib.hid RT)
    · exact says_01 t n u k v 0 i1 i2 _ m1 m2 _ w (Lib.hid hT) (Lib.hid (pack_no t n hg)) (Lib.hid (rpack_no t n hg)) (Lib.hid HV) (Lib.hid RV) (Lib.hid (next_no t n hg)) (Lib.hid RG) (Lib.hid HG) (Lib.hid (cmp_calls _ n u k)) (Lib.hid (rcmp_calls _ n u k)) (Lib.hid HM) (Lib.hid RM) (Lib.hid HT) (Lib.hid RT)
  | true =>
    rw [hg] at HG RG
    by_cases hne : t = 36028797018963967
    · subst hne
      rcases V with ⟨i1, i2, HV, RV⟩ | ⟨i1, i2, HV, RV⟩
      · exact says_10 n u k v _ i1 i2 _ m1 m2 _ w (Lib.hid hT) (Lib.hid (pack_yes _ n hg hn.1 hn.2)) (Lib.hid (rpack_yes _ n hg hn.1 hn.2)) (Lib.hid HV) (Lib.hid RV) (Lib.hid (next_spent n)) (Lib.hid RG) (Lib.hid HG) (Lib.hid (cmp_calls _ n u k)) (Lib.hid (rcmp_calls _ n u k)) (Lib.hid HM) (Lib.hid RM) (Lib.hid HT) (Lib.hid RT)
      · exact says_11 n u k v _ i1 i2 _ m1 m2 _ w (Lib.hid hT) (Lib.hid (pack_yes _ n hg hn.1 hn.2)) (Lib.hid (rpack_yes _ n hg hn.1 hn.2)) (Lib.hid HV) (Lib.hid RV) (Lib.hid (next_spent n)) (Lib.hid RG) (Lib.hid HG) (Lib.hid (cmp_calls _ n u k)) (Lib.hid (rcmp_calls _ n u k)) (Lib.hid HM) (Lib.hid RM) (Lib.hid HT) (Lib.hid RT)
    · have ht : 0 ≤ t ∧ t ≤ 36028797018963967 := by simpa [gd] using hg
      rcases V with ⟨i1, i2, HV, RV⟩ | ⟨i1, i2, HV, RV⟩
      · exact says_20 t n u k v _ i1 i2 _ m1 m2 _ w (Lib.hid hT) hne (by rw [IntKind.wrap_i64]; omega) (Lib.hid (pack_yes _ n hg hn.1 hn.2)) (Lib.hid (rpack_yes _ n hg hn.1 hn.2)) (Lib.hid HV) (Lib.hid RV) (Lib.hid (next_yes t n hg hne)) (Lib.hid RG) (Lib.hid HG) (Lib.hid (cmp_calls _ n u k)) (Lib.hid (rcmp_calls _ n u k)) (Lib.hid HM) (Lib.hid RM) (Lib.hid HT) (Lib.hid RT)
      · exact says_21 t n u k v _ i1 i2 _ m1 m2 _ w (Lib.hid hT) hne (by rw [IntKind.wrap_i64]; omega) (Lib.hid (pack_yes _ n hg hn.1 hn.2)) (Lib.hid (rpack_yes _ n hg hn.1 hn.2)) (Lib.hid HV) (Lib.hid RV) (Lib.hid (next_yes t n hg hne)) (Lib.hid RG) (Lib.hid HG) (Lib.hid (cmp_calls _ n u k)) (Lib.hid (rcmp_calls _ n u k)) (Lib.hid HM) (Lib.hid RM) (Lib.hid HT) (Lib.hid RT)
end Go.Proofs.YtdmicehmmmpjcaaDoor
