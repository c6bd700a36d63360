/- StampOrder answers true, whatever the stamps: the cases joined. No condition. -/
import Derived.Test.YtdmicehmmmpjcaaDoorOrdA
import Derived.Test.YtdmicehmmmpjcaaDoorOrdB
import Derived.Test.YtdmicehmmmpjcaaDoorOrdC
import Derived.Test.YtdmicehmmmpjcaaDoorOrdD
namespace Go.Proofs.YtdmicehmmmpjcaaDoor
open Go.RowKit

/-- Which of the two is below, in plain words. -/
theorem cs_is (t n u k : Int) : (cs t n u k = -1 ∧ (t < u ∨ (t = u ∧ n < k))) ∨ (cs t n u k = 0 ∧ t = u ∧ n = k) ∨ (cs t n u k = 1 ∧ (u < t ∨ (t = u ∧ k < n))) := by
  unfold cs c2
  by_cases h1 : t < u
  · simp [if_pos h1]; omega
  · by_cases h2 : u < t
    · simp [if_neg h1, if_pos h2]; omega
    · obtain rfl : t = u := by omega
      simp only [if_neg h1]
      by_cases h3 : n < k
      · simp [if_pos h3]; omega
      · by_cases h4 : k < n
        · simp [if_neg h3, if_pos h4]; omega
        · simp [if_neg h3, if_neg h4]; omega
theorem HC (t n u k v : Int) (h : cs t n u k = v) : Hid (∀ w, Calls Tryd.prog 11 #[.agg (st2 t n), .agg (st2 u k)] w fun x w' => x = .returned (.int .i64 v) ∧ Below w.heap.size w w') := Lib.hid (h ▸ cmp_calls t n u k)
theorem HMl (t n u k : Int) (h : cs t n u k < 0) : Hid (∀ w, Calls Tryd.prog 12 #[.agg (st2 t n), .agg (st2 u k)] w fun x w' => x = .returned (.agg (st2 u k)) ∧ Below w.heap.size w w') := Lib.hid fun w => by
  have := max_calls t n u k w
  rw [if_pos h] at this
  exact this
theorem HMr (t n u k : Int) (h : ¬ cs t n u k < 0) : Hid (∀ w, Calls Tryd.prog 12 #[.agg (st2 t n), .agg (st2 u k)] w fun x w' => x = .returned (.agg (st2 t n)) ∧ Below w.heap.size w w') := Lib.hid fun w => by
  have := max_calls t n u k w
  rw [if_neg h] at this
  exact this
theorem stampOrder_calls (t n u k i j : Int) (w : World) :
    Calls Tryd.prog 4 #[.agg (st2 t n), .agg (st2 u k), .agg (st2 i j)] w fun x w' => x = .returned (.bool true) ∧ Below w.heap.size w w' := by
  have cba := cs_is u k t n
  have cca := cs_is i j t n
  have caa := cs_is t n t n
  have cbb := cs_is u k u k
  rcases cs_is t n u k with ⟨h1, g1⟩ | ⟨h1, g1⟩ | ⟨h1, g1⟩
  · rcases cs_is u k i j with ⟨h2, g2⟩ | ⟨h2, g2⟩ | ⟨h2, g2⟩
    · rcases cs_is t n i j with ⟨h3, g3⟩ | ⟨h3, g3⟩ | ⟨h3, g3⟩
      · exact ord_mmm t n u k i j w (by omega) (HC t n u k (-1) (by omega)) (HC t n i j (-1) (by omega)) (HC u k t n (1) (by omega)) (HC u k i j (-1) (by omega)) (HMl t n u k (by omega)) (HMl t n i j (by omega)) (HMl u k i j (by omega))
      · exfalso; clear cba cca caa cbb h1 h2 h3; omega
      · exfalso; clear cba cca caa cbb h1 h2 h3; omega
    · rcases cs_is t n i j with ⟨h3, g3⟩ | ⟨h3, g3⟩ | ⟨h3, g3⟩
      · obtain ⟨rfl, rfl⟩ := g2
        exact ord_mzm t n u k w (by omega) (HC t n u k (-1) (by omega)) (HC t n u k (-1) (by omega)) (HC u k t n (1) (by omega)) (HC u k u k (0) (by omega)) (HMl t n u k (by omega)) (HMr u k u k (by omega))
      · exfalso; clear cba cca caa cbb h1 h2 h3; omega
      · exfalso; clear cba cca caa cbb h1 h2 h3; omega
    · rcases cs_is t n i j with ⟨h3, g3⟩ | ⟨h3, g3⟩ | ⟨h3, g3⟩
      · exact ord_mpm t n u k i j w (by omega) (HC t n u k (-1) (by omega)) (HC t n i j (-1) (by omega)) (HC u k t n (1) (by omega)) (HC u k i j (1) (by omega)) (HMl t n u k (by omega)) (HMr u k i j (by omega))
      · exact ord_mpz t n u k i j w (by omega) (HC t n u k (-1) (by omega)) (HC t n i j (0) (by omega)) (HC u k t n (1) (by omega)) (HC u k i j (1) (by omega)) (HMl t n u k (by omega)) (HMr u k i j (by omega))
      · exact ord_mpp t n u k i j w (by omega) (HC t n u k (-1) (by omega)) (HC t n i j (1) (by omega)) (HC u k t n (1) (by omega)) (HC u k i j (1) (by omega)) (HMl t n u k (by omega)) (HMr u k i j (by omega))
  · rcases cs_is u k i j with ⟨h2, g2⟩ | ⟨h2, g2⟩ | ⟨h2, g2⟩
    · rcases cs_is t n i j with ⟨h3, g3⟩ | ⟨h3, g3⟩ | ⟨h3, g3⟩
      · obtain ⟨rfl, rfl⟩ := g1
        exact ord_zmm t n i j w (HC t n t n (0) (by omega)) (HC t n t n (0) (by omega)) (HC t n i j (-1) (by omega)) (HC t n t n (0) (by omega)) (HC t n i j (-1) (by omega)) (HMr t n t n (by omega)) (HMl t n i j (by omega)) (HMl t n i j (by omega))
      · exfalso; clear cba cca caa cbb h1 h2 h3; omega
      · exfalso; clear cba cca caa cbb h1 h2 h3; omega
    · rcases cs_is t n i j with ⟨h3, g3⟩ | ⟨h3, g3⟩ | ⟨h3, g3⟩
      · exfalso; clear cba cca caa cbb h1 h2 h3; omega
      · obtain ⟨rfl, rfl⟩ := g1
        obtain ⟨rfl, rfl⟩ := g2
        exact ord_zzz t n w (HC t n t n (0) (by omega)) (HC t n t n (0) (by omega)) (HC t n t n (0) (by omega)) (HC t n t n (0) (by omega)) (HC t n t n (0) (by omega)) (HMr t n t n (by omega)) (HMr t n t n (by omega)) (HMr t n t n (by omega))
      · exfalso; clear cba cca caa cbb h1 h2 h3; omega
    · rcases cs_is t n i j with ⟨h3, g3⟩ | ⟨h3, g3⟩ | ⟨h3, g3⟩
      · exfalso; clear cba cca caa cbb h1 h2 h3; omega
      · exfalso; clear cba cca caa cbb h1 h2 h3; omega
      · obtain ⟨rfl, rfl⟩ := g1
        exact ord_zpp t n i j w (HC t n t n (0) (by omega)) (HC t n t n (0) (by omega)) (HC t n i j (1) (by omega)) (HC t n t n (0) (by omega)) (HC t n i j (1) (by omega)) (HMr t n t n (by omega)) (HMr t n i j (by omega)) (HMr t n i j (by omega))
  · rcases cs_is u k i j with ⟨h2, g2⟩ | ⟨h2, g2⟩ | ⟨h2, g2⟩
    · rcases cs_is t n i j with ⟨h3, g3⟩ | ⟨h3, g3⟩ | ⟨h3, g3⟩
      · exact ord_pmm t n u k i j w (by omega) (HC t n t n (0) (by omega)) (HC t n u k (1) (by omega)) (HC t n i j (-1) (by omega)) (HC u k t n (-1) (by omega)) (HC u k i j (-1) (by omega)) (HMr t n u k (by omega)) (HMl t n i j (by omega)) (HMl u k i j (by omega))
      · exact ord_pmz t n u k i j w (by omega) (HC t n t n (0) (by omega)) (HC t n u k (1) (by omega)) (HC t n i j (0) (by omega)) (HC u k t n (-1) (by omega)) (HC u k i j (-1) (by omega)) (HMr t n u k (by omega)) (HMr t n i j (by omega)) (HMl u k i j (by omega))
      · exact ord_pmp t n u k i j w (by omega) (HC t n t n (0) (by omega)) (HC t n u k (1) (by omega)) (HC t n i j (1) (by omega)) (HC u k t n (-1) (by omega)) (HC u k i j (-1) (by omega)) (HMr t n u k (by omega)) (HMr t n i j (by omega)) (HMl u k i j (by omega))
    · rcases cs_is t n i j with ⟨h3, g3⟩ | ⟨h3, g3⟩ | ⟨h3, g3⟩
      · exfalso; clear cba cca caa cbb h1 h2 h3; omega
      · exfalso; clear cba cca caa cbb h1 h2 h3; omega
      · obtain ⟨rfl, rfl⟩ := g2
        exact ord_pzp t n u k w (by omega) (HC t n t n (0) (by omega)) (HC t n u k (1) (by omega)) (HC t n u k (1) (by omega)) (HC u k t n (-1) (by omega)) (HC u k u k (0) (by omega)) (HMr t n u k (by omega)) (HMr t n u k (by omega)) (HMr u k u k (by omega))
    · rcases cs_is t n i j with ⟨h3, g3⟩ | ⟨h3, g3⟩ | ⟨h3, g3⟩
      · exfalso; clear cba cca caa cbb h1 h2 h3; omega
      · exfalso; clear cba cca caa cbb h1 h2 h3; omega
      · exact ord_ppp t n u k i j w (by omega) (HC t n t n (0) (by omega)) (HC t n u k (1) (by omega)) (HC t n i j (1) (by omega)) (HC u k t n (-1) (by omega)) (HC u k i j (1) (by omega)) (HMr t n u k (by omega)) (HMr t n i j (by omega)) (HMr u k i j (by omega))
end Go.Proofs.YtdmicehmmmpjcaaDoor
