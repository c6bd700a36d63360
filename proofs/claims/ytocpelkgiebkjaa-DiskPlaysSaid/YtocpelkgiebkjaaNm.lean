/- Two rows of the same texts are alike. No condition other than the reach. -/
import Derived.Test.YtocpelkgiebkjaaAw
namespace Go.Proofs.Ytocpelkgiebkjaa
open Go.RowKit Go.Proofs.Ytocpelkgiebkjaa.Sp
set_option linter.unusedVariables false
set_option linter.unusedSimpArgs false
theorem bel_drewN {w w' : World} (h : Below w.heap.size w w') (n : Nat) : Below w.heap.size w (w'.drewN n) := ⟨h.os, h.tape, h.output, h.size, h.block⟩
theorem names_none (c c' : Nat) (w : World) : Calls Try.prog 43 #[.slice none 0 c, .slice none 0 c'] w fun e w' => e = .returned (.bool true) ∧ Below w.heap.size w w' := by
  go_enter Try.func43, Try.ntmps43
  go_wp2
  go_loopw [5] (fun i wr => wr = w ∧ i = .int .i64 0) (fun i _ => 0)
  case atStart => exact ⟨rfl, rfl⟩
  case round =>
    obtain ⟨rfl, rfl⟩ := hrel
    go_wp2_with fail
    go_ret
    exact ⟨rfl, Below.refl _ _⟩
theorem names_eq (a b : Addr) (zs : List ByteArray) (ca cb : Nat) (w : World) (hz : zs.length ≤ 1000000000) (hr : ∀ w', Below w.heap.size w w' → ∀ j z, zs[j]? = some z → w'.cell? (a.add j) = some (.string z)) (hs : ∀ w', Below w.heap.size w w' → ∀ j z, zs[j]? = some z → w'.cell? (b.add j) = some (.string z)) :
    Calls Try.prog 43 #[.slice (some a) zs.length ca, .slice (some b) zs.length cb] w fun e w' => e = .returned (.bool true) ∧ Below w.heap.size w w' := by
  have HR := Lib.hid hr; have HS := Lib.hid hs
  clear hr hs
  go_enter Try.func43, Try.ntmps43
  go_wp2
  go_loopw [5] (fun i wr => Below w.heap.size w wr ∧ ∃ k : Nat, k ≤ zs.length ∧ i = .int .i64 k) (fun i _ => zs.length - (intOf i).toNat)
  case atStart => exact ⟨Below.refl _ w, 0, by omega, rfl⟩
  case round =>
    obtain ⟨hb, k, hk, rfl⟩ := hrel
    have HB := Lib.hid hb
    clear hb
    by_cases hlt : k < zs.length
    · obtain ⟨z, hzk⟩ : ∃ z, zs[k]? = some z := ⟨_, List.getElem?_eq_getElem hlt⟩
      have h1 : ∀ n, (wr.drewN n).cell? (a.add k) = some (.string z) := fun n => HR.out _ (bel_drewN HB.out n) k z hzk
      have h2 : ∀ n, (wr.drewN n).cell? (b.add k) = some (.string z) := fun n => HS.out _ (bel_drewN HB.out n) k z hzk
      clear hzk
      go_wp2_with fail
      go_quiet (fail)
      go_wp2_with fail
      exact ⟨⟨bel_drewN HB.out _, k + 1, by omega, by simp⟩, by simp [intOf]; omega⟩
    · go_wp2_with fail
      go_ret
      exact ⟨rfl, HB.out⟩
end Go.Proofs.Ytocpelkgiebkjaa
