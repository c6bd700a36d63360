/- SessKnown's walk. No condition. -/
import Derived.Test.YtmnlncigaamdeaaAw
import Derived.Test.YtmnlncigaamdeaaWt
namespace Go.Proofs.Ytmnlncigaamdeaa
open Go.RowKit Go.Proofs.Ytmnlncigaamdeaa.Sp
set_option linter.unusedVariables false
set_option linter.unusedSimpArgs false
theorem carry {w : World} {a : Addr} {zs : List Int} (h : ∀ j z, zs[j]? = some z → w.cell? (a.add j) = some (.int .i64 z)) : ∀ w', Below w.heap.size w w' → ∀ j z, zs[j]? = some z → w'.cell? (a.add j) = some (.int .i64 z) :=
  fun w' hb j z hj => (hb.cell (World.block_lt_of_cell? _ _ (h j z hj))).trans (h j z hj)
theorem row_cells {w0 w : World} {F hv : Hp} {ad : Addr} {cap : Nat} {zs : List Int} (R : RowB 2 1 (.slice (some ad) zs.length cap) zs.length (zs.map encZ) hv) (H : Sp.Holds w0 (hv ++ F) w) : ∀ j z, zs[j]? = some z → w.cell? (ad.add j) = some (.int .i64 z) := by
  obtain ⟨A, c, hv2, _, hc, hr⟩ := R.reads H
  injection hv2 with e1 _ e2
  subst e1
  exact fun j z hj => hr.2.2 ad rfl j _ (by simp [hj, encZ])
theorem lit_cells {w0 w : World} {F : Hp} {b : Nat} {vs : Array Value} {e : TypeId} {fr : Nat × Nat} {zs : List Int} (hv : vs.toList = zs.map encZ) (H : Sp.Holds w0 ((b, .cells vs e fr) :: F) w) : ∀ j z, zs[j]? = some z → w.cell? ((⟨b, 0, none⟩ : Addr).add j) = some (.int .i64 z) := by
  intro j z hj
  have e2 : (⟨b, 0, none⟩ : Addr).add j = ⟨b, j, none⟩ := by simp [Addr.add]; omega
  rw [e2, H.cell j, ← Array.getElem?_toList, hv, List.getElem?_map, hj]
  rfl
def tx : ByteArray := ⟨#[120]⟩
def tz : ByteArray := ⟨#[122]⟩
def tr : ByteArray := ⟨#[114]⟩
def tq : ByteArray := ⟨#[113]⟩
set_option maxRecDepth 100000 in
set_option maxHeartbeats 4000000 in
theorem known_walk (w : World) : Calls Try.prog 5 #[] w fun e w' => e = .returned (.bool true) ∧ Below w.heap.size w w' := by
  go_enter Try.func5, Try.ntmps5
  go_wp2_with fail
  refine (awake_calls w).mono ?_
  rintro e w1 ⟨rfl, hb⟩
  have HH0 := Lib.hid (Sp.Holds.of_below hb)
  clear hb
  go_wp2_with fail
  refine (new_no 0 (.inl (by decide)) w1).mono ?_
  rintro e w' ⟨rfl, rfl⟩
  go_wp2_with fail
  refine (new_no 33 (.inr (by decide)) w1).mono ?_
  rintro e w' ⟨rfl, rfl⟩
  go_wp2_with fail
  refine (new_calls 1 (by omega) w w1 [] HH0.out).mono ?_
  rintro e w2 ⟨g, rfl, h, hI, hH⟩
  have HI0 := Lib.hid hI; have HG0 := Lib.hid hH
  clear hI hH HH0
  go_wp2_with fail
  refine (open_calls g _ _ _ w _ (by decide) (by decide) HI0.out HG0.out).mono ?_
  rintro e v0 ⟨he, h, hI, hH⟩
  have q : opened ⟨1, 0, []⟩ = ((1, 0), ⟨1, 1, [(1, z0)]⟩) := rfl
  rw [q] at he hI
  subst he
  clear q
  have HI1 := Lib.hid hI; have HG1 := Lib.hid hH
  clear hI hH HI0 HG0
  go_wp2_with fail
  refine (open_calls g _ _ _ w _ (by decide) (by decide) HI1.out HG1.out).mono ?_
  rintro e v1 ⟨he, h, hI, hH⟩
  have q : opened ⟨1, 1, [(1, z0)]⟩ = ((0, 6), ⟨1, 1, [(1, z0)]⟩) := rfl
  rw [q] at he hI
  subst he
  clear q
  have HI2 := Lib.hid hI; have HG2 := Lib.hid hH
  clear hI hH HI1 HG1
  go_wp2_with fail
  refine (ask_calls g _ _ _ 2 1 es w _ (by decide) HI2.out HG2.out).mono ?_
  rintro e v2 ⟨he, h, hI, hH⟩
  have q : ask ⟨1, 1, [(1, z0)]⟩ 2 1 es = ((0, es, 4), ⟨1, 1, [(1, z0)]⟩) := rfl
  rw [q] at he hI
  simp only [ans] at he
  subst he
  clear q
  have HI3 := Lib.hid hI; have HG3 := Lib.hid hH
  clear hI hH HI2 HG2
  go_wp2_with fail
  refine (ask_calls g _ _ _ 1 0 es w _ (by decide) HI3.out HG3.out).mono ?_
  rintro e v3 ⟨he, h, hI, hH⟩
  have q : ask ⟨1, 1, [(1, z0)]⟩ 1 0 es = ((0, es, 1), ⟨1, 1, [(1, z0)]⟩) := rfl
  rw [q] at he hI
  simp only [ans] at he
  subst he
  clear q
  have HI4 := Lib.hid hI; have HG4 := Lib.hid hH
  clear hI hH HI3 HG3
  go_wp2_with fail
  refine (ask_calls g _ _ _ 1 5 tx w _ (by decide) HI4.out HG4.out).mono ?_
  rintro e v4 ⟨he, h, hI, hH⟩
  have q : ask ⟨1, 1, [(1, z0)]⟩ 1 5 tx = ((0, es, 0), ⟨1, 1, [(1, ⟨5, tx, es, true⟩)]⟩) := rfl
  rw [q] at he hI
  simp only [ans] at he
  subst he
  clear q
  have HI5 := Lib.hid hI; have HG5 := Lib.hid hH
  clear hI hH HI4 HG4
  go_wp2_with fail
  refine (ask_calls g _ _ _ 1 5 tz w _ (by decide) HI5.out HG5.out).mono ?_
  rintro e v5 ⟨he, h, hI, hH⟩
  have q : ask ⟨1, 1, [(1, ⟨5, tx, es, true⟩)]⟩ 1 5 tz = ((0, es, 1), ⟨1, 1, [(1, ⟨5, tx, es, true⟩)]⟩) := rfl
  rw [q] at he hI
  simp only [ans] at he
  subst he
  clear q
  have HI6 := Lib.hid hI; have HG6 := Lib.hid hH
  clear hI hH HI5 HG5
  go_wp2_with fail
  refine (ask_calls g _ _ _ 1 4 tx w _ (by decide) HI6.out HG6.out).mono ?_
  rintro e v6 ⟨he, h, hI, hH⟩
  have q : ask ⟨1, 1, [(1, ⟨5, tx, es, true⟩)]⟩ 1 4 tx = ((0, es, 10), ⟨1, 1, [(1, ⟨5, tx, es, true⟩)]⟩) := rfl
  rw [q] at he hI
  simp only [ans] at he
  subst he
  clear q
  have HI7 := Lib.hid hI; have HG7 := Lib.hid hH
  clear hI hH HI6 HG6
  go_wp2_with fail
  refine (ask_calls g _ _ _ 1 6 tx w _ (by decide) HI7.out HG7.out).mono ?_
  rintro e v7 ⟨he, h, hI, hH⟩
  have q : ask ⟨1, 1, [(1, ⟨5, tx, es, true⟩)]⟩ 1 6 tx = ((0, es, 8), ⟨1, 1, [(1, ⟨5, tx, es, true⟩)]⟩) := rfl
  rw [q] at he hI
  simp only [ans] at he
  subst he
  clear q
  have HI8 := Lib.hid hI; have HG8 := Lib.hid hH
  clear hI hH HI7 HG7
  go_wp2_with fail
  refine (answer_calls g _ _ _ 1 4 es w _ (by decide) HI8.out HG8.out).mono ?_
  rintro e v8 ⟨he, h, hI, hH⟩
  have q : answer ⟨1, 1, [(1, ⟨5, tx, es, true⟩)]⟩ 1 4 es = (10, ⟨1, 1, [(1, ⟨5, tx, es, true⟩)]⟩) := rfl
  rw [q] at he hI
  subst he
  clear q
  have HI9 := Lib.hid hI; have HG9 := Lib.hid hH
  clear hI hH HI8 HG8
  go_wp2_with fail
  refine (waiting_calls g _ _ _ w _ (by decide) (by simp) (fun x hx => by
    obtain rfl := List.mem_singleton.mp hx
    exact ⟨rfl, rfl, by decide⟩) HI9.out HG9.out).mono ?_
  rintro e vw ⟨v, rfl, hvw, R, h, hI, hH⟩
  rw [show allM ⟨1, 1, [(1, ⟨5, tx, es, true⟩)]⟩ = [1] from rfl] at R
  obtain ⟨adw, capw, rfl, _⟩ := row_reads R (hH.perm (k := hvw ++ (h ++ [])) (by classical rw [List.perm_iff_count]; intro a; simp only [List.count_append, List.count_cons, List.count_nil]; omega)) (by simp)
  have HI10 := Lib.hid hI; have HG10 := Lib.hid hH; have HRW := Lib.hid R
  clear hI hH R HI9 HG9
  go_wp2_with fail
  refine (answer_calls g _ _ _ 1 5 tr w _ (by decide) HI10.out HG10.out).mono ?_
  rintro e v10 ⟨he, h, hI, hH⟩
  have q : answer ⟨1, 1, [(1, ⟨5, tx, es, true⟩)]⟩ 1 5 tr = (0, ⟨1, 1, [(1, ⟨5, tx, tr, false⟩)]⟩) := rfl
  rw [q] at he hI
  subst he
  clear q
  have HI11 := Lib.hid hI; have HG11 := Lib.hid hH
  clear hI hH HI10 HG10
  go_wp2_with fail
  refine (answer_calls g _ _ _ 1 5 tq w _ (by decide) HI11.out HG11.out).mono ?_
  rintro e v11 ⟨he, h, hI, hH⟩
  have q : answer ⟨1, 1, [(1, ⟨5, tx, tr, false⟩)]⟩ 1 5 tq = (10, ⟨1, 1, [(1, ⟨5, tx, tr, false⟩)]⟩) := rfl
  rw [q] at he hI
  subst he
  clear q
  have HI12 := Lib.hid hI; have HG12 := Lib.hid hH
  clear hI hH HI11 HG11
  go_wp2_with fail
  refine (ask_calls g _ _ _ 1 9 tx w _ (by decide) HI12.out HG12.out).mono ?_
  rintro e v12 ⟨he, h, hI, hH⟩
  have q : ask ⟨1, 1, [(1, ⟨5, tx, tr, false⟩)]⟩ 1 9 tx = ((0, es, 0), ⟨1, 1, [(1, ⟨9, tx, es, true⟩)]⟩) := rfl
  rw [q] at he hI
  simp only [ans] at he
  subst he
  clear q
  have HI13 := Lib.hid hI; have HG13 := Lib.hid hH
  clear hI hH HI12 HG12
  go_wp2_with fail
  refine (close_calls g _ _ _ 1 w _ (by decide) HI13.out HG13.out).mono ?_
  rintro e v13 ⟨he, h, hI, hH⟩
  have q : closed ⟨1, 1, [(1, ⟨9, tx, es, true⟩)]⟩ 1 = (0, ⟨1, 1, []⟩) := rfl
  rw [q] at he hI
  subst he
  clear q
  have HI14 := Lib.hid hI; have HG14 := Lib.hid hH
  clear hI hH HI13 HG13
  go_wp2_with fail
  refine (close_calls g _ _ _ 1 w _ (by decide) HI14.out HG14.out).mono ?_
  rintro e v14 ⟨he, h, hI, hH⟩
  have q : closed ⟨1, 1, []⟩ 1 = (4, ⟨1, 1, []⟩) := rfl
  rw [q] at he hI
  subst he
  clear q
  have HI15 := Lib.hid hI; have HG15 := Lib.hid hH
  clear hI hH HI14 HG14
  go_wp2_with fail
  refine (open_calls g _ _ _ w _ (by decide) (by decide) HI15.out HG15.out).mono ?_
  rintro e v15 ⟨he, h, hI, hH⟩
  have q : opened ⟨1, 1, []⟩ = ((2, 0), ⟨1, 2, [(2, z0)]⟩) := rfl
  rw [q] at he hI
  subst he
  clear q
  have HI16 := Lib.hid hI; have HG16 := Lib.hid hH
  clear hI hH HI15 HG15
  go_wp2_with fail
  have HL := Lib.hid (HG16.out.alloc (.cells #[.int .i64 1] 2))
  refine (same_eq adw _ [1] capw 1 _ (by decide) (carry (row_cells HRW.out (HL.out.tail.right))) (carry (lit_cells rfl HL.out))).mono ?_
  rintro e vs ⟨rfl, hb⟩
  have HG := Lib.hid (HG16.out.alloc_ (.cells #[.int .i64 1] 2) |>.grow hb)
  clear hb HL
  go_wp2_with fail
  refine (all_calls g _ _ _ w _ (by decide) HI16.out HG.out).mono ?_
  rintro e va ⟨v, rfl, hva, R, h, hI, hH⟩
  rw [show allM ⟨1, 2, [(2, z0)]⟩ = [2] from rfl] at R
  have hH2 := hH.perm (k := hva ++ (h ++ (hvw ++ []))) (by classical rw [List.perm_iff_count]; intro a; simp only [List.count_append, List.count_cons, List.count_nil]; omega)
  obtain ⟨ada, capa, rfl, _⟩ := row_reads R hH2 (by simp)
  have HA := Lib.hid hH2; have HRA := Lib.hid R
  clear hI hH R hH2
  go_wp2_with fail
  have HL := Lib.hid (HA.out.alloc (.cells #[.int .i64 2] 2))
  refine (same_eq ada _ [2] capa 1 _ (by decide) (carry (row_cells HRA.out HL.out.tail)) (carry (lit_cells rfl HL.out))).mono ?_
  rintro e vz ⟨rfl, hb⟩
  have HZ := Lib.hid (HL.out.grow hb)
  clear hb
  go_wp2_with fail
  go_ret
  exact ⟨rfl, HZ.out.below⟩
end Go.Proofs.Ytmnlncigaamdeaa
