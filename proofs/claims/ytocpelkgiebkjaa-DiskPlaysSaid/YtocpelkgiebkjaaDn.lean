/- More of what a disk's methods do: New, Power, Lives, Size, On, Sync, Read. Conditions: each theorem's own. -/
import Derived.Test.YtocpelkgiebkjaaDm
namespace Go.Proofs.Ytocpelkgiebkjaa
open Go.RowKit Go.Proofs.Ytocpelkgiebkjaa.Sp
set_option linter.unusedVariables false
set_option linter.unusedSimpArgs false
theorem new_calls (room : Int) (hr : 64 ≤ room ∧ room ≤ 1048576) (w0 w : World) (F : Hp) (H : Holds w0 F w) :
    Calls Try.prog 9 #[.int .i64 room] w fun e w' => ∃ g, e = .returned (.tuple #[.pointer (some ⟨g, 0, none⟩), .int .i64 0]) ∧ ∃ h, IsD g ⟨room, 1, true, []⟩ h ∧ Holds w0 (h ++ F) w' := by
  have h1 : ¬ room < 64 := by omega
  have h2 : ¬ 1048576 < room := by omega
  have HH := Lib.hid H
  clear H
  have hmk : (Instr.makeMap 53 none).run Try.prog w = .ok (.map (some w.heap.size)) (w.alloc (.map #[] 0)) := rfl
  go_enter Try.func9, Try.ntmps9
  go_wp2
  go_ret2
  refine ⟨_, rfl, _, ⟨w.heap.size, _, [], [], MapB.empty _ _ _, rfl, rfl, rfl, ⟨by simp, by simp, by simp [totM]; omega, hr.2, hr.1, by simp⟩⟩, ?_⟩
  exact HH.out.alloc2 _ _
theorem new_no (room : Int) (hr : room < 64 ∨ 1048576 < room) (w : World) :
    Calls Try.prog 9 #[.int .i64 room] w fun e w' => e = .returned (.tuple #[.pointer none, .int .i64 1]) ∧ w = w' := by
  rcases hr with h | h
  · go_enter Try.func9, Try.ntmps9
    go_wp2
    go_ret2
    exact ⟨rfl, rfl⟩
  · have h1 : ¬ room < 64 := by omega
    go_enter Try.func9, Try.ntmps9
    go_wp2
    go_ret2
    exact ⟨rfl, rfl⟩
theorem power_calls (g : Nat) (m : DM) (h F : Hp) (w0 w : World) (hI : IsD g m h) (H : Holds w0 (h ++ F) w) : Calls Try.prog 28 #[.pointer (some ⟨g, 0, none⟩)] w fun e w' => e = .returned (.bool m.power) ∧ w = w' := by
  obtain ⟨mb, o, L, hf, _, _, _, rfl, _⟩ := hI
  have c2 : w.cell? ⟨g, 2, none⟩ = some (.bool m.power) := H.cell 2
  clear H
  go_enter Try.func28, Try.ntmps28
  go_wp2
  go_ret
  exact ⟨rfl, rfl⟩
theorem lives_calls (g : Nat) (m : DM) (h F : Hp) (w0 w : World) (hI : IsD g m h) (H : Holds w0 (h ++ F) w) : Calls Try.prog 29 #[.pointer (some ⟨g, 0, none⟩)] w fun e w' => e = .returned (.int .i64 m.lives) ∧ w = w' := by
  obtain ⟨mb, o, L, hf, _, _, _, rfl, _⟩ := hI
  have c1 : w.cell? ⟨g, 1, none⟩ = some (.int .i64 m.lives) := H.cell 1
  clear H
  go_enter Try.func29, Try.ntmps29
  go_wp2
  go_ret
  exact ⟨rfl, rfl⟩
def sizeM (m : DM) : Int := if m.power then totM m.fl else 0
theorem size_calls (g : Nat) (m : DM) (h F : Hp) (w0 w : World) (hI : IsD g m h) (H : Holds w0 (h ++ F) w) : Calls Try.prog 11 #[.pointer (some ⟨g, 0, none⟩)] w fun e w' => e = .returned (.int .i64 (sizeM m)) ∧ ∃ h', IsD g m h' ∧ Holds w0 (h' ++ F) w' := by
  obtain ⟨mb, o, L, hf, hM, hfl, hF, rfl, hok⟩ := hI
  have c2 : w.cell? ⟨g, 2, none⟩ = some (.bool m.power) := H.cell 2
  have HI := Lib.hid (show IsD g m _ from ⟨mb, o, L, hf, hM, hfl, hF, rfl, hok⟩)
  have HM := Lib.hid hM; have HF := Lib.hid hF
  have HA := Lib.hid (apart_abs (L := L) (by rw [← hfl]; exact hok.apart))
  have htm : tot L = totM m.fl := by rw [hfl]; exact tot_abs L
  have HT := Lib.hid (show tot L ≤ 1000000000 by have := hok.tot; have := hok.room; omega)
  have HTM := Lib.hid htm
  have HH := Lib.hid H
  clear hM hfl hF hok H htm
  unfold sizeM
  cases hp : m.power
  · rw [hp] at c2
    go_enter Try.func11, Try.ntmps11
    go_wp2
    go_ret
    exact ⟨rfl, _, HI.out, HH.out⟩
  · rw [hp] at c2
    have H2 := HH.out
    rw [hp] at H2
    have HH2 := Lib.hid H2
    clear H2
    go_enter Try.func11, Try.ntmps11
    go_wp2_with fail
    refine (total_calls g m.room m.lives true mb o L hf F w0 w HM.out HF.out HA.out HT.out HH2.out).mono ?_
    rintro e w3 ⟨rfl, hH3⟩
    have HH3 := Lib.hid hH3
    clear hH3
    go_wp2_with fail
    go_ret
    refine ⟨?_, _, HI.out, by have := HH3.out; rw [← hp] at this; exact this⟩
    show Ending.returned (.int .i64 (tot L)) = _
    rw [HTM.out]
def onM (m : DM) : DM := { m with power := true, lives := m.lives + 1 }
theorem on_calls (g : Nat) (m : DM) (h F : Hp) (w0 w : World) (hl : m.lives < 1000000000) (hI : IsD g m h) (H : Holds w0 (h ++ F) w) : Calls Try.prog 14 #[.pointer (some ⟨g, 0, none⟩)] w fun e w' => e = .returned (.tuple #[]) ∧ ∃ h', IsD g (onM m) h' ∧ Holds w0 (h' ++ F) w' := by
  obtain ⟨mb, o, L, hf, hM, hfl, hF, rfl, hok⟩ := hI
  have c1 : w.cell? ⟨g, 1, none⟩ = some (.int .i64 m.lives) := H.cell 1
  have c2 : w.cell? ⟨g, 2, none⟩ = some (.bool m.power) := H.cell 2
  have f1 : w.frozen? ⟨g, 1, none⟩ = false := H.froz 1
  have f2 : w.frozen? ⟨g, 2, none⟩ = false := H.froz 2
  have hl0 := hok.lives.1
  have HM := Lib.hid (show IsD g (onM m) ((g, dskO m.room (m.lives + 1) true mb) :: (mb, o) :: hf) from ⟨mb, o, L, hf, hM, hfl, hF, rfl, ⟨hok.apart, hok.safe, hok.tot, hok.room, hok.room0, by show 0 ≤ m.lives + 1 ∧ m.lives + 1 ≤ 1000000000; omega⟩⟩)
  have HH := Lib.hid H
  clear hM hfl hF hok H
  go_enter Try.func14, Try.ntmps14
  go_wp2
  refine bodyPost_end (v := .tuple #[]) (by simp [results, Try.results14, go_sem]) rfl ⟨rfl, _, HM.out, ?_⟩
  exact (HH.out.set 2 (.bool true)).set 1 (.int .i64 (m.lives + 1))
def findM (m : DM) (s : ByteArray) : Int × Option Fl :=
  if m.power then (if goodN s then (match m.fl.find? (namedM s) with | some x => (0, some x.2) | none => (4, none)) else (1, none)) else (7, none)
def syncM (m : DM) (s : ByteArray) : Int × DM := match findM m s with
  | (e, some f) => (e, { m with fl := setM s { f with safe := f.b.length } m.fl })
  | (e, none) => (e, m)
/-- Finding a file: a fault, or the file where it lies. -/
theorem found {m : DM} {L : List Ent} (s : ByteArray) (hfl : m.fl = absL L) : (∃ e, e ≠ 0 ∧ findL m.power L s = (none, e) ∧ findM m s = (e, none)) ∨ (∃ x, L.find? (named s) = some x ∧ findL m.power L s = (some x.2.1, 0) ∧ findM m s = (0, some x.2.2)) := by
  unfold findL findM
  cases m.power
  · exact .inl ⟨7, by decide, rfl, rfl⟩
  · cases goodN s
    · exact .inl ⟨1, by decide, rfl, rfl⟩
    · rw [hfl, find_abs]
      cases hf : L.find? (named s) with
      | none => exact .inl ⟨4, by decide, rfl, rfl⟩
      | some x => exact .inr ⟨x, rfl, rfl, rfl⟩
set_option maxRecDepth 100000 in
set_option maxHeartbeats 2000000 in
theorem sync_calls (g : Nat) (m : DM) (h F : Hp) (s : ByteArray) (w0 w : World) (hs : s.size ≤ 9223372036854775807) (hI : IsD g m h) (H : Holds w0 (h ++ F) w) :
    Calls Try.prog 12 #[.pointer (some ⟨g, 0, none⟩), .string s] w fun e w' => e = .returned (.int .i64 (syncM m s).1) ∧ ∃ h', IsD g (syncM m s).2 h' ∧ Holds w0 (h' ++ F) w' := by
  obtain ⟨mb, o, L, hf, hM, hfl, hF, rfl, hok⟩ := hI
  have HM := Lib.hid hM; have HF := Lib.hid hF; have HOK := Lib.hid hok; have HFL := Lib.hid hfl
  have HA := Lib.hid (apart_abs (L := L) (by rw [← hfl]; exact hok.apart))
  have HI := Lib.hid (show IsD g m _ from ⟨mb, o, L, hf, hM, hfl, hF, rfl, hok⟩)
  have HH := Lib.hid H
  have hfd := found s hfl
  clear hM hfl hF hok H
  unfold syncM
  rcases hfd with ⟨er, he0, hq, hq2⟩ | ⟨x, hfx, hq, hq2⟩
  · rw [hq2]
    have her : (er == 0) = false := by simpa using he0
    go_enter Try.func12, Try.ntmps12
    go_wp2_with fail
    refine (find_calls g m.room m.lives m.power mb o L s (hf ++ F) w0 w hs HM.out HH.out).mono ?_
    rintro e w' ⟨he, hb⟩
    rw [hq] at he
    simp only [ptrOf] at he
    subst he
    have HH2 := Lib.hid (HH.out.grow hb)
    clear hb hq hq2
    go_wp2_with fail
    go_ret
    exact ⟨rfl, _, HI.out, HH2.out⟩
  · rw [hq2]
    have HFX := Lib.hid hfx
    clear hfx
    go_enter Try.func12, Try.ntmps12
    go_wp2_with fail
    refine (find_calls g m.room m.lives m.power mb o L s (hf ++ F) w0 w hs HM.out HH.out).mono ?_
    rintro e w' ⟨he, hb⟩
    rw [hq] at he
    simp only [ptrOf] at he
    subst he
    have H2 := HH.out.grow hb
    obtain ⟨L1, L2, hL, hxs, _⟩ := find_split HFX.out
    have hF2 := HF.out
    rw [hL] at hF2
    obtain ⟨f1, fx, f2, k1, ⟨v, hrw, hrow, rfl⟩, k2, hfeq⟩ := FilesR.mid.mp hF2
    have H3 : Holds w0 ((x.2.1, flO v x.2.2) :: ((g, dskO m.room m.lives m.power mb) :: (mb, o) :: (f1 ++ (hrw ++ (f2 ++ F))))) w' := H2.perm (by rw [hfeq]; exact (by classical rw [List.perm_iff_count]; intro a; simp only [List.count_append, List.count_cons, List.count_nil]; omega))
    obtain ⟨A2, c2, hv2, _⟩ := RowB.form hrow
    subst hv2
    have d0 : w'.cell? ⟨x.2.1, 0, none⟩ = some (.slice A2 x.2.2.b.length c2) := Holds.cell (cs := flC _ x.2.2) H3 0
    have d1 : w'.cell? ⟨x.2.1, 1, none⟩ = some (.int .i64 x.2.2.safe) := Holds.cell (cs := flC _ x.2.2) H3 1
    have f1' : w'.frozen? ⟨x.2.1, 1, none⟩ = false := Holds.froz (cs := flC _ x.2.2) H3 1
    have HR := Lib.hid hrow; have H4 := Lib.hid H3; have HL := Lib.hid hL; have HXS := Lib.hid hxs; have K1 := Lib.hid k1; have K2 := Lib.hid k2
    clear hb hq hq2 H2 H3 hL hxs hF2 hfeq hrow k1 k2
    go_wp2_with fail
    go_ret
    have hfl2 := HFL.out
    rw [HL.out] at hfl2
    have hA2 := HA.out
    rw [HL.out] at hA2
    have hM2 := HM.out
    rw [HL.out] at hM2
    refine ⟨rfl, _, ⟨mb, o, L1 ++ (x.1, x.2.1, { x.2.2 with safe := x.2.2.b.length }) :: L2, f1 ++ (((x.2.1, flO (.slice A2 x.2.2.b.length c2) { x.2.2 with safe := x.2.2.b.length }) :: hrw) ++ f2), ?_, ?_, ?_, rfl, ?_⟩, ?_⟩
    · have e : Es (L1 ++ (x.1, x.2.1, { x.2.2 with safe := x.2.2.b.length }) :: L2) = Es (L1 ++ x :: L2) := by simp [Es]
      rw [e]
      exact hM2
    · show setM s _ m.fl = _
      rw [hfl2, ← HXS.out]
      exact set_abs hA2
    · exact FilesR.mid.mpr ⟨f1, _, f2, K1.out, ⟨_, hrw, HR.out, rfl⟩, K2.out, rfl⟩
    · have := ok_mid (f := { x.2.2 with safe := x.2.2.b.length }) HOK.out hfl2 (Nat.le_refl _) (by have := HOK.out.tot; simp only; omega)
      rw [← set_abs hA2, HXS.out, ← hfl2] at this
      exact this
    · have H6 : Holds w0 ((x.2.1, flO (.slice A2 x.2.2.b.length c2) { x.2.2 with safe := x.2.2.b.length }) :: ((g, dskO m.room m.lives m.power mb) :: (mb, o) :: (f1 ++ (hrw ++ (f2 ++ F))))) (w'.setCell ⟨x.2.1, 1, none⟩ (.int .i64 x.2.2.b.length)) := Holds.set (cs := flC _ x.2.2) H4.out 1 _
      refine H6.perm ?_
      exact (by classical rw [List.perm_iff_count]; intro a; simp only [List.count_append, List.count_cons, List.count_nil]; omega)
def readM (m : DM) (s : ByteArray) : List UInt8 × Int := match findM m s with
  | (e, some f) => (f.b, e)
  | (e, none) => ([], e)
set_option maxRecDepth 100000 in
set_option maxHeartbeats 2000000 in
theorem read_calls (g : Nat) (m : DM) (h F : Hp) (s : ByteArray) (w0 w : World) (hs : s.size ≤ 9223372036854775807) (hI : IsD g m h) (H : Holds w0 (h ++ F) w) :
    Calls Try.prog 15 #[.pointer (some ⟨g, 0, none⟩), .string s] w fun e w' => ∃ v, e = .returned (.tuple #[v, .int .i64 (readM m s).2]) ∧ ∃ hv, RowB 5 1 v (readM m s).1.length (bv (readM m s).1) hv ∧ ∃ h', IsD g m h' ∧ Holds w0 (h' ++ (hv ++ F)) w' := by
  obtain ⟨mb, o, L, hf, hM, hfl, hF, rfl, hok⟩ := hI
  have HM := Lib.hid hM; have HF := Lib.hid hF; have HOK := Lib.hid hok; have HFL := Lib.hid hfl
  have HI := Lib.hid (show IsD g m _ from ⟨mb, o, L, hf, hM, hfl, hF, rfl, hok⟩)
  have htm : tot L = totM m.fl := by rw [hfl]; exact tot_abs L
  have HT := Lib.hid (show tot L ≤ 1000000000 by have := hok.tot; have := hok.room; omega)
  have HH := Lib.hid H
  have hfd := found s hfl
  clear hM hfl hF hok H htm
  unfold readM
  rcases hfd with ⟨er, he0, hq, hq2⟩ | ⟨x, hfx, hq, hq2⟩
  · rw [hq2]
    have her : (er == 0) = false := by simpa using he0
    go_enter Try.func15, Try.ntmps15
    go_wp2_with fail
    refine (find_calls g m.room m.lives m.power mb o L s (hf ++ F) w0 w hs HM.out HH.out).mono ?_
    rintro e w' ⟨he, hb⟩
    rw [hq] at he
    simp only [ptrOf] at he
    subst he
    have HH2 := Lib.hid (HH.out.grow hb)
    clear hb hq hq2
    go_wp2_with fail
    exact bodyPost_ret (v := .tuple #[.slice none 0 0, .int .i64 er]) (by simp [results, Try.results15, go_sem]) rfl ⟨_, rfl, [], RowB.nil _ _, _, HI.out, HH2.out⟩
  · rw [hq2]
    have HFX := Lib.hid hfx
    clear hfx
    go_enter Try.func15, Try.ntmps15
    go_wp2_with fail
    refine (find_calls g m.room m.lives m.power mb o L s (hf ++ F) w0 w hs HM.out HH.out).mono ?_
    rintro e w' ⟨he, hb⟩
    rw [hq] at he
    simp only [ptrOf] at he
    subst he
    have H2 := HH.out.grow hb
    obtain ⟨L1, L2, hL, hxs, _⟩ := find_split HFX.out
    have hF2 := HF.out
    rw [hL] at hF2
    obtain ⟨f1, fx, f2, k1, ⟨v, hrw, hrow, rfl⟩, k2, hfeq⟩ := FilesR.mid.mp hF2
    have H3 : Holds w0 ((x.2.1, flO v x.2.2) :: ((g, dskO m.room m.lives m.power mb) :: (mb, o) :: (f1 ++ (hrw ++ (f2 ++ F))))) w' := H2.perm (by rw [hfeq]; exact (by classical rw [List.perm_iff_count]; intro a; simp only [List.count_append, List.count_cons, List.count_nil]; omega))
    have H3' : Holds w0 (hrw ++ ((x.2.1, flO v x.2.2) :: ((g, dskO m.room m.lives m.power mb) :: (mb, o) :: (f1 ++ (f2 ++ F))))) w' := H3.perm (by classical rw [List.perm_iff_count]; intro a; simp only [List.count_append, List.count_cons, List.count_nil]; omega)
    obtain ⟨A2, c2, hv2, _, hc2, hrd⟩ := RowB.reads hrow H3'
    subst hv2
    have d0 : w'.cell? ⟨x.2.1, 0, none⟩ = some (.slice A2 x.2.2.b.length c2) := Holds.cell (cs := flC _ x.2.2) H3 0
    have hlen : x.2.2.b.length ≤ 140737488355328 := by
      have := tot_mid L1 L2 x
      rw [← hL] at this
      have := HT.out
      omega
    have H4 := Lib.hid H2; have HRD := Lib.hid hrd
    clear hb hq hq2 H2 H3 H3' hL hxs hF2 hfeq hrow k1 k2 hrd
    go_wp2_with fail
    refine (clone_calls A2 c2 x.2.2.b w0 w' _ hc2 HRD.out hlen H4.out).mono ?_
    rintro e w3 ⟨v, rfl, hv, r1, r2⟩
    have R1 := Lib.hid r1; have R2 := Lib.hid r2
    clear r1 r2
    go_wp2_with fail
    exact bodyPost_ret (v := .tuple #[v, .int .i64 0]) (by simp [results, Try.results15, go_sem]) rfl ⟨_, rfl, hv, R1.out, _, HI.out, R2.out.perm (by classical rw [List.perm_iff_count]; intro a; simp only [List.count_append, List.count_cons, List.count_nil]; omega)⟩
end Go.Proofs.Ytocpelkgiebkjaa
