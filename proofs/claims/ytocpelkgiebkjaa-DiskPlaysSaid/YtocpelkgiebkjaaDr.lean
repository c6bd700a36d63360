/- A disk's Drop, Rename: contracts for every world. Conditions: each theorem's own. -/
import Derived.Test.YtocpelkgiebkjaaAw
namespace Go.Proofs.Ytocpelkgiebkjaa
open Go.RowKit Go.Proofs.Ytocpelkgiebkjaa.Sp
set_option linter.unusedVariables false
set_option linter.unusedSimpArgs false
def offM (s : ByteArray) (l : List (ByteArray × Fl)) : List (ByteArray × Fl) := l.filter fun x => !namedM s x
def dropM (m : DM) (s : ByteArray) : Int × DM := match findM m s with
  | (e, some _) => (e, { m with fl := offM s m.fl })
  | (e, none) => (e, m)
def putM (s : ByteArray) (f : Fl) (l : List (ByteArray × Fl)) : List (ByteArray × Fl) := insM (s, f) (offM s l)
def renM (m : DM) (a b : ByteArray) : Int × DM :=
  if m.power then (if goodN a && goodN b then (match m.fl.find? (namedM a) with | some x => (0, { m with fl := putM b x.2 (offM a m.fl) }) | none => (4, m)) else (1, m)) else (7, m)
theorem del_Es (s : ByteArray) (L : List Ent) : Go.ChangeMaps.delKey (.string s.data.toList) (Es L) = Es (L.filter fun x => !named s x) := by
  unfold Go.ChangeMaps.delKey Es
  rw [List.filter_map]
  congr 1
  refine List.filter_congr fun x hx => ?_
  by_cases h : x.1 = s
  · simp [Function.comp, Go.ChangeMaps.notKey, named, h, Lit.sameKey]
  · have : x.1.data.toList ≠ s.data.toList := fun q => h (data_inj q)
    have t2 : ¬ x.1.data = s.data := fun q => this (by rw [q])
    simp [Function.comp, Go.ChangeMaps.notKey, named, h, Lit.sameKey, t2]
theorem off_abs (s : ByteArray) (L : List Ent) : offM s (absL L) = absL (L.filter fun x => !named s x) := by
  unfold offM absL
  rw [List.filter_map]
  rfl
theorem FilesR.filter (p : Ent → Bool) : ∀ (L : List Ent) (h : Hp), FilesR L h → ∃ h', FilesR (L.filter p) h' ∧ h'.Sublist h
  | [], h, hF => ⟨h, hF, List.Sublist.refl _⟩
  | x :: L, h, hF => by
    obtain ⟨h1, h2, a, b, rfl⟩ := hF
    obtain ⟨h', c, d⟩ := FilesR.filter p L h2 b
    by_cases hp : p x
    · rw [List.filter_cons_of_pos hp]
      exact ⟨h1 ++ h', ⟨h1, h', a, c, rfl⟩, List.Sublist.append (List.Sublist.refl _) d⟩
    · rw [List.filter_cons_of_neg hp]
      exact ⟨h', c, d.trans (List.sublist_append_right _ _)⟩
theorem tot_off (s : ByteArray) : ∀ l : List (ByteArray × Fl), totM (offM s l) ≤ totM l
  | [] => Nat.le_refl _
  | x :: l => by
    have ih := tot_off s l
    unfold offM at ih ⊢
    rw [List.filter_cons]
    split <;> simp only [totM, List.map_cons, List.sum_cons] at ih ⊢ <;> omega
theorem tot_off_mem (s : ByteArray) : ∀ (l : List (ByteArray × Fl)) (x : ByteArray × Fl), l.find? (namedM s) = some x → x.2.b.length + totM (offM s l) ≤ totM l
  | [], x, h => by simp at h
  | y :: l, x, h => by
    rw [List.find?_cons] at h
    have e : totM (y :: l) = y.2.b.length + totM l := rfl
    by_cases hy : namedM s y = true
    · rw [hy] at h
      obtain rfl : y = x := by simpa using h
      have := tot_off s l
      have e2 : offM s (y :: l) = offM s l := by unfold offM; rw [List.filter_cons_of_neg (by simp [hy])]
      rw [e2, e]
      omega
    · have hy2 : namedM s y = false := by simpa using hy
      rw [hy2] at h
      have ih := tot_off_mem s l x h
      have e2 : offM s (y :: l) = y :: offM s l := by unfold offM; rw [List.filter_cons_of_pos (by simp [hy2])]
      have e3 : totM (y :: offM s l) = y.2.b.length + totM (offM s l) := rfl
      rw [e2, e3, e]
      omega
theorem off_none (s : ByteArray) (l : List (ByteArray × Fl)) : ∀ y ∈ offM s l, y.1 ≠ s := by
  intro y hy e
  have := (List.mem_filter.mp hy).2
  simp [namedM, e] at this
theorem ok_off {m : DM} (hok : m.ok) (s : ByteArray) : DM.ok { m with fl := offM s m.fl } :=
  ⟨hok.apart.sublist List.filter_sublist, fun x hx => hok.safe x (List.filter_sublist.subset hx), by have := tot_off s m.fl; have := hok.tot; show (totM (offM s m.fl) : Int) ≤ m.room; omega, hok.room, hok.room0, hok.lives⟩
set_option maxRecDepth 100000 in
set_option maxHeartbeats 2000000 in
theorem drop_calls (g : Nat) (m : DM) (h F : Hp) (s : ByteArray) (w0 w : World) (hs : s.size ≤ 9223372036854775807) (hI : IsD g m h) (H : Holds w0 (h ++ F) w) :
    Calls Try.prog 19 #[.pointer (some ⟨g, 0, none⟩), .string s] w fun e w' => e = .returned (.int .i64 (dropM m s).1) ∧ ∃ h', IsD g (dropM m s).2 h' ∧ Holds w0 (h' ++ F) w' := by
  obtain ⟨mb, o, L, hf, hM, hfl, hF, rfl, hok⟩ := hI
  have HM := Lib.hid hM; have HF := Lib.hid hF; have HOK := Lib.hid hok; have HFL := Lib.hid hfl
  have HI := Lib.hid (show IsD g m _ from ⟨mb, o, L, hf, hM, hfl, hF, rfl, hok⟩)
  have HH := Lib.hid H
  have hfd := found s hfl
  clear hM hfl hF hok H
  unfold dropM
  rcases hfd with ⟨er, he0, hq, hq2⟩ | ⟨x, hfx, hq, hq2⟩
  · rw [hq2]
    have her : (er == 0) = false := by simpa using he0
    go_enter Try.func19, Try.ntmps19
    go_wp2_with fail
    refine (find_calls g m.room m.lives m.power mb o L s (hf ++ F) w0 w hs HM.out HH.out).mono ?_
    rintro e w' ⟨he, hb⟩
    rw [hq] at he
    simp only [ptrOf] at he
    subst he
    have HH2 := Lib.hid (HH.out.grow hb)
    clear hb hq hq2
    go_wp2_with fail
    go_ret
    exact ⟨rfl, _, HI.out, HH2.out⟩
  · rw [hq2]
    have HFX := Lib.hid hfx
    clear hfx
    go_enter Try.func19, Try.ntmps19
    go_wp2_with fail
    refine (find_calls g m.room m.lives m.power mb o L s (hf ++ F) w0 w hs HM.out HH.out).mono ?_
    rintro e w' ⟨he, hb⟩
    rw [hq] at he
    simp only [ptrOf] at he
    subst he
    have H2 := HH.out.grow hb
    have c3 : w'.cell? ⟨g, 3, none⟩ = some (.map (some mb)) := Holds.cell H2 3
    obtain ⟨w4, o4, hrun, ho4, hM4, hg4⟩ := mp_del (H2.tail.get) HM.out law9 Try.underlying53 (Go.WideMaps.keyOf_string_mk (s := s) Try.underlying9 hs) 0
    rw [del_Es] at hM4
    obtain ⟨hf4, hF4, hsub⟩ := FilesR.filter (fun x => !named s x) L hf HF.out
    have H4 : Holds w0 ((g, dskO m.room m.lives m.power mb) :: (mb, o4) :: (hf4 ++ F)) w4 :=
      (((H2.perm (k := (mb, o) :: ((g, dskO m.room m.lives m.power mb) :: (hf ++ F))) (List.Perm.swap _ _ _)).turn hg4 ho4).perm (List.Perm.swap _ _ _)).sub (((hsub.append (List.Sublist.refl F)).cons_cons _).cons_cons _)
    have HH4 := Lib.hid H4; have HM4 := Lib.hid hM4; have HF4 := Lib.hid hF4
    clear hb hq hq2 H2 H4 hM4 hF4 hsub hg4 ho4
    go_wp2_with fail
    go_ret
    exact ⟨rfl, _, ⟨mb, o4, _, hf4, HM4.out, by show offM s m.fl = _; rw [HFL.out, off_abs], HF4.out, rfl, ok_off HOK.out s⟩, HH4.out⟩
theorem ok_put {m : DM} (hok : m.ok) (l : List (ByteArray × Fl)) (hl : l.Sublist m.fl) (b : ByteArray) (f : Fl) (hb : ∀ y ∈ l, y.1 ≠ b) (hs : f.safe ≤ f.b.length) (ht : f.b.length + totM l ≤ totM m.fl) : DM.ok { m with fl := insM (b, f) l } := by
  have hp := ins_permM (b, f) l
  refine ⟨?_, fun x hx => ?_, ?_, hok.room, hok.room0, hok.lives⟩
  · refine (hp.pairwise_iff (fun {x y} h => h.symm)).mpr (List.pairwise_cons.mpr ⟨fun y hy => (hb y hy).symm, hok.apart.sublist hl⟩)
  · rcases List.mem_cons.mp (hp.mem_iff.mp hx) with rfl | h
    · exact hs
    · exact hok.safe x (hl.subset h)
  · have e : totM (insM (b, f) l) = f.b.length + totM l := ((hp.map _).sum_nat).trans (by simp [totM])
    have := hok.tot
    show (totM (insM (b, f) l) : Int) ≤ m.room
    omega
theorem FilesR.app : ∀ {L1 L2 : List Ent} {h1 h2 : Hp}, FilesR L1 h1 → FilesR L2 h2 → FilesR (L1 ++ L2) (h1 ++ h2)
  | [], L2, h1, h2, a, b => by
    obtain rfl : h1 = [] := a
    exact b
  | x :: L1, L2, h1, h2, a, b => by
    obtain ⟨g1, g2, c, d, rfl⟩ := a
    exact ⟨g1, g2 ++ h2, c, FilesR.app d b, by simp⟩
theorem find_off (s : ByteArray) (L : List Ent) : (L.filter fun x => !named s x).find? (named s) = none := by
  rw [List.find?_eq_none]
  intro x hx
  have := (List.mem_filter.mp hx).2
  simpa using this
theorem put_any (s : ByteArray) (c : Nat) (f : Fl) (L : List Ent) : Go.ChangeMaps.putKey (.string s.data.toList) (.lit (.int .i64 c)) (Es L) = Es (insE (s, c, f) (L.filter fun x => !named s x)) := by
  rw [← put_new s c f _ (find_off s L), ← del_Es]
  unfold Go.ChangeMaps.putKey Go.ChangeMaps.delKey
  rw [List.filter_filter]
  simp
set_option maxRecDepth 100000 in
set_option maxHeartbeats 4000000 in
theorem rename_calls (g : Nat) (m : DM) (h F : Hp) (a b : ByteArray) (w0 w : World) (ha : a.size ≤ 9223372036854775807) (hb : b.size ≤ 9223372036854775807) (hcnt : m.fl.length < 1000000000) (hI : IsD g m h) (H : Holds w0 (h ++ F) w) :
    Calls Try.prog 16 #[.pointer (some ⟨g, 0, none⟩), .string a, .string b] w fun e w' => e = .returned (.int .i64 (renM m a b).1) ∧ ∃ h', IsD g (renM m a b).2 h' ∧ Holds w0 (h' ++ F) w' := by
  obtain ⟨mb, o, L, hf, hM, hfl, hF, rfl, hok⟩ := hI
  have HM := Lib.hid hM; have HF := Lib.hid hF; have HOK := Lib.hid hok; have HFL := Lib.hid hfl
  have HI := Lib.hid (show IsD g m _ from ⟨mb, o, L, hf, hM, hfl, hF, rfl, hok⟩)
  have H1 := H.alloc (.cells #[.string a, .string b] 9)
  have HRD := Lib.hid (show Reads (w.alloc (.cells #[.string a, .string b] 9)) (some ⟨w.heap.size, 0, none⟩) [a, b].length 1 ([a, b].map Value.string) from lit_reads rfl 2 rfl _ H1)
  have HH1 := Lib.hid (show Holds w0 ((g, dskO m.room m.lives m.power mb) :: (mb, o) :: (hf ++ F)) _ from H1.tail)
  have HG3 := Lib.hid (show (w.alloc (.cells #[.string a, .string b] 9)).heap[g]? = some (dskO m.room m.lives m.power mb) from HH1.out.get)
  clear hM hfl hF hok H H1
  have hsz : ∀ s ∈ [a, b], s.size ≤ 9223372036854775807 := by simp [ha, hb]
  have HSZ := Lib.hid hsz
  clear hsz
  cases hp : m.power
  · rw [hp] at HG3
    have q : renM m a b = (7, m) := by simp [renM, hp]
    rw [q]
    clear q
    go_enter Try.func16, Try.ntmps16
    go_wp2_with fail
    refine (may_calls g m.room m.lives false mb [a, b] (some ⟨w.heap.size, 0, none⟩) 2 _ HG3.out HRD.out (by simp) HSZ.out (by simp)).mono ?_
    rintro e w' ⟨he, rfl⟩
    rw [show mayE false [a, b] = 7 from rfl] at he
    subst he
    go_wp2_with fail
    go_ret
    exact ⟨rfl, _, HI.out, HH1.out⟩
  rw [hp] at HG3
  cases hgd : (goodN a && goodN b)
  · have hq : mayE true [a, b] = 1 := by simp only [mayE, List.all_cons, List.all_nil, Bool.and_true, hgd]; rfl
    have q : renM m a b = (1, m) := by simp only [renM, hp, hgd]; rfl
    rw [q]
    clear q
    go_enter Try.func16, Try.ntmps16
    go_wp2_with fail
    refine (may_calls g m.room m.lives true mb [a, b] (some ⟨w.heap.size, 0, none⟩) 2 _ HG3.out HRD.out (by simp) HSZ.out (by simp)).mono ?_
    rintro e w' ⟨he, rfl⟩
    rw [hq] at he
    subst he
    go_wp2_with fail
    go_ret
    exact ⟨rfl, _, HI.out, HH1.out⟩
  have hq : mayE true [a, b] = 0 := by simp only [mayE, List.all_cons, List.all_nil, Bool.and_true, hgd]; rfl
  have hgd0 := hgd
  rw [Bool.and_eq_true] at hgd
  have hza := size_of_good hgd.1
  have hzb := size_of_good hgd.2
  have hmx : maxLen = 9223372036854775807 := rfl
  have hlk := look (L := L) a (by omega) HH1.out.tail.get HM.out
  have c3 : (w.alloc (.cells #[.string a, .string b] 9)).cell? ⟨g, 3, none⟩ = some (.map (some mb)) := Holds.cell HH1.out 3
  have hfm : m.fl.find? (namedM a) = (L.find? (named a)).map fun x => (x.1, x.2.2) := by rw [HFL.out, find_abs]
  cases hfd : L.find? (named a) with
  | none =>
    rw [hfd] at hlk hfm
    have q : renM m a b = (4, m) := by simp only [renM, hp, hgd0, hfm]; rfl
    rw [q]
    simp only [Option.map_none, ptrOf] at hlk
    have HQ := Lib.hid hq
    clear hq hgd hgd0 hza hzb hmx hfd hfm q
    go_enter Try.func16, Try.ntmps16
    go_wp2_with fail
    refine (may_calls g m.room m.lives true mb [a, b] (some ⟨w.heap.size, 0, none⟩) 2 _ HG3.out HRD.out (by simp) HSZ.out (by simp)).mono ?_
    rintro e w' ⟨he, rfl⟩
    rw [HQ.out] at he
    subst he
    go_wp2_with fail
    go_ret
    exact ⟨rfl, _, HI.out, HH1.out⟩
  | some x =>
    rw [hfd] at hlk hfm
    have q : renM m a b = (0, { m with fl := putM b x.2.2 (offM a m.fl) }) := by simp only [renM, hp, hgd0, hfm]; rfl
    rw [q]
    simp only [Option.map_some, ptrOf] at hlk
    have HQ := Lib.hid hq
    obtain ⟨L1, L2, hL, hxs, _⟩ := find_split hfd
    have hF2 := HF.out
    rw [hL] at hF2
    obtain ⟨f1, fx, f2, k1, kx, k2, hfeq⟩ := FilesR.mid.mp hF2
    have kx' := kx
    have hsafe : x.2.2.safe ≤ x.2.2.b.length := HOK.out.safe (x.1, x.2.2) (by rw [HFL.out, hL]; simp [absL])
    obtain ⟨w4, o4, hrun, ho4, hM4, hg4⟩ := mp_del (HH1.out.tail.get) HM.out law9 Try.underlying53 (Go.WideMaps.keyOf_string_mk (s := a) Try.underlying9 (by omega)) 0
    rw [del_Es] at hM4
    have H4 : Holds w0 ((mb, o4) :: ((g, dskO m.room m.lives m.power mb) :: (hf ++ F))) w4 := (HH1.out.perm (k := (mb, o) :: ((g, dskO m.room m.lives m.power mb) :: (hf ++ F))) (List.Perm.swap _ _ _)).turn hg4 ho4
    have c4 : w4.cell? ⟨g, 3, none⟩ = some (.map (some mb)) := Holds.cell H4.tail 3
    have hlen : (Es (L.filter fun x => !named a x)).length < maxLen := by
      have h1 : (L.filter fun x => !named a x).length ≤ L.length := List.length_filter_le _ _
      have h2 := hcnt
      rw [HFL.out] at h2
      simp only [absL, List.length_map] at h2
      simp only [Es, List.length_map]
      omega
    obtain ⟨w5, o5, hrun5, ho5, hM5, hg5⟩ := mp_put (H4.get) hM4 law9 Try.underlying53 hlen (Go.WideMaps.keyOf_string_mk (s := b) Try.underlying9 (by omega)) (val := .pointer (some ⟨x.2.1, 0, none⟩)) (d := .lit (.int .i64 x.2.1)) (ps := []) rfl
    rw [put_any b x.2.1 x.2.2] at hM5
    have H5 : Holds w0 ((mb, o5) :: ((g, dskO m.room m.lives m.power mb) :: (hf ++ F))) w5 := H4.turn hg5 ho5
    have hflt : (L.filter fun x => !named a x) = (L1 ++ L2).filter fun x => !named a x := by
      rw [hL, List.filter_append, List.filter_append, List.filter_cons_of_neg (by simp [named, hxs])]
    obtain ⟨h6, hF6, hs6⟩ := FilesR.filter (fun x => !named a x) (L1 ++ L2) (f1 ++ f2) (FilesR.app k1 k2)
    rw [← hflt] at hF6
    obtain ⟨h7, hF7, hs7⟩ := FilesR.filter (fun x => !named b x) _ h6 hF6
    obtain ⟨h8, hF8, hp8⟩ := ins_files (x := (b, x.2.1, x.2.2)) kx' _ _ hF7
    have H8 : Holds w0 ((g, dskO m.room m.lives m.power mb) :: (mb, o5) :: (h8 ++ F)) w5 := by
      have e1 : Holds w0 ((g, dskO m.room m.lives m.power mb) :: (mb, o5) :: (fx ++ ((f1 ++ f2) ++ F))) w5 := H5.perm (by rw [hfeq]; exact (by classical rw [List.perm_iff_count]; intro a; simp only [List.count_append, List.count_cons, List.count_nil]; omega))
      have e2 : Holds w0 ((g, dskO m.room m.lives m.power mb) :: (mb, o5) :: (fx ++ (h7 ++ F))) w5 := e1.sub (((List.Sublist.append (List.Sublist.refl fx) ((hs7.trans hs6).append (List.Sublist.refl F))).cons_cons _).cons_cons _)
      refine e2.perm (((List.Perm.trans ?_ (List.Perm.symm (hp8.append_right F))).cons _).cons _)
      rw [List.append_assoc]
    have HH8 := Lib.hid H8; have HM5 := Lib.hid hM5; have HF8 := Lib.hid hF8; have HSF := Lib.hid hsafe; have HFM := Lib.hid hfm
    have hnew : putM b x.2.2 (offM a m.fl) = absL (insE (b, x.2.1, x.2.2) ((L.filter fun x => !named a x).filter fun x => !named b x)) := by
      unfold putM
      rw [HFL.out, off_abs, off_abs]
      exact ins_abs (b, x.2.1, x.2.2) _
    have HNEW := Lib.hid hnew
    have hrun' : (Builtin.delete_ #[53, 9] 0 #[.map (some mb), .string a]).run Try.prog (w.alloc (.cells #[.string a, .string b] 9)) = .ok (.tuple #[]) w4 := hrun
    clear hq hgd hgd0 q hza hzb hmx hfd hfm hL hxs hF2 hfeq k1 kx kx' k2 hsafe hM4 H4 hlen hM5 H5 hflt hF6 hs6 hF7 hs7 hF8 hp8 H8 hnew hrun hg4 ho4 hg5 ho5
    go_enter Try.func16, Try.ntmps16
    go_wp2_with fail
    refine (may_calls g m.room m.lives true mb [a, b] (some ⟨w.heap.size, 0, none⟩) 2 _ HG3.out HRD.out (by simp) HSZ.out (by simp)).mono ?_
    rintro e w' ⟨he, rfl⟩
    rw [HQ.out] at he
    subst he
    go_wp2_with fail
    go_ret
    refine ⟨rfl, _, ⟨mb, o5, _, h8, HM5.out, HNEW.out, HF8.out, rfl, ok_put HOK.out (offM b (offM a m.fl)) (List.filter_sublist.trans List.filter_sublist) b x.2.2 (off_none b _) HSF.out ?_⟩, HH8.out⟩
    have h1 := tot_off_mem a m.fl _ HFM.out
    have h2 := tot_off b (offM a m.fl)
    simp only at h1
    omega
end Go.Proofs.Ytocpelkgiebkjaa
