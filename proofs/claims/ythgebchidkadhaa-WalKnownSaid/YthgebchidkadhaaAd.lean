/- A log's Add: a contract for every world. Conditions: the theorem's own. -/
import Derived.Test.YthgebchidkadhaaLc
import Derived.Test.YthgebchidkadhaaBr
import Derived.Test.YthgebchidkadhaaOb
import Derived.Test.YthgebchidkadhaaFp
namespace Go.Proofs.Ythgebchidkadhaa
open Go.RowKit Go.Proofs.Ythgebchidkadhaa.Sp Go.Proofs.Ythgebchidkadhaa.QWal Go.Proofs.YthgebchidkadhaaW.PrintWords
set_option linter.unusedVariables false
set_option linter.unusedSimpArgs false
theorem wpA {P : Program} {o : Oper} {a : Act} {w w' : World} {K : Act → World → Prop} {Q : Exit → Act → World → Prop} (s x : Operand) {t u : TypeId} {v v1 v' : Value}
    (ho : o.op = .call { callee := .builtin .append, args := #[s, x], argTypes := #[t, u] }) (hs : a.eval s = v) (hx : a.eval x = v1) (hrun : (Builtin.append_ #[t, u] o.type #[v, v1]).run P w = .ok v' w') (hK : K (a.put o.dst v') w') : o.wp P a w K Q := by
  unfold Oper.wp execOp
  simp only [ho, resolve, invoke, builtin, Sem.run_bind, Sem.run_pure, Result.andThen_ok, List.map_toArray, List.map_cons, List.map_nil, hs, hx, hrun]
  exact hK
/-- A record in its frame, all records in theirs: as bytes. -/
def frB (r : List UInt8) : List UInt8 := (Pl.fr (bi r)).map fun x => UInt8.ofNat x.toNat
def frsB (l : List (List UInt8)) : List UInt8 := (l.map frB).flatten
theorem fr_range (r : List UInt8) : ∀ x ∈ Pl.fr (bi r), 0 ≤ x ∧ x < 256 := by
  have hw : ∀ v : Int, ∀ x ∈ Pl.W4 v, 0 ≤ x ∧ x < 256 := by
    intro v x hx
    simp only [Pl.W4, List.mem_cons, List.not_mem_nil, or_false] at hx
    omega
  intro x hx
  simp only [Pl.fr, Pl.hd, List.mem_append] at hx
  rcases hx with ((hx | hx) | hx) | hx
  · exact hw _ x hx
  · exact hw _ x hx
  · exact hw _ x hx
  · obtain ⟨y, _, rfl⟩ := List.mem_map.mp hx
    have := y.toNat_lt
    constructor
    · omega
    · have : y.toNat < 256 := this
      omega
theorem bi_frB (r : List UInt8) : bi (frB r) = Pl.fr (bi r) := by
  unfold bi frB
  rw [List.map_map]
  conv => rhs; rw [← List.map_id (Pl.fr (List.map (fun x => (x.toNat : Int)) r))]
  refine List.map_congr_left fun x hx => ?_
  have := fr_range r x hx
  simp only [Function.comp_apply, id, UInt8.toNat_ofNat']
  omega
theorem bi_app (a b : List UInt8) : bi (a ++ b) = bi a ++ bi b := by simp [bi]
theorem frB_len (r : List UInt8) : (frB r).length = 12 + r.length := by
  have := congrArg List.length (bi_frB r)
  rw [bi_len, Pl.fr_len, bi_len] at this
  exact this
theorem frsB_snoc (l : List (List UInt8)) (r : List UInt8) : frsB (l ++ [r]) = frsB l ++ frB r := by simp [frsB]
theorem bi_frs (l : List (List UInt8)) : bi (frsB l) = Pl.frs (l.map bi) := by
  induction l with
  | nil => rfl
  | cons r l ih =>
    show bi (frB r ++ frsB l) = Pl.fr (bi r) ++ Pl.frs (l.map bi)
    rw [bi_app, bi_frB, ih]
theorem frsB_len (l : List (List UInt8)) (n : Nat) (h : ∀ r ∈ l, r.length ≤ n) : (frsB l).length ≤ l.length * (12 + n) := by
  induction l with
  | nil => simp [frsB]
  | cons r l ih =>
    have h1 := ih fun x hx => h x (List.mem_cons_of_mem _ hx)
    have h2 := h r List.mem_cons_self
    have e : (frsB (r :: l)).length = (frB r).length + (frsB l).length := by simp [frsB]
    rw [e, frB_len, List.length_cons, Nat.add_mul]
    omega
/-- What the log's calls answer, what they make of disk and log. -/
def lMade (gl gd : Nat) (res : Int × DM × LM) (F : Hp) (w0 : World) (e : Ending) (w' : World) : Prop := e = .returned (.int .i64 res.1) ∧ ∃ h', IsL gl gd res.2.2 h' ∧ ∃ hd', IsD gd res.2.1 hd' ∧ Holds w0 (h' ++ (hd' ++ F)) w'
theorem lMade.mk {gl gd : Nat} {res : Int × DM × LM} {F : Hp} {w0 : World} {e : Ending} {w' : World} {x : Int} {d : DM} {m : LM} {h hd : Hp} (hr : res = (x, d, m)) (he : e = .returned (.int .i64 x)) (hI : IsL gl gd m h) (hD : IsD gd d hd) (H : Holds w0 (h ++ (hd ++ F)) w') : lMade gl gd res F w0 e w' := by
  subst hr
  exact ⟨he, h, hI, hd, hD, H⟩
def addM (d : DM) (m : LM) (rs : List (List UInt8)) : Int × DM × LM :=
  if offM d m = true then (7, d, { m with done := true }) else if rs.any (fun r => decide (8000 < r.length)) = true then (2, d, m) else
  if (appM d m.name (frsB rs)).1 = 0 then (0, (appM d m.name (frsB rs)).2, { m with recs := m.recs ++ rs }) else ((appM d m.name (frsB rs)).1, (appM d m.name (frsB rs)).2, { m with done := true })
def syncL (d : DM) (m : LM) : Int × DM × LM :=
  if offM d m = true then (7, d, { m with done := true }) else
  if (syncM d m.name).1 = 4 ∨ (syncM d m.name).1 = 0 then (0, (syncM d m.name).2, { m with safe := m.recs.length }) else ((syncM d m.name).1, (syncM d m.name).2, { m with done := true })
def clearL (d : DM) (m : LM) : Int × DM × LM :=
  if offM d m = true then (7, d, { m with done := true }) else
  if (cutM d m.name 0).1 = 4 ∨ (cutM d m.name 0).1 = 0 then (0, (cutM d m.name 0).2, { m with recs := [], safe := 0 }) else ((cutM d m.name 0).1, (cutM d m.name 0).2, { m with done := true })
set_option maxRecDepth 100000 in
theorem lsync_calls (gl gd : Nat) (d : DM) (m : LM) (h hd F : Hp) (w0 w : World) (hs0 : m.name.size ≤ 9223372036854775807) (hI : IsL gl gd m h) (hD : IsD gd d hd) (H : Holds w0 (h ++ (hd ++ F)) w) : Calls Try.prog 13 #[.pointer (some ⟨gl, 0, none⟩)] w fun e w' => lMade gl gd (syncL d m) F w0 e w' := by
  by_cases hof : offM d m = true
  · skip
    have HO := Lib.hid (off_calls gl gd d m h hd F w0 w hI hD H)
    rw [hof] at HO
    have HD := Lib.hid hD
    have HR := Lib.hid (show syncL d m = (7, d, { m with done := true }) from if_pos hof)
    clear hI hD H hof
    go_enter Try.func13, Try.ntmps13
    go_wp2_with fail
    refine HO.out.mono ?_
    rintro e w1 ⟨rfl, h', hI, hH⟩
    have HI := Lib.hid hI; have HH := Lib.hid hH
    clear hI hH
    go_wp2_with fail
    go_ret
    exact lMade.mk HR.out rfl HI.out HD.out HH.out
  · refine (sync_reg gl gd d m h hd F w0 w hs0 hI hD (by simpa using hof) H).mono ?_
    intro e w' hp
    unfold SyPost at hp
    unfold syncL
    split at hp
    · rename_i hq
      obtain ⟨he, h', hI', hd', hD', HH⟩ := hp
      exact lMade.mk (by rw [if_neg hof, if_pos hq]) he hI' hD' HH
    · rename_i hq
      obtain ⟨he, h', hI', hd', hD', HH⟩ := hp
      exact lMade.mk (by rw [if_neg hof, if_neg hq]) he hI' hD' HH
set_option maxRecDepth 100000 in
theorem lclear_calls (gl gd : Nat) (d : DM) (m : LM) (h hd F : Hp) (w0 w : World) (hs0 : m.name.size ≤ 9223372036854775807) (hI : IsL gl gd m h) (hD : IsD gd d hd) (H : Holds w0 (h ++ (hd ++ F)) w) : Calls Try.prog 21 #[.pointer (some ⟨gl, 0, none⟩)] w fun e w' => lMade gl gd (clearL d m) F w0 e w' := by
  by_cases hof : offM d m = true
  · skip
    have HO := Lib.hid (off_calls gl gd d m h hd F w0 w hI hD H)
    rw [hof] at HO
    have HD := Lib.hid hD
    have HR := Lib.hid (show clearL d m = (7, d, { m with done := true }) from if_pos hof)
    clear hI hD H hof
    go_enter Try.func21, Try.ntmps21
    go_wp2_with fail
    refine HO.out.mono ?_
    rintro e w1 ⟨rfl, h', hI, hH⟩
    have HI := Lib.hid hI; have HH := Lib.hid hH
    clear hI hH
    go_wp2_with fail
    go_ret
    exact lMade.mk HR.out rfl HI.out HD.out HH.out
  · refine (clear_reg gl gd d m h hd F w0 w hs0 hI hD (by simpa using hof) H).mono ?_
    intro e w' hp
    unfold ClPost at hp
    unfold clearL
    split at hp
    · rename_i hq
      obtain ⟨he, h', hI', hd', hD', HH⟩ := hp
      exact lMade.mk (by rw [if_neg hof, if_pos hq]) he hI' hD' HH
    · rename_i hq
      obtain ⟨he, h', hI', hd', hD', HH⟩ := hp
      exact lMade.mk (by rw [if_neg hof, if_neg hq]) he hI' hD' HH
theorem RowsB.snoc : ∀ {recs : List (List UInt8)} {vs : List Value} {hs : Hp} {r : List UInt8} {v : Value} {hv : Hp}, RowsB recs vs hs → RowB 5 1 v r.length (bv r) hv → RowsB (recs ++ [r]) (vs ++ [v]) (hs ++ hv)
  | [], vs, hs, r, v, hv, h, R => by
    obtain ⟨rfl, rfl⟩ := h
    exact ⟨v, [], hv, [], R, ⟨rfl, rfl⟩, rfl, by simp⟩
  | x :: recs, vs, hs, r, v, hv, h, R => by
    obtain ⟨u, vs', h1, h2, R1, RS, rfl, rfl⟩ := h
    exact ⟨u, vs' ++ [v], h1, h2 ++ hv, R1, RowsB.snoc RS R, rfl, by simp⟩
theorem info31i : ∃ i z, Try.prog.info? 31 = some i ∧ i.zero = some z ∧ i.size = 1 ∧ i.bytes = 24 ∧ z.cells.size = 1 := by
  have h : (Try.prog.info? 31).any (fun i => (match i.zero with | some z => z.cells.size == 1 | _ => false) && i.size == 1 && i.bytes == 24) = true := by kernel_rfl
  cases hu : Try.prog.info? 31 with
  | none => rw [hu] at h; cases h
  | some i =>
    rw [hu] at h
    simp only [Option.any_some, Bool.and_eq_true, beq_iff_eq] at h
    obtain ⟨⟨h1, h2⟩, h3⟩ := h
    cases hz : i.zero with
    | none => rw [hz] at h1; cases h1
    | some z =>
      rw [hz] at h1
      exact ⟨i, z, rfl, hz, h2, h3, by simpa using h1⟩
/-- append, of one row that lies in a block of its own. -/
theorem rec_append {w0 w : World} {h F : Hp} {v : Value} {n : Nat} {xs : List Value} (R : RowB 31 1 v n xs h) (H : Holds w0 (h ++ F) w) (ty : TypeId) (b : Nat) (u : Value) (hu : u.oneCell' = true) (hb : w.heap[b]? = some (.cells #[u] 31 (0, 0))) (hn : n ≤ 1000000) :
    ∃ v' h' w', (Builtin.append_ #[22, 22] ty #[v, .slice (some ⟨b, 0, none⟩) 1 1]).run Try.prog w = .ok v' w' ∧ RowB 31 1 v' (n + 1) (xs ++ [u]) h' ∧ Holds w0 (h' ++ F) w' := by
  obtain ⟨i, z, hi, hz, h1, h2, h3⟩ := info31i
  have hmx : maxLen = 9223372036854775807 := rfl
  refine row_append (t := 22) R H ty i z 24 Try.underlying22 hi hz h1 h2 h3 (by decide) (some ⟨b, 0, none⟩) 1 1 (fun h => by cases h) [u] ⟨rfl, (fun h => by cases h), ?_⟩ ?_ (by omega) (by omega)
  · intro ad had j x hj
    injection had with had
    subst had
    have e : (⟨b, 0, none⟩ : Addr).add j = ⟨b, j, none⟩ := by simp [Addr.add]; omega
    rw [e]
    simp only [World.cell?, hb]
    rw [← Array.getElem?_toList]
    exact hj
  · intro x hx
    obtain rfl := List.mem_singleton.mp hx
    exact hu
theorem IsL.at0 {gl gd : Nat} {m : LM} {h F : Hp} {w0 w : World} (hI : IsL gl gd m h) (H : Holds w0 (h ++ F) w) : w.cell? ⟨gl, 0, none⟩ = some (.pointer (some ⟨gd, 0, none⟩)) := by
  obtain ⟨A, c, vs, hr, hs, R, RS, rfl⟩ := hI
  exact H.cell 0
theorem IsL.at1 {gl gd : Nat} {m : LM} {h F : Hp} {w0 w : World} (hI : IsL gl gd m h) (H : Holds w0 (h ++ F) w) : w.cell? ⟨gl, 1, none⟩ = some (.string m.name) := by
  obtain ⟨A, c, vs, hr, hs, R, RS, rfl⟩ := hI
  exact H.cell 1
theorem noteM_name (m : LM) (e : Int) : (noteM m e).name = m.name := by unfold noteM; split <;> rfl
def AdL (gl gd : Nat) (m m2 : LM) (d d2 : DM) (F : Hp) (Ls : Nat → Bool) (hs : Hp) : Prop := ∃ hl hd, IsL gl gd (if Ls 11 = true then m2 else m) hl ∧ IsD gd (if Ls 10 = true then d2 else d) hd ∧ hs = hl ++ (hd ++ F)
theorem AdL.mk {gl gd : Nat} {m m2 : LM} {d d2 : DM} {F hl hd : Hp} {Ls : Nat → Bool} (h : IsL gl gd (if Ls 11 = true then m2 else m) hl) (h2 : IsD gd (if Ls 10 = true then d2 else d) hd) : AdL gl gd m m2 d d2 F Ls (hl ++ (hd ++ F)) := ⟨hl, hd, h, h2, rfl⟩
/-- The first loop. -/
def AdR (w0 : World) (rs : List (List UInt8)) (G : Hp) (b i : Value) (wr : World) : Prop := ∃ (k : Nat) (Ab : Option Addr) (cb : Nat) (hb : Hp), k ≤ rs.length ∧ i = .int .i64 k ∧ b = .slice Ab (frsB (rs.take k)).length cb ∧ RowB 5 1 b (frsB (rs.take k)).length (bv (frsB (rs.take k))) hb ∧ (∀ r ∈ rs.take k, r.length ≤ 8000) ∧ Holds w0 (hb ++ G) wr
/-- The second. -/
def AdS (w0 : World) (gl gd : Nat) (m : LM) (rs : List (List UInt8)) (G : Hp) (i : Value) (wr : World) : Prop := ∃ (k : Nat) (hl : Hp), k ≤ rs.length ∧ i = .int .i64 k ∧ IsL gl gd { m with recs := m.recs ++ rs.take k } hl ∧ Holds w0 (hl ++ G) wr
def BldR (r : List UInt8) (v : Value) (h : Hp) : Prop := ∃ u b hu, v = .slice (some ⟨b, 0, none⟩) 1 1 ∧ RowB 5 1 u r.length (bv r) hu ∧ h = (b, .cells #[u] 31 (0, 0)) :: hu
/-- The row that an append takes. -/
def AdA (x : Nat × Obj) (hr rest : Hp) (i : Nat) (Ls : Nat → Bool) (hs : Hp) : Prop := hs = x :: ((if Ls i = true then [] else hr) ++ rest)
theorem AdA.split {x : Nat × Obj} {hr rest : Hp} {i : Nat} {Ls : Nat → Bool} {hs : Hp} (h : AdA x hr rest i Ls hs) : ∃ q, hs = x :: (q ++ rest) ∧ (Ls i = false → q = hr) ∧ (Ls i = true → q = []) := ⟨_, h, fun e => by rw [e]; rfl, fun e => by rw [e]; rfl⟩
theorem take_snoc {α : Type} (l : List α) (k : Nat) (r : α) (h : l[k]? = some r) : l.take (k + 1) = l.take k ++ [r] := by rw [List.take_add_one, h]; rfl
set_option maxRecDepth 100000 in
set_option maxHeartbeats 8000000 in
theorem add_calls (gl gd : Nat) (d : DM) (m : LM) (rs : List (List UInt8)) (A : Option Addr) (ca : Nat) (h hd F : Hp) (w0 w : World) (hs0 : m.name.size ≤ 9223372036854775807) (hrl : rs.length ≤ 1000) (hrb : ∀ r ∈ rs, r.length ≤ 100000) (hml : m.recs.length ≤ 100000) (hcnt : d.fl.length < 1000000000)
    (hA : ∃ Vf : Nat → Option Addr × Nat, ∀ w', Holds w0 F w' → ∀ j r, rs[j]? = some r → ∃ ad, A = some ad ∧ w'.cell? (ad.add j) = some (.slice (Vf j).1 r.length (Vf j).2) ∧ InB w' (Vf j).1 (Vf j).2 r)
    (hI : IsL gl gd m h) (hD : IsD gd d hd) (H : Holds w0 (h ++ (hd ++ F)) w) : Calls Try.prog 12 #[.pointer (some ⟨gl, 0, none⟩), .slice A rs.length ca] w fun e w' => lMade gl gd (addM d m rs) F w0 e w' := by
  by_cases hof : offM d m = true
  · skip
    have HO := Lib.hid (off_calls gl gd d m h hd F w0 w hI hD H)
    rw [hof] at HO
    have HD := Lib.hid hD
    have HR := Lib.hid (show addM d m rs = (7, d, { m with done := true }) from if_pos hof)
    clear hI hD H hof
    go_enter Try.func12, Try.ntmps12
    go_wp2_with fail
    refine HO.out.mono ?_
    rintro e w1 ⟨rfl, h', hI, hH⟩
    have HI := Lib.hid hI; have HH := Lib.hid hH
    clear hI hH
    go_wp2_with fail
    go_ret
    exact lMade.mk HR.out rfl HI.out HD.out HH.out
  · have HOFF := Lib.hid hof
    have hm : ({ m with done := offM d m } : LM) = m := by
      rw [show offM d m = false by simpa using hof]
      have : m.done = false := by
        unfold offM at hof
        cases hdn : m.done
        · rfl
        · rw [hdn] at hof; simp at hof
      cases m
      simp_all
    have ho := off_calls gl gd d m h hd F w0 w hI hD H
    rw [hm, show offM d m = false by simpa using hof] at ho
    have HO := Lib.hid ho
    have HD := Lib.hid hD
    obtain ⟨Vf, hA⟩ := hA
    have HA := Lib.hid hA
    clear ho hm hI hD H hof hA
    go_enter Try.func12, Try.ntmps12
    go_wp2_with fail
    refine HO.out.mono ?_
    rintro e w1 ⟨rfl, hl, hI, hH⟩
    have HI := Lib.hid hI; have HH := Lib.hid hH
    clear hH hI
    go_wp2_with fail
    go_loopw [5, 17] (fun b i wr => AdR w0 rs (hl ++ (hd ++ F)) b i wr) (fun _ i _ => rs.length - (intOf i).toNat)
    case atStart => exact ⟨0, none, 0, [], by omega, rfl, rfl, RowB.nil _ _, (by simp), HH.out⟩
    case round =>
      obtain ⟨k, Ab, cb, hb, hk, rfl, rfl, hRb, h8, hHb⟩ := hrel
      obtain ⟨b, hbe⟩ : ∃ b, b = frsB (rs.take k) := ⟨_, rfl⟩
      rw [← hbe] at hRb ⊢
      have hbl : b.length ≤ 9000000 := by
        have := frsB_len (rs.take k) 8000 h8
        rw [← hbe, List.length_take] at this
        omega
      have HBE := Lib.hid hbe; have H8 := Lib.hid h8; have HRB := Lib.hid hRb; have HHB := Lib.hid hHb
      clear hbe h8 hRb hHb
      by_cases hlt : k < rs.length
      · obtain ⟨r, hr⟩ : ∃ r, rs[k]? = some r := ⟨_, List.getElem?_eq_getElem hlt⟩
        have hrl2 := hrb r (List.mem_of_getElem? hr)
        obtain ⟨ad, rfl, hcell, hIB⟩ := HA.out wr (HHB.out.perm (k := (hb ++ (hl ++ hd)) ++ F) (by classical rw [List.perm_iff_count]; intro a; simp only [List.count_append, List.count_cons, List.count_nil]; omega)).right k r hr
        obtain ⟨Aj, hAj⟩ : ∃ x, x = (Vf k).1 := ⟨_, rfl⟩
        obtain ⟨Cj, hCj⟩ : ∃ x, x = (Vf k).2 := ⟨_, rfl⟩
        rw [← hAj, ← hCj] at hcell hIB
        obtain ⟨Ab', cb', eb, hcb, hnb, hrdb⟩ := HRB.out.reads HHB.out
        obtain ⟨rfl, _, rfl⟩ : Ab = Ab' ∧ b.length = b.length ∧ cb = cb' := by injection eb with e1 e2 e3; exact ⟨e1, e2, e3⟩
        have HRk := Lib.hid hr; have HIB := Lib.hid hIB
        clear hr hAj hCj eb hnb
        by_cases hr8 : r.length ≤ 8000
        · have HP := Lib.hid (put_calls 90000 Ab Aj cb Cj b r (bi (b ++ frB r)) 0 w0 wr (hb ++ (hl ++ (hd ++ F))) hrdb HIB.out.2.2.2 hcb HIB.out.2.1 (by omega) (by omega) (by rw [bi_app, bi_frB]; exact Pl.put_f 90000 (bi b) (bi r) (by rw [bi_len]; omega) (by rw [bi_len]; exact hr8) (by decide)) HHB.out)
          rw [bi_len, bi_bv] at HP
          clear hrdb hcb
          go_wp2_with fail
          refine HP.out.mono ?_
          rintro e w2 ⟨v, rfl, hv, hRv, hHv⟩
          obtain ⟨Av, cv, rfl, _, _⟩ := RowB.form hRv
          have HRV := Lib.hid hRv; have HHV := Lib.hid hHv
          clear hRv hHv
          go_wp2_with fail
          have e2 : frsB (rs.take (k + 1)) = b ++ frB r := by rw [take_snoc rs k r HRk.out, frsB_snoc, HBE.out]
          refine ⟨⟨k + 1, Av, cv, hv, by omega, by simp, by rw [e2, List.length_append], by rw [e2]; have := HRV.out; simpa only [List.length_append] using this, ?_, HHV.out.sub (List.Sublist.append (List.Sublist.refl hv) (List.sublist_append_right hb _))⟩, by simp [intOf]; omega⟩
          intro x hx
          rw [take_snoc rs k r HRk.out] at hx
          rcases List.mem_append.mp hx with hx | hx
          · exact H8.out x hx
          · obtain rfl := List.mem_singleton.mp hx
            exact hr8
        · have HP := Lib.hid (put_calls 90000 Ab Aj cb Cj b r [] 2 w0 wr (hb ++ (hl ++ (hd ++ F))) hrdb HIB.out.2.2.2 hcb HIB.out.2.1 (by omega) (by omega) (Pl.put_no 90000 (bi b) (bi r) (by rw [bi_len]; omega)) HHB.out)
          have HRES := Lib.hid (show addM d m rs = (2, d, m) by
            unfold addM
            rw [if_neg HOFF.out, if_pos]
            rw [List.any_eq_true]
            exact ⟨r, List.mem_of_getElem? HRk.out, by simpa using hr8⟩)
          clear hrdb hcb
          go_wp2_with fail
          refine HP.out.mono ?_
          rintro e w2 ⟨v, rfl, hv, hRv, hHv⟩
          have HHV := Lib.hid hHv
          clear hRv hHv
          go_wp2_with fail
          go_ret
          exact lMade.mk HRES.out rfl HI.out HD.out (HHV.out.sub ((List.sublist_append_right hb _).trans (List.sublist_append_right hv _)))
      · have hkn : k = rs.length := by omega
        subst hkn
        rw [List.take_length] at HBE H8
        obtain ⟨er, he1⟩ : ∃ er, (appM d m.name (frsB rs)).1 = er := ⟨_, rfl⟩
        obtain ⟨d2, hd2⟩ : ∃ d2, (appM d m.name (frsB rs)).2 = d2 := ⟨_, rfl⟩
        have HBL := Lib.hid (show b.length ≤ 100000000 by omega)
        have HRDB := Lib.hid (fun w2 (G2 : Hp) (H2 : Holds w0 (hb ++ G2) w2) => show Reads w2 Ab b.length 1 (bv b) from by
          obtain ⟨Ab', cb', eb, _, _, hrdb⟩ := HRB.out.reads H2
          injection eb with q1 q2 q3
          rw [q1]
          exact hrdb)
        have HCB := Lib.hid (show Ab = none → cb = 0 by
          obtain ⟨Ab', cb', eb, _, hn, _⟩ := HRB.out.reads HHB.out
          injection eb with q1 q2 q3
          rw [q1, q3]
          exact hn)
        have HANY := Lib.hid (show ¬ rs.any (fun r => decide (8000 < r.length)) = true by
          rw [List.any_eq_true]
          rintro ⟨r, h1, h2⟩
          have := H8.out r h1
          simp at h2
          omega)
        have HE1 := Lib.hid he1; have HD2 := Lib.hid hd2
        have HE1b := Lib.hid (show (appM d m.name b).1 = er by rw [HBE.out]; exact he1)
        have HD2b := Lib.hid (show (appM d m.name b).2 = d2 by rw [HBE.out]; exact hd2)
        clear he1 hd2
        go_wp2_with fail
        refine wp_region_own 12 (fun _ => []) (by kernel_rfl) (by kernel_rfl) (by kernel_rfl) (by kernel_rfl) (Nat.le_of_ble_eq_true (by kernel_rfl)) w0 (fun Ls hs => AdL gl gd m (noteM m er) d d2 (hb ++ F) Ls hs) (fun i v h => match i with | 0 => v = .pointer (some ⟨gl, 0, none⟩) ∧ h = [] | 1 => v = .pointer (some ⟨gl, 0, none⟩) ∧ h = [] | 2 => v = .pointer (some ⟨gl, 0, none⟩) ∧ h = [] | 3 => v = .pointer (some ⟨gl, 0, none⟩) ∧ h = [] | 4 => v = .pointer (some ⟨gd, 0, none⟩) ∧ h = [] | 5 => v = .pointer (some ⟨gl, 0, none⟩) ∧ h = [] | 6 => v = .pointer (some ⟨gl, 0, none⟩) ∧ h = [] | 7 => v = .pointer (some ⟨gl, 1, none⟩) ∧ h = [] | 8 => v = .string m.name ∧ h = [] | 9 => v = .slice Ab b.length cb ∧ h = [] | 10 => v = .int .i64 er ∧ h = [] | 11 => v = .int .i64 er ∧ h = [] | _ => True) ((hl ++ (hd ++ (hb ++ F)))) (AdL.mk HI.out HD.out) ((HHB.out.perm (by classical rw [List.perm_iff_count]; intro a; simp only [List.count_append, List.count_cons, List.count_nil]; omega)).drew) ?_ ?_
        · intro i o hi ho Ls f Hf hs R w1 hI hL hd hH
          simp only [fill, List.take_succ_cons, List.take_zero, Act.put, List.setIfInBounds_toArray, List.set_cons_zero, List.set_cons_succ]
          match i, hi with
          | 0, _ =>
            obtain rfl := Option.some.inj ho
            clear hd ho
            have hH : Holds w0 (hs ++ ([] ++ R)) w1 := hH
            obtain ⟨hl1, hd1, hL1, hD1, rfl⟩ := hI
            unfold wpOp
            refine Or.inl ?_
            unfold Oper.wp
            go_simp
            exact OwnBy.mk _ _ _ rfl (AdL.mk hL1 hD1) (⟨rfl, rfl⟩) (hH)
          | 1, _ =>
            obtain rfl := Option.some.inj ho
            clear hd ho
            have hH : Holds w0 (hs ++ ([] ++ R)) w1 := hH
            obtain ⟨hl1, hd1, hL1, hD1, rfl⟩ := hI
            unfold wpOp
            refine Or.inl ?_
            unfold Oper.wp
            go_simp
            exact OwnBy.mk _ _ _ rfl (AdL.mk hL1 hD1) (⟨rfl, rfl⟩) (hH)
          | 2, _ =>
            obtain rfl := Option.some.inj ho
            have e1 : f 1 = .pointer (some ⟨gl, 0, none⟩) := (hd ⟨1, .data⟩ (by simp) rfl).2.1
            clear hd ho
            have hH : Holds w0 (hs ++ ([] ++ R)) w1 := hH
            obtain ⟨hl1, hd1, hL1, hD1, rfl⟩ := hI
            unfold wpOp
            refine Or.inl ?_
            simp only [e1]
            unfold Oper.wp
            go_simp
            exact OwnBy.mk _ _ _ rfl (AdL.mk hL1 hD1) (⟨rfl, rfl⟩) (hH)
          | 3, _ =>
            obtain rfl := Option.some.inj ho
            have e2 : f 2 = .pointer (some ⟨gl, 0, none⟩) := (hd ⟨2, .data⟩ (by simp) rfl).2.1
            clear hd ho
            have hH : Holds w0 (hs ++ ([] ++ R)) w1 := hH
            obtain ⟨hl1, hd1, hL1, hD1, rfl⟩ := hI
            unfold wpOp
            refine Or.inl ?_
            simp only [e2]
            unfold Oper.wp
            go_simp
            exact OwnBy.mk _ _ _ rfl (AdL.mk hL1 hD1) (⟨rfl, rfl⟩) (hH)
          | 4, _ =>
            obtain rfl := Option.some.inj ho
            have e3 : f 3 = .pointer (some ⟨gl, 0, none⟩) := (hd ⟨3, .data⟩ (by simp) rfl).2.1
            clear hd ho
            have hH : Holds w0 (hs ++ ([] ++ R)) w1 := hH
            obtain ⟨hl1, hd1, hL1, hD1, rfl⟩ := hI
            unfold wpOp
            refine Or.inl ?_
            simp only [e3]
            unfold Oper.wp
            have q0 := hL1.at0 (F := hd1 ++ ((hb ++ F) ++ R)) (hH.perm (by classical rw [List.perm_iff_count]; intro a; simp only [List.count_append, List.count_cons, List.count_nil]; omega))
            go_simp
            exact OwnBy.mk _ _ _ rfl (AdL.mk hL1 hD1) (⟨rfl, rfl⟩) (hH)
          | 5, _ =>
            obtain rfl := Option.some.inj ho
            clear hd ho
            have hH : Holds w0 (hs ++ ([] ++ R)) w1 := hH
            obtain ⟨hl1, hd1, hL1, hD1, rfl⟩ := hI
            unfold wpOp
            refine Or.inl ?_
            unfold Oper.wp
            go_simp
            exact OwnBy.mk _ _ _ rfl (AdL.mk hL1 hD1) (⟨rfl, rfl⟩) (hH)
          | 6, _ =>
            obtain rfl := Option.some.inj ho
            have e5 : f 5 = .pointer (some ⟨gl, 0, none⟩) := (hd ⟨5, .data⟩ (by simp) rfl).2.1
            clear hd ho
            have hH : Holds w0 (hs ++ ([] ++ R)) w1 := hH
            obtain ⟨hl1, hd1, hL1, hD1, rfl⟩ := hI
            unfold wpOp
            refine Or.inl ?_
            simp only [e5]
            unfold Oper.wp
            go_simp
            exact OwnBy.mk _ _ _ rfl (AdL.mk hL1 hD1) (⟨rfl, rfl⟩) (hH)
          | 7, _ =>
            obtain rfl := Option.some.inj ho
            have e6 : f 6 = .pointer (some ⟨gl, 0, none⟩) := (hd ⟨6, .data⟩ (by simp) rfl).2.1
            clear hd ho
            have hH : Holds w0 (hs ++ ([] ++ R)) w1 := hH
            obtain ⟨hl1, hd1, hL1, hD1, rfl⟩ := hI
            unfold wpOp
            refine Or.inl ?_
            simp only [e6]
            unfold Oper.wp
            go_simp
            exact OwnBy.mk _ _ _ rfl (AdL.mk hL1 hD1) (⟨rfl, rfl⟩) (hH)
          | 8, _ =>
            obtain rfl := Option.some.inj ho
            have e7 : f 7 = .pointer (some ⟨gl, 1, none⟩) := (hd ⟨7, .data⟩ (by simp) rfl).2.1
            clear hd ho
            have hH : Holds w0 (hs ++ ([] ++ R)) w1 := hH
            obtain ⟨hl1, hd1, hL1, hD1, rfl⟩ := hI
            unfold wpOp
            refine Or.inl ?_
            simp only [e7]
            unfold Oper.wp
            have q0 := hL1.at1 (F := hd1 ++ ((hb ++ F) ++ R)) (hH.perm (by classical rw [List.perm_iff_count]; intro a; simp only [List.count_append, List.count_cons, List.count_nil]; omega))
            rw [show (if Ls 11 = true then noteM m er else m).name = m.name by split; exact noteM_name m er; rfl] at q0
            go_simp
            exact OwnBy.mk _ _ _ rfl (AdL.mk hL1 hD1) (⟨rfl, rfl⟩) (hH)
          | 9, _ =>
            obtain rfl := Option.some.inj ho
            clear hd ho
            have hH : Holds w0 (hs ++ ([] ++ R)) w1 := hH
            obtain ⟨hl1, hd1, hL1, hD1, rfl⟩ := hI
            unfold wpOp
            refine Or.inl ?_
            unfold Oper.wp
            go_simp
            exact OwnBy.mk _ _ _ rfl (AdL.mk hL1 hD1) (⟨rfl, rfl⟩) (hH)
          | 10, _ =>
            obtain rfl := Option.some.inj ho
            have e4 : f 4 = .pointer (some ⟨gd, 0, none⟩) := (hd ⟨4, .data⟩ (by simp) rfl).2.1
            have e8 : f 8 = .string m.name := (hd ⟨8, .data⟩ (by simp) rfl).2.1
            have e9 : f 9 = .slice Ab b.length cb := (hd ⟨9, .data⟩ (by simp) rfl).2.1
            clear hd ho
            have hH : Holds w0 (hs ++ ([] ++ R)) w1 := hH
            obtain ⟨hl1, hd1, hL1, hD1, rfl⟩ := hI
            unfold wpOp
            refine Or.inl ?_
            simp only [e4, e8, e9]
            unfold Oper.wp
            rw [hL, if_neg (by decide)] at hD1
            have hHp : Holds w0 (hd1 ++ (hl1 ++ ((hb ++ F) ++ R))) w1 := hH.perm (by classical rw [List.perm_iff_count]; intro a; simp only [List.count_append, List.count_cons, List.count_nil]; omega)
            go_simp
            refine (append_calls gd d hd1 _ m.name Ab cb b w0 w1 hs0 HCB.out HBL.out hcnt hD1 hHp (fun w2 H2 => HRDB.out w2 (hl1 ++ (F ++ R)) (H2.perm (by classical rw [List.perm_iff_count]; intro a; simp only [List.count_append, List.count_cons, List.count_nil]; omega)))).mono ?_
            rintro e w3 ⟨rfl, h3, hD3, hH3⟩
            rw [HD2b.out] at hD3
            rw [HE1b.out]
            exact OwnBy.mk _ [] (hl1 ++ (h3 ++ (hb ++ F))) rfl (AdL.mk hL1 hD3) ⟨rfl, rfl⟩ (hH3.perm (by classical rw [List.perm_iff_count]; intro a; simp only [List.count_append, List.count_cons, List.count_nil]; omega))
          | 11, _ =>
            obtain rfl := Option.some.inj ho
            have e0 : f 0 = .pointer (some ⟨gl, 0, none⟩) := (hd ⟨0, .data⟩ (by simp) rfl).2.1
            have e10 : f 10 = .int .i64 er := (hd ⟨10, .data⟩ (by simp) rfl).2.1
            clear hd ho
            have hH : Holds w0 (hs ++ ([] ++ R)) w1 := hH
            obtain ⟨hl1, hd1, hL1, hD1, rfl⟩ := hI
            unfold wpOp
            refine Or.inl ?_
            simp only [e0, e10]
            unfold Oper.wp
            rw [hL, if_neg (by decide)] at hL1
            have hHp : Holds w0 (hl1 ++ (hd1 ++ ((hb ++ F) ++ R))) w1 := hH.perm (by classical rw [List.perm_iff_count]; intro a; simp only [List.count_append, List.count_cons, List.count_nil]; omega)
            go_simp
            refine (note_calls gl gd m er hl1 _ w0 w1 hL1 hHp).mono ?_
            rintro e w3 ⟨rfl, h3, hL3, hH3⟩
            exact OwnBy.mk _ [] (h3 ++ (hd1 ++ (hb ++ F))) rfl (AdL.mk hL3 hD1) ⟨rfl, rfl⟩ (hH3.perm (by classical rw [List.perm_iff_count]; intro a; simp only [List.count_append, List.count_cons, List.count_nil]; omega))
        · intro Ls f Hf hs w1 hI hL hV hH
          have e0 : f 0 = .pointer (some ⟨gl, 0, none⟩) := (hV 0 (by decide)).1
          have e1 : f 1 = .pointer (some ⟨gl, 0, none⟩) := (hV 1 (by decide)).1
          have e2 : f 2 = .pointer (some ⟨gl, 0, none⟩) := (hV 2 (by decide)).1
          have e3 : f 3 = .pointer (some ⟨gl, 0, none⟩) := (hV 3 (by decide)).1
          have e4 : f 4 = .pointer (some ⟨gd, 0, none⟩) := (hV 4 (by decide)).1
          have e5 : f 5 = .pointer (some ⟨gl, 0, none⟩) := (hV 5 (by decide)).1
          have e6 : f 6 = .pointer (some ⟨gl, 0, none⟩) := (hV 6 (by decide)).1
          have e7 : f 7 = .pointer (some ⟨gl, 1, none⟩) := (hV 7 (by decide)).1
          have e8 : f 8 = .string m.name := (hV 8 (by decide)).1
          have e9 : f 9 = .slice Ab b.length cb := (hV 9 (by decide)).1
          have e10 : f 10 = .int .i64 er := (hV 10 (by decide)).1
          have e11 : f 11 = .int .i64 er := (hV 11 (by decide)).1
          clear hV
          have hH : Holds w0 (hs ++ []) w1 := hH
          simp only [fill, List.take_succ_cons, List.take_zero, List.drop_succ_cons, List.drop_zero, Act.put, List.setIfInBounds_toArray, List.set_cons_zero, List.set_cons_succ, e0, e1, e2, e3, e4, e5, e6, e7, e8, e9, e10, e11]
          obtain ⟨hl1, hd1, hL1, hD1, rfl⟩ := hI
          rw [hL 11 (by decide), if_pos rfl] at hL1
          rw [hL 10 (by decide), if_pos rfl] at hD1
          have HX := Lib.hid (show Holds w0 (hl1 ++ (hd1 ++ (hb ++ F))) w1 from hH.perm (by classical rw [List.perm_iff_count]; intro a; simp only [List.count_append, List.count_cons, List.count_nil]; omega))
          have HL1 := Lib.hid hL1; have HD1 := Lib.hid hD1
          clear hL hH hL1 hD1
          by_cases h0 : er = 0
          · subst h0
            have HRES := Lib.hid (show addM d m rs = (0, d2, { m with recs := m.recs ++ rs }) by unfold addM; rw [if_neg HOFF.out, if_neg HANY.out, HE1.out, HD2.out, if_pos rfl])
            have HL2 := Lib.hid (show IsL gl gd m hl1 from by have := HL1.out; rwa [show noteM m 0 = m from if_pos rfl] at this)
            go_wp2_with fail
            go_loopw [49] (fun i wr => AdS w0 gl gd m rs (hd1 ++ F) i wr) (fun i _ => rs.length - (intOf i).toNat)
            case atStart => exact ⟨0, hl1, by omega, rfl, by rw [List.take_zero, List.append_nil]; exact HL2.out, HX.out.sub (List.Sublist.append (List.Sublist.refl hl1) (List.Sublist.append (List.Sublist.refl hd1) (List.sublist_append_right hb F)))⟩
            case round =>
              obtain ⟨k, hl, hk, rfl, hIk, hHk⟩ := hrel
              by_cases hlt : k < rs.length
              · obtain ⟨r, hr⟩ : ∃ r, rs[k]? = some r := ⟨_, List.getElem?_eq_getElem hlt⟩
                obtain ⟨A2, c2, vs, hro, hx, R2, RS2, rfl⟩ := hIk
                have HLENR := Lib.hid (hrb r (List.mem_of_getElem? hr))
                have hlen : (m.recs ++ rs.take k).length ≤ 1000000 := by rw [List.length_append, List.length_take]; omega
                obtain ⟨n2, hn2⟩ : ∃ n2, n2 = (m.recs ++ rs.take k).length := ⟨_, rfl⟩
                have R2' : RowB 31 1 (.slice A2 n2 c2) n2 vs hro := by rw [hn2]; exact R2
                have hHk' : Holds w0 ((gl, logO gd m (.slice A2 n2 c2)) :: (hro ++ (hx ++ (hd1 ++ F)))) wr := by rw [hn2]; exact (show Holds w0 ((gl, logO gd m (.slice A2 (m.recs ++ rs.take k).length c2)) :: ((hro ++ hx) ++ (hd1 ++ F))) wr from hHk).perm (by classical rw [List.perm_iff_count]; intro a; simp only [List.count_append, List.count_cons, List.count_nil]; omega)
                rw [← hn2] at hlen
                obtain ⟨ad, rfl, hcell, hIB⟩ := HA.out wr (hHk'.sub (((List.sublist_append_right hd1 F).trans ((List.sublist_append_right hx _).trans (List.sublist_append_right hro _))).cons _)) k r hr
                obtain ⟨Aj, hAj⟩ : ∃ x, x = (Vf k).1 := ⟨_, rfl⟩
                obtain ⟨Cj, hCj⟩ : ∃ x, x = (Vf k).2 := ⟨_, rfl⟩
                have HRD := Lib.hid (fun w' (H' : Holds w0 F w') => show InB w' Aj Cj r from by
                  obtain ⟨_, _, _, h⟩ := HA.out w' H' k r hr
                  rw [hAj, hCj]
                  exact h)
                rw [← hAj, ← hCj] at hcell
                have HN2 := Lib.hid hn2; have HRk := Lib.hid hr; have HR2 := Lib.hid R2'; have HRS2 := Lib.hid RS2; have HHk := Lib.hid hHk'; 
                clear hn2 hr R2 R2' RS2 hHk hHk' hIB hAj hCj
                go_wp2_with fail
                refine wp_region_own 9 (fun k => match k with | 7 => [6] | 8 => [7] | 9 => [8] | _ => []) (by kernel_rfl) (by kernel_rfl) (by kernel_rfl) (by kernel_rfl) (Nat.le_of_ble_eq_true (by kernel_rfl)) w0 (fun Ls hs => AdA (gl, logO gd m (.slice A2 n2 c2)) hro (hx ++ (hd1 ++ F)) 8 Ls hs) (fun i v h => match i with | 0 => v = .pointer (some ⟨gl, 0, none⟩) ∧ h = [] | 1 => v = .pointer (some ⟨gl, 0, none⟩) ∧ h = [] | 2 => v = .pointer (some ⟨gl, 0, none⟩) ∧ h = [] | 3 => v = .pointer (some ⟨gl, 2, none⟩) ∧ h = [] | 4 => v = .slice A2 n2 c2 ∧ h = [] | 5 => v = .slice Aj r.length Cj ∧ h = [] | 6 => RowB 5 1 v r.length (bv r) h | 7 => BldR r v h | 8 => ∃ u hu h1, RowB 31 1 v (n2 + 1) (vs ++ [u]) h1 ∧ RowB 5 1 u r.length (bv r) hu ∧ h = h1 ++ hu | _ => True) (((gl, logO gd m (.slice A2 n2 c2)) :: (hro ++ (hx ++ (hd1 ++ F))))) (rfl) (HHk.out.drew) ?_ ?_
                · intro i o hi ho Ls f Hf hs R w1 hI hL hd hH
                  simp only [fill, List.take_succ_cons, List.take_zero, Act.put, List.setIfInBounds_toArray, List.set_cons_zero, List.set_cons_succ]
                  match i, hi with
                  | 0, _ =>
                    obtain rfl := Option.some.inj ho
                    clear hd ho
                    have hH : Holds w0 (hs ++ ([] ++ R)) w1 := hH
                    obtain ⟨q, rfl, hq1, hq2⟩ := hI.split
                    unfold wpOp
                    refine Or.inl ?_
                    unfold Oper.wp
                    go_simp
                    exact OwnBy.mk _ _ _ rfl (hI) (⟨rfl, rfl⟩) (hH)
                  | 1, _ =>
                    obtain rfl := Option.some.inj ho
                    clear hd ho
                    have hH : Holds w0 (hs ++ ([] ++ R)) w1 := hH
                    obtain ⟨q, rfl, hq1, hq2⟩ := hI.split
                    unfold wpOp
                    refine Or.inl ?_
                    unfold Oper.wp
                    go_simp
                    exact OwnBy.mk _ _ _ rfl (hI) (⟨rfl, rfl⟩) (hH)
                  | 2, _ =>
                    obtain rfl := Option.some.inj ho
                    have e1 : f 1 = .pointer (some ⟨gl, 0, none⟩) := (hd ⟨1, .data⟩ (by simp) rfl).2.1
                    clear hd ho
                    have hH : Holds w0 (hs ++ ([] ++ R)) w1 := hH
                    obtain ⟨q, rfl, hq1, hq2⟩ := hI.split
                    unfold wpOp
                    refine Or.inl ?_
                    simp only [e1]
                    unfold Oper.wp
                    go_simp
                    exact OwnBy.mk _ _ _ rfl (hI) (⟨rfl, rfl⟩) (hH)
                  | 3, _ =>
                    obtain rfl := Option.some.inj ho
                    have e2 : f 2 = .pointer (some ⟨gl, 0, none⟩) := (hd ⟨2, .data⟩ (by simp) rfl).2.1
                    clear hd ho
                    have hH : Holds w0 (hs ++ ([] ++ R)) w1 := hH
                    obtain ⟨q, rfl, hq1, hq2⟩ := hI.split
                    unfold wpOp
                    refine Or.inl ?_
                    simp only [e2]
                    unfold Oper.wp
                    go_simp
                    exact OwnBy.mk _ _ _ rfl (hI) (⟨rfl, rfl⟩) (hH)
                  | 4, _ =>
                    obtain rfl := Option.some.inj ho
                    have e3 : f 3 = .pointer (some ⟨gl, 2, none⟩) := (hd ⟨3, .data⟩ (by simp) rfl).2.1
                    clear hd ho
                    have hH : Holds w0 (hs ++ ([] ++ R)) w1 := hH
                    obtain ⟨q, rfl, hq1, hq2⟩ := hI.split
                    unfold wpOp
                    refine Or.inl ?_
                    simp only [e3]
                    unfold Oper.wp
                    have q0 : w1.cell? ⟨gl, 2, none⟩ = some (.slice A2 n2 c2) := hH.cell 2
                    go_simp
                    exact OwnBy.mk _ _ _ rfl (hI) (⟨rfl, rfl⟩) (hH)
                  | 5, _ =>
                    obtain rfl := Option.some.inj ho
                    clear hd ho
                    have hH : Holds w0 (hs ++ ([] ++ R)) w1 := hH
                    obtain ⟨q, rfl, hq1, hq2⟩ := hI.split
                    unfold wpOp
                    refine Or.inl ?_
                    unfold Oper.wp
                    go_simp
                    exact OwnBy.mk _ _ _ rfl (hI) (⟨rfl, rfl⟩) (hH)
                  | 6, _ =>
                    obtain rfl := Option.some.inj ho
                    have e5 : f 5 = .slice Aj r.length Cj := (hd ⟨5, .data⟩ (by simp) rfl).2.1
                    clear hd ho
                    have hH : Holds w0 (hs ++ ([] ++ R)) w1 := hH
                    obtain ⟨q, rfl, hq1, hq2⟩ := hI.split
                    unfold wpOp
                    refine Or.inl ?_
                    simp only [e5]
                    unfold Oper.wp
                    have hF : Holds w0 F w1 := (hH.perm (k := F ++ (((gl, logO gd m (.slice A2 n2 c2)) :: (q ++ (hx ++ hd1))) ++ R)) (by classical rw [List.perm_iff_count]; intro a; simp only [List.count_append, List.count_cons, List.count_nil]; omega)).left
                    obtain ⟨q3, _, _, q4⟩ := HRD.out w1 hF
                    go_simp
                    refine (clone_calls Aj Cj r w0 w1 _ q3 q4 (by have := HLENR.out; omega) hH).mono ?_
                    rintro e w3 ⟨v3, rfl, hv3, hR3, hH3⟩
                    exact OwnBy.mk _ hv3 _ rfl hI hR3 (hH3.perm (by classical rw [List.perm_iff_count]; intro a; simp only [List.count_append, List.count_cons, List.count_nil]; omega))
                  | 7, _ =>
                    obtain rfl := Option.some.inj ho
                    have e6 := (hd ⟨6, .data⟩ (by simp) rfl).2
                    clear hd ho
                    have hH : Holds w0 (hs ++ ((Hf 6 ++ ([])) ++ R)) w1 := hH
                    simp only [List.append_nil, List.append_assoc] at hH
                    obtain ⟨q, rfl, hq1, hq2⟩ := hI.split
                    unfold wpOp
                    refine Or.inl ?_
                    unfold Oper.wp
                    obtain ⟨A6, c6, hf6, _, _⟩ := RowB.form e6
                    rw [hf6] at e6
                    rw [hf6]
                    go_simp
                    exact OwnBy.mk _ ((w1.heap.size, .cells #[.slice A6 r.length c6] 31) :: Hf 6) _ rfl hI (show BldR r _ _ from ⟨.slice A6 r.length c6, w1.heap.size, Hf 6, rfl, e6, rfl⟩) ((hH.alloc (.cells #[.slice A6 r.length c6] 31)).perm (by classical rw [List.perm_iff_count]; intro a; simp only [List.count_append, List.count_cons, List.count_nil]; omega))
                  | 8, _ =>
                    obtain rfl := Option.some.inj ho
                    have e4 : f 4 = .slice A2 n2 c2 := (hd ⟨4, .data⟩ (by simp) rfl).2.1
                    have e7 := (hd ⟨7, .data⟩ (by simp) rfl).2
                    obtain ⟨u7, b7, hu7, e7, r7, q7⟩ := e7
                    clear hd ho
                    have hH : Holds w0 (hs ++ ((Hf 7 ++ ([])) ++ R)) w1 := hH
                    simp only [q7, List.append_nil, List.append_assoc] at hH
                    obtain ⟨q, rfl, hq1, hq2⟩ := hI.split
                    unfold wpOp
                    refine Or.inl ?_
                    simp only [e4, e7]
                    unfold Oper.wp
                    rw [hq1 hL] at hH
                    obtain ⟨A7, c7, hf7, _, _⟩ := RowB.form r7
                    have hb7 : w1.heap[b7]? = some (.cells #[u7] 31 (0, 0)) := (hH.perm (k := (b7, .cells #[u7] 31 (0, 0)) :: ((gl, logO gd m (.slice A2 n2 c2)) :: (hro ++ ((hx ++ (hd1 ++ F)) ++ (hu7 ++ R))))) (by classical rw [List.perm_iff_count]; intro a; simp only [List.count_append, List.count_cons, List.count_nil]; omega)).get
                    obtain ⟨v8, h8, w8, r1, r2, r3⟩ := rec_append HR2.out (hH.perm (k := hro ++ ((b7, .cells #[u7] 31 (0, 0)) :: ((gl, logO gd m (.slice A2 n2 c2)) :: ((hx ++ (hd1 ++ F)) ++ (hu7 ++ R))))) (by classical rw [List.perm_iff_count]; intro a; simp only [List.count_append, List.count_cons, List.count_nil]; omega)) 22 b7 u7 (by rw [hf7]; rfl) hb7 (by omega)
                    refine wpA (.tmp 57) (.tmp 60) rfl rfl rfl r1 ?_
                    exact OwnBy.mk _ (h8 ++ hu7) ((gl, logO gd m (.slice A2 n2 c2)) :: (hx ++ (hd1 ++ F))) rfl rfl ⟨_, _, _, r2, r7, rfl⟩ ((r3.perm (k := (b7, .cells #[u7] 31 (0, 0)) :: (((gl, logO gd m (.slice A2 n2 c2)) :: (hx ++ (hd1 ++ F))) ++ ((h8 ++ hu7) ++ R))) (by classical rw [List.perm_iff_count]; intro a; simp only [List.count_append, List.count_cons, List.count_nil]; omega)).tail)
                · intro Ls f Hf hs w1 hI hL hV hH
                  have e0 : f 0 = .pointer (some ⟨gl, 0, none⟩) := (hV 0 (by decide)).1
                  have e1 : f 1 = .pointer (some ⟨gl, 0, none⟩) := (hV 1 (by decide)).1
                  have e2 : f 2 = .pointer (some ⟨gl, 0, none⟩) := (hV 2 (by decide)).1
                  have e3 : f 3 = .pointer (some ⟨gl, 2, none⟩) := (hV 3 (by decide)).1
                  have e4 : f 4 = .slice A2 n2 c2 := (hV 4 (by decide)).1
                  have e5 : f 5 = .slice Aj r.length Cj := (hV 5 (by decide)).1
                  have e6 := hV 6 (by decide)
                  have e7 := hV 7 (by decide)
                  obtain ⟨u7, b7, hu7, e7, r7, q7⟩ := e7
                  have e8 := hV 8 (by decide)
                  obtain ⟨u8, hu8, h18, r8, s8, q8⟩ := e8
                  clear hV
                  have hH : Holds w0 (hs ++ (Hf 8 ++ [])) w1 := hH
                  simp only [q8, List.append_nil, List.append_assoc] at hH
                  simp only [fill, List.take_succ_cons, List.take_zero, List.drop_succ_cons, List.drop_zero, Act.put, List.setIfInBounds_toArray, List.set_cons_zero, List.set_cons_succ, e0, e1, e2, e3, e4, e5, e7]
                  obtain ⟨q, rfl, hq1, hq2⟩ := hI.split
                  rw [hq2 (hL 8 (by decide))] at hH
                  obtain ⟨A8, c8, hf8, _, _⟩ := RowB.form r8
                  rw [hf8] at r8 ⊢
                  have HX8 := Lib.hid (show Holds w0 ((gl, logO gd m (.slice A2 n2 c2)) :: (h18 ++ (hu8 ++ (hx ++ (hd1 ++ F))))) w1 from hH.perm (by classical rw [List.perm_iff_count]; intro a; simp only [List.count_append, List.count_cons, List.count_nil]; omega))
                  have HR8 := Lib.hid r8; have HS8 := Lib.hid s8
                  clear hL hH hq1 hq2 r8 s8 hf8 hI
                  have f2 : w1.frozen? ⟨gl, 2, none⟩ = false := HX8.out.froz 2
                  have c2' : w1.cell? ⟨gl, 2, none⟩ = some (.slice A2 n2 c2) := HX8.out.cell 2
                  go_wp2_with fail
                  refine ⟨⟨k + 1, ((gl, logO gd m (.slice A8 (n2 + 1) c8)) :: (h18 ++ (hx ++ hu8))), by omega, by simp, ?_, (show Holds w0 ((gl, logO gd m (.slice A8 (n2 + 1) c8)) :: (h18 ++ (hu8 ++ (hx ++ (hd1 ++ F))))) _ from HX8.out.set 2 (.slice A8 (n2 + 1) c8)).perm (by classical rw [List.perm_iff_count]; intro a; simp only [List.count_append, List.count_cons, List.count_nil]; omega)⟩, by simp [intOf]; omega⟩
                  have hsn := RowsB.snoc HRS2.out HS8.out
                  have hll : (m.recs ++ rs.take (k + 1)).length = n2 + 1 := by rw [take_snoc rs k r HRk.out, ← List.append_assoc, List.length_append, ← HN2.out]; rfl
                  refine ⟨A8, c8, vs ++ [u8], h18, hx ++ hu8, by rw [hll]; exact HR8.out, ?_, by rw [hll]; rfl⟩
                  rw [take_snoc rs k r HRk.out, ← List.append_assoc]
                  exact hsn
              · have hkn : k = rs.length := by omega
                subst hkn
                rw [List.take_length] at hIk
                have HIK := Lib.hid hIk; have HHK := Lib.hid hHk
                clear hIk hHk
                go_wp2_with fail
                go_ret
                exact lMade.mk HRES.out rfl HIK.out HD1.out HHK.out
          have h0n : (er != 0) = true := by rw [bne_iff_ne]; exact h0
          have HRES := Lib.hid (show addM d m rs = (er, d2, { m with done := true }) by unfold addM; rw [if_neg HOFF.out, if_neg HANY.out, HE1.out, HD2.out, if_neg h0])
          have HNM := Lib.hid (show noteM m er = { m with done := true } from if_neg h0)
          clear h0
          go_wp2_with fail
          go_ret
          exact lMade.mk HRES.out rfl (by rw [← HNM.out]; exact HL1.out) HD1.out (HX.out.sub (by exact List.Sublist.append (List.Sublist.refl hl1) (List.Sublist.append (List.Sublist.refl hd1) (List.sublist_append_right hb F))))
end Go.Proofs.Ythgebchidkadhaa
