/- WalOnce's walk. No condition. -/
import Derived.Test.YthgebchidkadhaaAw
namespace Go.Proofs.Ythgebchidkadhaa
open Go.RowKit Go.Proofs.Ythgebchidkadhaa.Sp Go.Proofs.Ythgebchidkadhaa.QWal
set_option linter.unusedVariables false
set_option linter.unusedSimpArgs false
def OnR (w1 : World) (l : List (List UInt8)) (size i : Value) (wr : World) : Prop := wr = w1 ∧ ∃ k : Nat, k ≤ l.length ∧ i = .int .i64 k ∧ size = .int .i64 (frsB (l.take k)).length ∧ ∀ r ∈ l.take k, r.length ≤ 200
set_option maxRecDepth 100000 in
set_option maxHeartbeats 8000000 in
theorem once_walk (room : Int) (A : Option Addr) (ca : Nat) (l : List (List UInt8)) (w : World) (hA : InBs w A l) :
    Calls Try.prog 5 #[.int .i64 room, .slice A l.length ca] w fun e w' => e = .returned (.bool true) ∧ Below w.heap.size w w' := by
  by_cases c1 : room < 64
  · go_enter Try.func5, Try.ntmps5
    go_wp2_with fail
    refine (awake_calls w).mono ?_
    rintro e w1 ⟨rfl, hb⟩
    go_wp2_with fail
    go_ret
    exact ⟨rfl, hb⟩
  by_cases c2 : 2000 < room
  · go_enter Try.func5, Try.ntmps5
    go_wp2_with fail
    refine (awake_calls w).mono ?_
    rintro e w1 ⟨rfl, hb⟩
    go_wp2_with fail
    go_ret
    exact ⟨rfl, hb⟩
  by_cases c3 : (20 : Int) < (l.length : Int)
  · go_enter Try.func5, Try.ntmps5
    go_wp2_with fail
    refine (awake_calls w).mono ?_
    rintro e w1 ⟨rfl, hb⟩
    go_wp2_with fail
    go_ret
    exact ⟨rfl, hb⟩
  have HA := Lib.hid hA
  obtain ⟨Vf, hVf⟩ := bbs_vf (F := []) hA
  clear hA hVf Vf
  go_enter Try.func5, Try.ntmps5
  go_wp2_with fail
  refine (awake_calls w).mono ?_
  rintro e w1 ⟨rfl, hb⟩
  have HH0 := Lib.hid (Holds.of_below hb)
  clear hb
  go_wp2_with fail
  go_loopw [5, 6] (fun size i wr => OnR w1 l size i wr) (fun _ i _ => l.length - (intOf i).toNat)
  case atStart => exact ⟨rfl, 0, by omega, rfl, rfl, by simp⟩
  case round =>
    obtain ⟨rfl, k, hk, rfl, rfl, h8⟩ := hrel
    obtain ⟨S, hS⟩ : ∃ S, S = (frsB (l.take k)).length := ⟨_, rfl⟩
    rw [← hS]
    have hSl : S ≤ 100000 := by
      have := frsB_len (l.take k) 200 h8
      rw [← hS, List.length_take] at this
      omega
    have HS := Lib.hid hS; have H8 := Lib.hid h8
    clear hS h8
    by_cases hlt : k < l.length
    · obtain ⟨r, hr⟩ : ∃ r, l[k]? = some r := ⟨_, List.getElem?_eq_getElem hlt⟩
      obtain ⟨ad, Aj, Cj, rfl, hcell, hIB⟩ := HA.out k r hr
      have hc0 : wr.cell? (ad.add k) = some (.slice Aj r.length Cj) := (HH0.out.below.cell (World.block_lt_of_cell? w _ hcell)).trans hcell
      have HR := Lib.hid hr
      clear hr hcell hIB
      by_cases h2 : (200 : Int) < (r.length : Int)
      · go_wp2_with fail
        go_ret
        exact ⟨rfl, HH0.out.below⟩
      · go_wp2_with fail
        refine ⟨⟨rfl, k + 1, by omega, by simp, ?_, ?_⟩, by simp [intOf]; omega⟩
        · rw [take_snoc l k r HR.out, frsB_snoc, List.length_append, frB_len, ← HS.out]
          congr 1
          omega
        · intro x hx
          rw [take_snoc l k r HR.out] at hx
          rcases List.mem_append.mp hx with hx | hx
          · exact H8.out x hx
          · obtain rfl := List.mem_singleton.mp hx
            omega
    · have hkn : k = l.length := by omega
      subst hkn
      rw [List.take_length] at HS H8
      have HL8 := Lib.hid (show ∀ r ∈ l, r.length ≤ 8000 from fun r hr => by have := H8.out r hr; omega)
      have HLB := Lib.hid (show ∀ r ∈ l, r.length ≤ 100000 from fun r hr => by have := H8.out r hr; omega)
      go_wp2_with fail
      refine (new_calls room (by omega) w wr [] HH0.out).mono ?_
      rintro e w2 ⟨gd, rfl, hd, hD, hH⟩
      have HD := Lib.hid hD; have HH := Lib.hid hH
      clear hD hH
      go_wp2_with fail
      refine (open_none gd ⟨room, 1, true, []⟩ hd [] nW w w2 (by decide) HD.out HH.out (by rw [read_nil])).mono ?_
      rintro e w3 ⟨gl, rfl, hl, hL, hd2, hD2, hH2⟩
      rw [logN_W] at hL
      have HL := Lib.hid hL; have HD2 := Lib.hid hD2; have HH2 := Lib.hid hH2
      clear hL hD2 hH2 HD HH
      by_cases hfit : (S : Int) ≤ room
      · have HAD := Lib.hid (show addM ⟨room, 1, true, []⟩ (lW [] 0 1) l = (0, dW room 1 true ⟨frsB l, 0⟩, lW l 0 1) by rw [add_nil room 1 l 0 HL8.out, if_neg (by rw [← HS.out]; omega)])
        go_wp2_with fail
        refine (add_calls gl gd _ _ l A ca hl hd2 [] w w3 (show nW.size ≤ _ by decide) (by omega) HLB.out (show ([] : List (List UInt8)).length ≤ _ by decide) (show ([] : List (ByteArray × Fl)).length < _ by decide) (bbs_vf HA.out) HL.out HD2.out HH2.out).mono ?_
        rintro e w4 ⟨rfl, h4, hL4, hd4, hD4, hH4⟩
        rw [HAD.out] at hL4 hD4 ⊢
        have HL4 := Lib.hid hL4; have HD4 := Lib.hid hD4; have HH4 := Lib.hid hH4
        clear hL4 hD4 hH4 HL HD2 HH2
        have HLN := Lib.hid (llen_calls gl gd (lW l 0 1) h4 _ w w4 HL4.out HH4.out)
        have HSZ := Lib.hid (size_calls gd (dW room 1 true ⟨frsB l, 0⟩) hd4 (h4 ++ []) w w4 HD4.out (HH4.out.perm (by classical rw [List.perm_iff_count]; intro a; simp only [List.count_append, List.count_cons, List.count_nil]; omega)))
        have HSE := Lib.hid (show sizeM (dW room 1 true ⟨frsB l, 0⟩) = (S : Int) by rw [HS.out]; simp [sizeM, dW, totM])
        go_wp2_with fail
        refine HLN.out.mono ?_
        rintro e w5 ⟨rfl, hw⟩
        rw [hw]
        clear hw w5
        rw [show (lW l 0 1).recs.length = l.length from rfl]
        go_wp2_with fail
        refine HSZ.out.mono ?_
        rintro e w5 ⟨rfl, h5, hD5, hH5⟩
        rw [HSE.out]
        have HB5 := Lib.hid hH5.below
        clear hD5 hH5
        go_wp2_with fail
        go_ret
        exact ⟨rfl, HB5.out⟩
      · have HAD := Lib.hid (show addM ⟨room, 1, true, []⟩ (lW [] 0 1) l = (6, ⟨room, 1, true, []⟩, ⟨nW, [], 0, 1, true⟩) by rw [add_nil room 1 l 0 HL8.out, if_pos (by rw [← HS.out]; omega)])
        go_wp2_with fail
        refine (add_calls gl gd _ _ l A ca hl hd2 [] w w3 (show nW.size ≤ _ by decide) (by omega) HLB.out (show ([] : List (List UInt8)).length ≤ _ by decide) (show ([] : List (ByteArray × Fl)).length < _ by decide) (bbs_vf HA.out) HL.out HD2.out HH2.out).mono ?_
        rintro e w4 ⟨rfl, h4, hL4, hd4, hD4, hH4⟩
        rw [HAD.out] at hL4 hD4 ⊢
        have HL4 := Lib.hid hL4; have HD4 := Lib.hid hD4; have HH4 := Lib.hid hH4
        clear hL4 hD4 hH4 HL HD2 HH2
        go_wp2_with fail
        refine (open_none gd ⟨room, 1, true, []⟩ hd4 (h4 ++ []) nW w w4 (by decide) HD4.out (HH4.out.perm (by classical rw [List.perm_iff_count]; intro a; simp only [List.count_append, List.count_cons, List.count_nil]; omega)) (by rw [read_nil])).mono ?_
        rintro e w5 ⟨gk, rfl, h5, hL5, hd5, hD5, hH5⟩
        rw [logN_W] at hL5
        have HL5 := Lib.hid hL5; have HD5 := Lib.hid hD5; have HH5 := Lib.hid hH5
        clear hL5 hD5 hH5 HD4 HH4
        have HLN := Lib.hid (llen_calls gl gd (⟨nW, [], 0, 1, true⟩ : LM) h4 (h5 ++ (hd5 ++ [])) w w5 HL4.out (HH5.out.perm (by classical rw [List.perm_iff_count]; intro a; simp only [List.count_append, List.count_cons, List.count_nil]; omega)))
        have HSY := Lib.hid (lsync_calls gl gd ⟨room, 1, true, []⟩ ⟨nW, [], 0, 1, true⟩ h4 hd5 h5 w w5 (show nW.size ≤ _ by decide) HL4.out HD5.out (HH5.out.perm (by classical rw [List.perm_iff_count]; intro a; simp only [List.count_append, List.count_cons, List.count_nil]; omega)))
        have HS7 := Lib.hid (show syncL ⟨room, 1, true, []⟩ ⟨nW, [], 0, 1, true⟩ = (7, ⟨room, 1, true, []⟩, ⟨nW, [], 0, 1, true⟩) by unfold syncL; rw [if_pos (by simp [offM])])
        go_wp2_with fail
        refine HLN.out.mono ?_
        rintro e w6 ⟨rfl, hw⟩
        rw [hw]
        clear hw w6
        rw [show (⟨nW, [], 0, 1, true⟩ : LM).recs.length = 0 from rfl]
        go_wp2_with fail
        refine HSY.out.mono ?_
        rintro e w6 ⟨rfl, h6, hL6, hd6, hD6, hH6⟩
        rw [HS7.out] at hL6 hD6 ⊢
        have HL6 := Lib.hid hL6; have HD6 := Lib.hid hD6; have HH6 := Lib.hid hH6
        clear hL6 hD6 hH6
        have HLK := Lib.hid (llen_calls gk gd (lW [] 0 1) h5 (h6 ++ hd6) w w6 HL5.out (HH6.out.perm (by classical rw [List.perm_iff_count]; intro a; simp only [List.count_append, List.count_cons, List.count_nil]; omega)))
        go_wp2_with fail
        refine HLK.out.mono ?_
        rintro e w7 ⟨rfl, hw⟩
        rw [hw]
        clear hw w7
        rw [show (lW [] 0 1).recs.length = 0 from rfl]
        go_wp2_with fail
        go_ret
        exact ⟨rfl, HH6.out.below⟩
end Go.Proofs.Ythgebchidkadhaa
