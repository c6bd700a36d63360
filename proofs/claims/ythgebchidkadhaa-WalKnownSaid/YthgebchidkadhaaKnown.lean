/- WalKnown's walk. No condition. -/
import Derived.Test.YthgebchidkadhaaAw
import Derived.Laws.OwnMore
namespace Go.Proofs.Ythgebchidkadhaa
open Go.RowKit Go.Proofs.Ythgebchidkadhaa.Sp Go.Proofs.Ythgebchidkadhaa.QWal
set_option linter.unusedVariables false
set_option linter.unusedSimpArgs false
/-- Records in a row of slices that the caller built. -/
theorem lit_rows {w0 : World} {F : Hp} (b : Nat) (rs : List (List UInt8)) (vf : Nat → Option Addr × Nat) (cs : Array Value) (hcs : ∀ (j : Nat) (r : List UInt8), rs[j]? = some r → cs[j]? = some (Value.slice (vf j).1 r.length (vf j).2)) (fr : Nat × Nat) (hb : ∀ w', Holds w0 ((b, .cells cs 31 fr) :: F) w' → ∀ (j : Nat) (r : List UInt8), rs[j]? = some r → InB w' (vf j).1 (vf j).2 r) :
    ∃ Vf : Nat → Option Addr × Nat, ∀ w', Holds w0 ((b, .cells cs 31 fr) :: F) w' → ∀ j r, rs[j]? = some r → ∃ ad, some (⟨b, 0, none⟩ : Addr) = some ad ∧ w'.cell? (ad.add j) = some (.slice (Vf j).1 r.length (Vf j).2) ∧ InB w' (Vf j).1 (Vf j).2 r := by
  refine ⟨vf, fun w' H j r hj => ⟨_, rfl, ?_, hb w' H j r hj⟩⟩
  have e2 : (⟨b, 0, none⟩ : Addr).add j = ⟨b, j, none⟩ := by simp [Addr.add]; omega
  rw [e2, H.cell j]
  exact hcs j r hj
/-- The bytes of a literal. -/
theorem lit_inb {w0 w' : World} {F : Hp} (b n c : Nat) (r : List UInt8) (cs : Array Value) (fr : Nat × Nat) (hn : n = r.length) (hc : r.length ≤ c ∧ c ≤ maxLen) (hcs : ∀ (j : Nat) (u : Value), (bv r)[j]? = some u → cs[j]? = some u) (H : Holds w0 ((b, .cells cs 5 fr) :: F) w') : InB w' (some ⟨b, 0, none⟩) c r := by
  refine ⟨(fun h => by cases h), hc.1, hc.2, by simp [bv], (fun h => by cases h), fun ad had j u hj => ?_⟩
  injection had with had
  subst had
  have e2 : (⟨b, 0, none⟩ : Addr).add j = ⟨b, j, none⟩ := by simp [Addr.add]; omega
  rw [e2, H.cell j]
  exact hcs j u hj
theorem bv_single (x : UInt8) (z : Int) (hz : z = (x.toNat : Int)) : ∀ (j : Nat) (u : Value), (bv [x])[j]? = some u → (#[Value.int .u8 z] : Array Value)[j]? = some u := by
  subst hz
  intro j u hj
  match j, hj with
  | 0, hj => exact hj
  | j + 1, hj => simp [bv] at hj
theorem two_idx {r1 r2 : List UInt8} {P : Nat → List UInt8 → Prop} (h0 : P 0 r1) (h1 : P 1 r2) : ∀ j r, ([r1, r2] : List (List UInt8))[j]? = some r → P j r := by
  intro j r hj
  match j, hj with
  | 0, hj => obtain rfl : r1 = r := by simpa using hj
             exact h0
  | 1, hj => obtain rfl : r2 = r := by simpa using hj
             exact h1
  | j + 2, hj => simp at hj
def kd0 : DM := ⟨65536, 1, true, []⟩
def km0 : LM := logN 0 kd0 nL
def k1 := addM kd0 km0 []
def k2 := addM k1.2.1 k1.2.2 [[112], [113]]
def k3 := clearL k2.2.1 k2.2.2
def k4 := addM k3.2.1 k3.2.2 [[114]]
def kd5 := crM k4.2.1 99 0
def k6 := syncL kd5 k4.2.2
def kd7 := onM kd5
def k8 := addM kd7 k6.2.2 [[]]
theorem k1_1 : k1.1 = 0 := by kernel_rfl
theorem k2_1 : k2.1 = 0 := by kernel_rfl
theorem k3_1 : k3.1 = 0 := by kernel_rfl
theorem k6_1 : k6.1 = 7 := by kernel_rfl
theorem k8_1 : k8.1 = 7 := by kernel_rfl
theorem k1_m : k1.2.2.name = nL := by kernel_rfl
theorem k2_m : k2.2.2.name = nL := by kernel_rfl
theorem k3_m : k3.2.2.name = nL := by kernel_rfl
theorem k4_m : k4.2.2.name = nL := by kernel_rfl
theorem k6_m : k6.2.2.name = nL := by kernel_rfl
theorem k1_r : k1.2.2.recs = [] := by kernel_rfl
theorem k2_r : k2.2.2.recs = [[112], [113]] := by kernel_rfl
theorem k3_r : k3.2.2.recs = [] := by kernel_rfl
theorem k6_r : k6.2.2.recs = [[114]] := by kernel_rfl
theorem k1_n : k1.2.1.fl.length = 1 := by kernel_rfl
theorem k3_n : k3.2.1.fl.length = 1 := by kernel_rfl
theorem kd7_n : kd7.fl.length = 1 := by kernel_rfl
theorem kd0_no : (readM kd0 ⟨#[]⟩).2 = 1 := by kernel_rfl
theorem kd0_4 : (readM kd0 nL).2 = 4 := by kernel_rfl
theorem kat : atM kd0 km0 0 = ([], 4) := by kernel_rfl
theorem kof : ({ km0 with done := offM kd0 km0 } : LM) = km0 := by kernel_rfl
theorem kd5_7 : (readM kd5 nL).2 = 7 := by kernel_rfl
theorem kd5_l : kd5.lives = 1 := by kernel_rfl
theorem k6_d : k6.2.1 = kd5 := by kernel_rfl
theorem k8_d : k8.2.1 = kd7 := by kernel_rfl
theorem kd7_r : readM kd7 nL = (frsB [[114]], 0) := by kernel_rfl
theorem kd7_y : (syncM kd7 nL).1 = 0 := by kernel_rfl
def kz : List UInt8 := List.replicate 8001 0
theorem kz_len : kz.length = 8001 := List.length_replicate
theorem make8001 : ∃ MC : Array Value, MC.toList = bv kz ∧ ∀ w : World, (Instr.makeSlice 31 (.int .i64 8001) (.int .i64 8001)).run Try.prog w = .ok (.slice (some ⟨w.heap.size, 0, none⟩) 8001 8001) (w.alloc (.cells MC 5)) := by
  obtain ⟨i, h1, h2, h3, h4⟩ := info5
  refine ⟨madeCells (Value.int .u8 0).cells (8001 * 1), by rw [show (Value.int .u8 0).cells = #[Value.int .u8 0] from rfl, toList_madeCells_one]; unfold bv kz; rw [List.map_replicate]; rfl, fun w => ?_⟩
  have := run_make (P := Try.prog) w 31 5 i _ Try.underlying31 h1 h2 .i64 .i64 8001 8001 (by decide) (by decide) (by rw [h4]; decide) (by decide)
  rw [h3] at this
  exact this
theorem kbig : addM kd0 km0 [[120], kz] = (2, kd0, km0) := by
  unfold addM
  rw [if_neg (by rw [off_no _ _ rfl rfl rfl]; decide), if_pos]
  rw [List.any_eq_true]
  exact ⟨kz, by simp, by rw [kz_len]; decide⟩
set_option maxRecDepth 100000 in
set_option maxHeartbeats 8000000 in
theorem known_walk (w : World) : Calls Try.prog 6 #[] w fun e w' => e = .returned (.bool true) ∧ Below w.heap.size w w' := by
  have kc := fun (w : World) (C : Array Value) (n c : Nat) => Lib.run_convert_bytes_const (P := Try.prog) w 31 5 C n c Try.underlying31 Try.underlying5
  obtain ⟨MC, hMC, hmk⟩ := make8001
  have HMC := Lib.hid hMC
  clear hMC
  go_enter Try.func6, Try.ntmps6
  go_wp2_with fail
  refine (awake_calls w).mono ?_
  rintro e w0 ⟨rfl, hb⟩
  have HH0 := Lib.hid (Holds.of_below hb)
  clear hb
  go_wp2_with fail
  refine (new_calls 65536 (by omega) w w0 [] HH0.out).mono ?_
  rintro e w1 ⟨gd, rfl, hd, hD, hH⟩
  have HD := Lib.hid hD; have HH := Lib.hid hH
  clear hD hH
  go_wp2_with fail
  refine (open_no gd kd0 hd [] ⟨#[]⟩ w w1 (by decide) HD.out HH.out (by rw [kd0_no]; decide) (by rw [kd0_no]; decide)).mono ?_
  rintro e w2 ⟨rfl, hd2, hD2, hH2⟩
  rw [kd0_no]
  have HD2 := Lib.hid hD2; have HH2 := Lib.hid hH2
  clear hD2 hH2 HD HH
  go_wp2_with fail
  refine (open_none gd kd0 hd2 [] nL w w2 (by decide) HD2.out HH2.out kd0_4).mono ?_
  rintro e w3 ⟨gl, rfl, hl, hL, hd3, hD3, hH3⟩
  have HL := Lib.hid (show IsL gl gd km0 hl from hL); have HD3 := Lib.hid hD3; have HH3 := Lib.hid hH3
  clear hL hD3 hH3 HD2 HH2
  go_wp2_with fail
  have Ha := ((HH3.out.alloc (.cells #[.int .u8 120] 5 (1, 2))).alloc (.cells MC 5)).alloc (.cells #[.slice (some ⟨w3.heap.size, 0, none⟩) 1 1, .slice (some ⟨w3.heap.size + 1, 0, none⟩) 8001 8001] 31)
  have es : ((w3.alloc (.cells #[.int .u8 120] 5 (1, 2))).alloc (.cells MC 5)).heap.size = w3.heap.size + 1 + 1 := by simp
  have es1 : (w3.alloc (.cells #[.int .u8 120] 5 (1, 2))).heap.size = w3.heap.size + 1 := by simp
  rw [es, es1] at Ha
  have hmc2 : ∀ (j : Nat) (u : Value), (bv kz)[j]? = some u → MC[j]? = some u := by intro j u hj; rw [← Array.getElem?_toList, HMC.out]; exact hj
  refine (add_calls gl gd kd0 km0 [[120], kz] (some ⟨w3.heap.size + 1 + 1, 0, none⟩) 2 hl hd3 [(w3.heap.size + 1 + 1, .cells #[.slice (some ⟨w3.heap.size, 0, none⟩) 1 1, .slice (some ⟨w3.heap.size + 1, 0, none⟩) 8001 8001] 31), (w3.heap.size, .cells #[.int .u8 120] 5 (1, 2)), (w3.heap.size + 1, .cells MC 5)] w _ (show nL.size ≤ _ by decide) (by decide) (by intro r hr; simp only [List.mem_cons, List.not_mem_nil, or_false] at hr; rcases hr with rfl | rfl; decide; rw [kz_len]; decide) (show ([] : List (List UInt8)).length ≤ _ by decide) (show ([] : List (ByteArray × Fl)).length < _ by decide)
    (lit_rows _ [[120], kz] (fun j => if j = 0 then (some ⟨w3.heap.size, 0, none⟩, 1) else (some ⟨w3.heap.size + 1, 0, none⟩, 8001)) _ (two_idx rfl (by rw [kz_len]; rfl)) _ (fun w' H => two_idx (lit_inb _ 1 1 [120] _ (1, 2) rfl (by decide) (bv_single 120 120 (by decide)) H.tail) (lit_inb _ 8001 8001 kz _ (0, 0) kz_len.symm (by rw [kz_len]; decide) hmc2 H.tail.tail))) HL.out HD3.out (Ha.perm (by classical rw [List.perm_iff_count]; intro a; simp only [List.count_append, List.count_cons, List.count_nil]; omega))).mono ?_
  rintro e w4 ⟨rfl, h4, hL4, hd4, hD4, hH4⟩
  rw [kbig] at hL4 hD4 ⊢
  have HL4 := Lib.hid hL4; have HD4 := Lib.hid hD4
  have HH4 := Lib.hid (show Holds w (h4 ++ (hd4 ++ [])) w4 from hH4.sub (List.Sublist.append (List.Sublist.refl h4) (List.Sublist.append (List.Sublist.refl hd4) (List.nil_sublist _))))
  clear hL4 hD4 hH4 HL HD3 HH3 Ha es es1 hmc2 hmk
  go_wp2_with fail
  refine (llen_calls gl gd _ h4 _ w w4 HL4.out HH4.out).mono ?_
  rintro e w5 ⟨rfl, hw⟩
  rw [hw, show km0.recs.length = 0 from rfl]
  clear hw w5
  go_wp2_with fail
  refine (lat_calls gl gd kd0 km0 0 h4 hd4 [] w w4 (by intro r hr; cases hr) HL4.out HD4.out HH4.out).mono ?_
  rintro e w5 ⟨v, he, hv, hR, h5, hL5, hH5⟩
  rw [kat] at he hR
  rw [kof] at hL5
  subst he
  have HL5 := Lib.hid hL5; have HH5 := Lib.hid hH5.right
  clear hL5 hH5 hR HL4 HH4
  go_wp2_with fail
  refine (add_calls gl gd kd0 km0 [] none 0 h5 hd4 [] w w5 (show nL.size ≤ _ by decide) (by decide) (by decide) (show ([] : List (List UInt8)).length ≤ _ by decide) (show ([] : List (ByteArray × Fl)).length < _ by decide) ⟨fun _ => (none, 0), fun w' _ j r hj => by simp at hj⟩ HL5.out HD4.out HH5.out).mono ?_
  rintro e w6 ⟨rfl, h6, hL6, hd6, hD6, hH6⟩
  rw [show (addM kd0 km0 []).1 = 0 from k1_1]
  have HL6 := Lib.hid (show IsL gl gd k1.2.2 h6 from hL6); have HD6 := Lib.hid (show IsD gd k1.2.1 hd6 from hD6); have HH6 := Lib.hid hH6
  clear hL6 hD6 hH6 HL5 HD4 HH5
  have kc2 := kc (w6.alloc (.cells #[.int .u8 112] 5 (1, 2))) #[.int .u8 113] 1 1
  rw [show (w6.alloc (.cells #[.int .u8 112] 5 (1, 2))).heap.size = w6.heap.size + 1 by simp] at kc2
  go_wp2_with fail
  clear kc2
  have Ha := ((HH6.out.alloc (.cells #[.int .u8 112] 5 (1, 2))).alloc (.cells #[.int .u8 113] 5 (1, 2))).alloc (.cells #[.slice (some ⟨w6.heap.size, 0, none⟩) 1 1, .slice (some ⟨w6.heap.size + 1, 0, none⟩) 1 1] 31)
  have es : ((w6.alloc (.cells #[.int .u8 112] 5 (1, 2))).alloc (.cells #[.int .u8 113] 5 (1, 2))).heap.size = w6.heap.size + 1 + 1 := by simp
  have es1 : (w6.alloc (.cells #[.int .u8 112] 5 (1, 2))).heap.size = w6.heap.size + 1 := by simp
  rw [es, es1] at Ha
  refine (add_calls gl gd k1.2.1 k1.2.2 [[112], [113]] (some ⟨w6.heap.size + 1 + 1, 0, none⟩) 2 h6 hd6 [(w6.heap.size + 1 + 1, .cells #[.slice (some ⟨w6.heap.size, 0, none⟩) 1 1, .slice (some ⟨w6.heap.size + 1, 0, none⟩) 1 1] 31), (w6.heap.size, .cells #[.int .u8 112] 5 (1, 2)), (w6.heap.size + 1, .cells #[.int .u8 113] 5 (1, 2))] w _ (by rw [k1_m]; decide) (by decide) (by decide) (by rw [k1_r]; decide) (by rw [k1_n]; decide)
    (lit_rows _ [[112], [113]] (fun j => if j = 0 then (some ⟨w6.heap.size, 0, none⟩, 1) else (some ⟨w6.heap.size + 1, 0, none⟩, 1)) _ (two_idx rfl rfl) _ (fun w' H => two_idx (lit_inb _ 1 1 [112] _ (1, 2) rfl (by decide) (bv_single 112 112 (by decide)) H.tail) (lit_inb _ 1 1 [113] _ (1, 2) rfl (by decide) (bv_single 113 113 (by decide)) H.tail.tail))) HL6.out HD6.out (Ha.perm (by classical rw [List.perm_iff_count]; intro a; simp only [List.count_append, List.count_cons, List.count_nil]; omega))).mono ?_
  rintro e w7 ⟨rfl, h7, hL7, hd7, hD7, hH7⟩
  rw [show (addM k1.2.1 k1.2.2 [[112], [113]]).1 = 0 from k2_1]
  have HL7 := Lib.hid (show IsL gl gd k2.2.2 h7 from hL7); have HD7 := Lib.hid (show IsD gd k2.2.1 hd7 from hD7)
  have HH7 := Lib.hid (show Holds w (h7 ++ (hd7 ++ [])) w7 from hH7.sub (List.Sublist.append (List.Sublist.refl h7) (List.Sublist.append (List.Sublist.refl hd7) (List.nil_sublist _))))
  clear hL7 hD7 hH7 HL6 HD6 HH6 Ha es es1
  go_wp2_with fail
  refine (llen_calls gl gd _ h7 _ w w7 HL7.out HH7.out).mono ?_
  rintro e w8 ⟨rfl, hw⟩
  rw [hw, k2_r]
  clear hw w8
  go_wp2_with fail
  refine (lclear_calls gl gd k2.2.1 k2.2.2 h7 hd7 [] w w7 (by rw [k2_m]; decide) HL7.out HD7.out HH7.out).mono ?_
  rintro e w8 ⟨rfl, h8, hL8, hd8, hD8, hH8⟩
  rw [show (clearL k2.2.1 k2.2.2).1 = 0 from k3_1]
  have HL8 := Lib.hid (show IsL gl gd k3.2.2 h8 from hL8); have HD8 := Lib.hid (show IsD gd k3.2.1 hd8 from hD8); have HH8 := Lib.hid hH8
  clear hL8 hD8 hH8 HL7 HD7 HH7
  go_wp2_with fail
  refine (llen_calls gl gd _ h8 _ w w8 HL8.out HH8.out).mono ?_
  rintro e w9 ⟨rfl, hw⟩
  rw [hw, k3_r]
  clear hw w9
  go_wp2_with fail
  obtain ⟨Vf, hVf⟩ := one_row (w0 := w) (G := []) w8.heap.size (w8.heap.size + 1) 114 114 1 (by decide) (1, 2) (by decide)
  have Ha := HH8.out.alloc2 (.cells #[.int .u8 114] 5 (1, 2)) (.cells #[.slice (some ⟨w8.heap.size, 0, none⟩) 1 1] 31)
  refine (add_calls gl gd k3.2.1 k3.2.2 [[114]] (some ⟨w8.heap.size + 1, 0, none⟩) 1 h8 hd8 [(w8.heap.size + 1, .cells #[.slice (some ⟨w8.heap.size, 0, none⟩) 1 1] 31), (w8.heap.size, .cells #[.int .u8 114] 5 (1, 2))] w _ (by rw [k3_m]; decide) (by decide) (by decide) (by rw [k3_r]; decide) (by rw [k3_n]; decide) ⟨Vf, hVf⟩ HL8.out HD8.out (Ha.perm (by classical rw [List.perm_iff_count]; intro a; simp only [List.count_append, List.count_cons, List.count_nil]; omega))).mono ?_
  rintro e w9 ⟨rfl, h9, hL9, hd9, hD9, hH9⟩
  have HL9 := Lib.hid (show IsL gl gd k4.2.2 h9 from hL9); have HD9 := Lib.hid (show IsD gd k4.2.1 hd9 from hD9)
  have HH9 := Lib.hid (show Holds w (h9 ++ (hd9 ++ [])) w9 from hH9.sub (List.Sublist.append (List.Sublist.refl h9) (List.Sublist.append (List.Sublist.refl hd9) (List.nil_sublist _))))
  clear hL9 hD9 hH9 HL8 HD8 HH8 Ha hVf
  go_wp2_with fail
  refine (crash_calls gd _ hd9 h9 99 0 w w9 HD9.out (HH9.out.perm (by classical rw [List.perm_iff_count]; intro a; simp only [List.count_append, List.count_cons, List.count_nil]; omega))).mono ?_
  rintro e w10 ⟨rfl, hd10, hD10, hH10⟩
  have HD10 := Lib.hid (show IsD gd kd5 hd10 from hD10); have HH10 := Lib.hid (show Holds w (h9 ++ (hd10 ++ [])) w10 from hH10.perm (by classical rw [List.perm_iff_count]; intro a; simp only [List.count_append, List.count_cons, List.count_nil]; omega))
  clear hD10 hH10 HD9 HH9
  go_wp2_with fail
  refine (lsync_calls gl gd kd5 k4.2.2 h9 hd10 [] w w10 (by rw [k4_m]; decide) HL9.out HD10.out HH10.out).mono ?_
  rintro e w11 ⟨rfl, h11, hL11, hd11, hD11, hH11⟩
  rw [show (syncL kd5 k4.2.2).1 = 7 from k6_1]
  have HL11 := Lib.hid (show IsL gl gd k6.2.2 h11 from hL11); have HD11 := Lib.hid (show IsD gd kd5 hd11 by rw [← k6_d]; exact hD11); have HH11 := Lib.hid hH11
  clear hL11 hD11 hH11 HL9 HD10 HH10
  go_wp2_with fail
  refine (open_no gd kd5 hd11 h11 nL w w11 (by decide) HD11.out (HH11.out.perm (by classical rw [List.perm_iff_count]; intro a; simp only [List.count_append, List.count_cons, List.count_nil]; omega)) (by rw [kd5_7]; decide) (by rw [kd5_7]; decide)).mono ?_
  rintro e w12 ⟨rfl, hd12, hD12, hH12⟩
  rw [kd5_7]
  have HD12 := Lib.hid hD12; have HH12 := Lib.hid hH12
  clear hD12 hH12 HD11 HH11
  go_wp2_with fail
  refine (on_calls gd _ hd12 _ w w12 (by rw [kd5_l]; decide) HD12.out HH12.out).mono ?_
  rintro e w13 ⟨rfl, hd13, hD13, hH13⟩
  have HD13 := Lib.hid (show IsD gd kd7 hd13 from hD13); have HH13 := Lib.hid hH13
  clear hD13 hH13 HD12 HH12
  go_wp2_with fail
  have Ha := HH13.out.alloc (.cells #[.slice none 0 0] 31)
  refine (add_calls gl gd kd7 k6.2.2 [[]] (some ⟨w13.heap.size, 0, none⟩) 1 h11 hd13 [(w13.heap.size, .cells #[.slice none 0 0] 31)] w _ (by rw [k6_m]; decide) (by decide) (by decide) (by rw [k6_r]; decide) (by rw [kd7_n]; decide)
    (lit_rows _ [[]] (fun _ => (none, 0)) _ (by
      intro j r hj
      match j, hj with
      | 0, hj =>
        obtain rfl : [] = r := by simpa using hj
        rfl
      | j + 1, hj => simp at hj) _ (by
      intro w' H j r hj
      match j, hj with
      | 0, hj =>
        obtain rfl : [] = r := by simpa using hj
        exact ⟨fun _ => rfl, Nat.le_refl _, by decide, rfl, fun _ => rfl, (fun ad h => by cases h)⟩
      | j + 1, hj => simp at hj)) HL11.out HD13.out (Ha.perm (by classical rw [List.perm_iff_count]; intro a; simp only [List.count_append, List.count_cons, List.count_nil]; omega))).mono ?_
  rintro e w14 ⟨rfl, h14, hL14, hd14, hD14, hH14⟩
  rw [show (addM kd7 k6.2.2 [[]]).1 = 7 from k8_1]
  have HD14 := Lib.hid (show IsD gd kd7 hd14 by rw [← k8_d]; exact hD14)
  have HH14 := Lib.hid (show Holds w (hd14 ++ []) w14 from hH14.right.sub (List.Sublist.append (List.Sublist.refl hd14) (List.nil_sublist _)))
  clear hL14 hD14 hH14 HL11 HD13 HH13 Ha
  go_wp2_with fail
  refine (open_whole gd kd7 hd14 _ nL w w14 (by decide) HD14.out HH14.out 100000 [[114]] ((frsB [[114]]).length : Int) (by rw [kd7_r]) (by rw [kd7_r]; decide +kernel) (by rw [kd7_r]; exact scan_all [[114]] (by decide) (by decide)) kd7_y).mono ?_
  rintro e w15 ⟨gk, rfl, h15, hL15, hd15, hD15, hH15⟩
  have HL15 := Lib.hid hL15; have HH15 := Lib.hid hH15
  clear hL15 hD15 hH15 HD14 HH14
  go_wp2_with fail
  refine (llen_calls gk gd _ h15 _ w w15 HL15.out HH15.out).mono ?_
  rintro e w16 ⟨rfl, hw⟩
  rw [hw]
  clear hw w16
  go_wp2_with fail
  refine (lsafe_calls gk gd _ h15 _ w w15 HL15.out HH15.out).mono ?_
  rintro e w16 ⟨rfl, hw⟩
  rw [hw]
  clear hw w16
  go_wp2_with fail
  go_ret
  exact ⟨rfl, HH15.out.below⟩
end Go.Proofs.Ythgebchidkadhaa
