/- A disk with one file, named w: what the disk's and the log's calls make of it. Conditions: each theorem's own. -/
import Derived.Test.YthgebchidkadhaaAd
import Derived.Test.YthgebchidkadhaaOp
import Derived.Test.YthgebchidkadhaaLa
namespace Go.Proofs.Ythgebchidkadhaa
open Go.RowKit Go.Proofs.Ythgebchidkadhaa.Sp Go.Proofs.Ythgebchidkadhaa.QWal
set_option linter.unusedVariables false
set_option linter.unusedSimpArgs false
def nL : ByteArray := ⟨#[108, 111, 103]⟩
def nW : ByteArray := ⟨#[119]⟩
def dW (room lives : Int) (p : Bool) (f : Fl) : DM := ⟨room, lives, p, [(nW, f)]⟩
theorem good_nW : goodN nW = true := by kernel_rfl
theorem find_dW (f : Fl) : ([(nW, f)] : List (ByteArray × Fl)).find? (namedM nW) = some (nW, f) := by simp [namedM]
theorem set_dW (f f' : Fl) : setM nW f' [(nW, f)] = [(nW, f')] := by simp [setM]
theorem tot_dW (f : Fl) : totM [(nW, f)] = f.b.length := by simp [totM]
theorem app_nil (room lives : Int) (d : List UInt8) : appM ⟨room, lives, true, []⟩ nW d = if room < (d.length : Int) then (6, ⟨room, lives, true, []⟩) else (0, dW room lives true ⟨d, 0⟩) := by
  unfold appM
  simp only [good_nW, if_true]
  have e : room - ((totM [] : Nat) : Int) = room := by simp [totM]
  rw [e]
  rfl
theorem app_one (room lives : Int) (f : Fl) (d : List UInt8) : appM (dW room lives true f) nW d = if room - f.b.length < (d.length : Int) then (6, dW room lives true f) else (0, dW room lives true ⟨f.b ++ d, f.safe⟩) := by
  unfold appM dW
  simp only [good_nW, if_true, find_dW, set_dW, tot_dW]
theorem findM_one (room lives : Int) (f : Fl) : findM (dW room lives true f) nW = (0, some f) := by
  unfold findM dW
  simp [good_nW, namedM, mayE]
theorem findM_nil (room lives : Int) : findM ⟨room, lives, true, []⟩ nW = (4, none) := by
  unfold findM
  simp [good_nW, mayE]
theorem read_one (room lives : Int) (f : Fl) : readM (dW room lives true f) nW = (f.b, 0) := by unfold readM; rw [findM_one]
theorem read_nil (room lives : Int) : readM ⟨room, lives, true, []⟩ nW = ([], 4) := by unfold readM; rw [findM_nil]
theorem sync_one (room lives : Int) (f : Fl) : syncM (dW room lives true f) nW = (0, dW room lives true ⟨f.b, f.b.length⟩) := by
  unfold syncM; rw [findM_one]; simp only [dW, set_dW]
theorem sync_nil (room lives : Int) : syncM ⟨room, lives, true, []⟩ nW = (4, ⟨room, lives, true, []⟩) := by unfold syncM; rw [findM_nil]
theorem cut_one (room lives : Int) (f : Fl) (n : Nat) (hn : n ≤ f.b.length) : cutM (dW room lives true f) nW (n : Int) = (0, dW room lives true ⟨f.b.take n, min f.safe n⟩) := by
  unfold cutM; rw [findM_one]
  simp only
  rw [if_neg (by omega)]
  simp only [dW, set_dW, Int.toNat_natCast]
theorem crash_one (room lives : Int) (p : Bool) (f : Fl) (keep : Int) (torn : UInt8) : onM (crM (dW room lives p f) keep torn) = dW room (lives + 1) true (crF keep torn f) := rfl
theorem crash_nil (room lives : Int) (p : Bool) (keep : Int) (torn : UInt8) : onM (crM ⟨room, lives, p, []⟩ keep torn) = ⟨room, lives + 1, true, []⟩ := rfl
/-- A log whose disk is up, of the same life. -/
theorem off_no (d : DM) (m : LM) (h1 : d.power = true) (h2 : d.lives = m.lives) (h3 : m.done = false) : offM d m = false := by unfold offM; rw [h1, h2, h3]; simp
theorem any_no (rs : List (List UInt8)) (h : ∀ r ∈ rs, r.length ≤ 8000) : ¬ rs.any (fun r => decide (8000 < r.length)) = true := by
  rw [List.any_eq_true]
  rintro ⟨r, h1, h2⟩
  have := h r h1
  simp at h2
  omega
def lW (rs : List (List UInt8)) (safe lives : Int) : LM := ⟨nW, rs, safe, lives, false⟩
theorem add_nil (room lives : Int) (rs : List (List UInt8)) (safe : Int) (h : ∀ r ∈ rs, r.length ≤ 8000) : addM ⟨room, lives, true, []⟩ (lW [] safe lives) rs = if room < ((frsB rs).length : Int) then (6, ⟨room, lives, true, []⟩, ⟨nW, [], safe, lives, true⟩) else (0, dW room lives true ⟨frsB rs, 0⟩, lW rs safe lives) := by
  unfold addM
  rw [if_neg (by rw [off_no _ _ rfl rfl rfl]; decide), if_neg (any_no rs h), show (lW [] safe lives).name = nW from rfl, app_nil]
  split
  · rw [if_neg (show ¬ (6 : Int) = 0 by decide)]; rfl
  · rw [if_pos rfl]; rfl
theorem add_one (room lives : Int) (f : Fl) (rs0 rs : List (List UInt8)) (safe : Int) (h : ∀ r ∈ rs, r.length ≤ 8000) (hr : ¬ room - f.b.length < ((frsB rs).length : Int)) : addM (dW room lives true f) (lW rs0 safe lives) rs = (0, dW room lives true ⟨f.b ++ frsB rs, f.safe⟩, lW (rs0 ++ rs) safe lives) := by
  unfold addM
  rw [if_neg (by rw [off_no _ _ rfl rfl rfl]; decide), if_neg (any_no rs h), show (lW rs0 safe lives).name = nW from rfl, app_one, if_neg hr, if_pos rfl]
  rfl
theorem syncL_one (room lives : Int) (f : Fl) (rs : List (List UInt8)) (safe : Int) : syncL (dW room lives true f) (lW rs safe lives) = (0, dW room lives true ⟨f.b, f.b.length⟩, lW rs rs.length lives) := by
  unfold syncL
  rw [if_neg (by rw [off_no _ _ rfl rfl rfl]; decide), show (lW rs safe lives).name = nW from rfl, sync_one, if_pos (Or.inr rfl)]
  rfl
theorem clearL_one (room lives : Int) (f : Fl) (rs : List (List UInt8)) (safe : Int) : clearL (dW room lives true f) (lW rs safe lives) = (0, dW room lives true ⟨[], 0⟩, lW [] 0 lives) := by
  unfold clearL
  have : cutM (dW room lives true f) nW 0 = (0, dW room lives true ⟨f.b.take 0, min f.safe 0⟩) := cut_one room lives f 0 (Nat.zero_le _)
  rw [if_neg (by rw [off_no _ _ rfl rfl rfl]; decide), show (lW rs safe lives).name = nW from rfl, this, if_pos (Or.inr rfl)]
  simp [lW]
theorem logN_W (gd : Nat) (room lives : Int) (p : Bool) (fl : List (ByteArray × Fl)) : logN gd ⟨room, lives, p, fl⟩ nW = lW [] 0 lives := rfl
theorem at_one (d : DM) (rs : List (List UInt8)) (safe : Int) (k : Nat) (r : List UInt8) (h1 : d.power = true) (hr : rs[k]? = some r) : atM d (lW rs safe d.lives) (k : Int) = (r, 0) := by
  unfold atM
  have hk := (List.getElem?_eq_some_iff.mp hr).1
  rw [if_neg (by rw [off_no _ _ h1 rfl rfl]; decide), if_neg (by
    rintro (h | h)
    · omega
    · have h : (rs.length : Int) ≤ k := h
      omega)]
  simp [lW, hr]
theorem bbs_vf {w : World} {F : Hp} {A : Option Addr} {l : List (List UInt8)} (h : InBs w A l) : ∃ Vf : Nat → Option Addr × Nat, ∀ w', Holds w F w' → ∀ j r, l[j]? = some r → ∃ ad, A = some ad ∧ w'.cell? (ad.add j) = some (.slice (Vf j).1 r.length (Vf j).2) ∧ InB w' (Vf j).1 (Vf j).2 r := by
  have h1 : ∀ j, ∃ p : Option Addr × Nat, ∀ r, l[j]? = some r → ∃ ad, A = some ad ∧ w.cell? (ad.add j) = some (.slice p.1 r.length p.2) ∧ InB w p.1 p.2 r := by
    intro j
    cases hj : l[j]? with
    | none => exact ⟨(none, 0), fun r h => by cases h⟩
    | some r0 =>
      obtain ⟨ad, Aj, Cj, e, hc, hi⟩ := h j r0 hj
      exact ⟨(Aj, Cj), fun r hr => by obtain rfl := Option.some.inj hr; exact ⟨ad, e, hc, hi⟩⟩
  obtain ⟨Vf, hV⟩ := Classical.axiomOfChoice h1
  refine ⟨Vf, fun w' H j r hr => ?_⟩
  obtain ⟨ad, e, hc, hi⟩ := hV j r hr
  exact ⟨ad, e, (H.below.cell (World.block_lt_of_cell? w _ hc)).trans hc, hi.1, hi.2.1, hi.2.2.1, hi.at_ H⟩
end Go.Proofs.Ythgebchidkadhaa
