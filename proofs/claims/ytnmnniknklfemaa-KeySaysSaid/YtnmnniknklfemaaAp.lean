/- slices.AppendSeq, Collect, SortedFunc at keys over an iterator that SeqB speaks of: a new slice of the same keys in order. No condition other than the reach. -/
import Derived.Test.YtnmnniknklfemaaSv
import Derived.Shelf.SlIterI.Sorted
namespace Go.Proofs.Ytnmnniknklfemaa
open Go.RowKit Go.Maps Go.Sort Go.Shelf
open Sp (RowB Hp Reads row_append apL)
attribute [local go_sem] Oper.semAt_some
set_option linter.unusedVariables false
set_option linter.unusedSimpArgs false

def apAssign : Code := (Code.region 2 #[{ dst := some 5, op := Op.alloc 23, type := 0, pos := "iter.go:51", after := #[], guard := none }, { dst := none, op := Op.store 23 (Operand.tmp 5) (Operand.tmp 7), type := 0, pos := "iter.go:51", after := #[{ on := 0, ground := Ground.data }, { on := 0, ground := Ground.phase }], guard := none }] false)
def apBody : Code := (Code.block 1 (Code.region 3 #[{ dst := some 8, op := Op.load 35 (Operand.tmp 2), type := 35, pos := "iter.go:52", after := #[], guard := none }, { dst := some 9, op := Op.load 23 (Operand.tmp 5), type := 23, pos := "iter.go:52", after := #[], guard := none }, { dst := some 10, op := Op.buildSlice 35 1 #[(0, Operand.tmp 9)], type := 35, pos := "iter.go:52", after := #[{ on := 1, ground := Ground.data }], guard := none }, { dst := some 11, op := Op.call { callee := Callee.builtin Builtin.append, args := #[Operand.tmp 8, Operand.tmp 10], argTypes := #[35, 35] }, type := 35, pos := "iter.go:52", after := #[{ on := 0, ground := Ground.data }, { on := 2, ground := Ground.data }], guard := none }, { dst := none, op := Op.store 35 (Operand.tmp 2) (Operand.tmp 11), type := 0, pos := "iter.go:52", after := #[{ on := 3, ground := Ground.data }, { on := 3, ground := Ground.chain }, { on := 0, ground := Ground.phase }, { on := 1, ground := Ground.phase }, { on := 2, ground := Ground.phase }, { on := 3, ground := Ground.phase }], guard := none }] false))
def apRec (fn : FuncId) (sv : Value) (Bs D : Nat) (st : LoopState) : Loop :=
  { state := st, pending := none, fn, tmps := #[.slice none 0 0, sv, .pointer (some ⟨Bs, 0, none⟩), undef, .slice none 0 0, undef, sv, undef, undef, undef, undef, undef, undef], params := #[7], assign := apAssign, body := apBody, defers := D }
def ApAt (w0 : World) (fn : FuncId) (sv : Value) (Bs l D : Nat) (ss : List K16) (W : World) : Prop :=
  ∃ v h, RowB 23 16 v ss.length (flat ss) h ∧ Sp.Holds w0 (h ++ [(Bs, .cells #[v] 35), (l, .loop (apRec fn sv Bs D .ready)), (D, .deferred (some []))]) W

theorem run_bs (l : List UInt8) (w : World) : (Instr.buildSlice 35 1 #[(0, .agg (kv l))]).run Try.prog w = .ok (.slice (some ⟨w.heap.size, 0, none⟩) 1 1) (w.alloc (.cells (kv l) 23)) := by
  rw [show kv l = #[.int .u8 (kb l 0), .int .u8 (kb l 1), .int .u8 (kb l 2), .int .u8 (kb l 3), .int .u8 (kb l 4), .int .u8 (kb l 5), .int .u8 (kb l 6), .int .u8 (kb l 7), .int .u8 (kb l 8), .int .u8 (kb l 9), .int .u8 (kb l 10), .int .u8 (kb l 11), .int .u8 (kb l 12), .int .u8 (kb l 13), .int .u8 (kb l 14), .int .u8 (kb l 15)] from rfl]
  simp [go_sem]
theorem bsI {F : Fence} {nF : Nat} {ops : Array Oper} {rest : List Oper} {o : Oper} {a : Act} {w : World} {Q : Exit → Act → World → Prop} (x : Operand) (hgd : o.guard = none) (ho : o.op = .buildSlice 35 1 #[(0, x)]) (l : List UInt8) (hx : a.eval x = .agg (kv l))
    (hh : wpListIn F nF Try.prog ops Q rest (a.put o.dst (.slice (some ⟨w.heap.size, 0, none⟩) 1 1)) (w.alloc (.cells (kv l) 23))) : wpListIn F nF Try.prog ops Q (o :: rest) a w := by
  refine wpListIn_plain hgd fun K hK => ?_
  unfold Oper.wpIn
  refine ⟨by simp [Oper.about, ho], ?_⟩
  rw [Oper.semAt_plain F _ _ (by rw [ho]; intro c hc'; cases hc')]
  unfold execOp
  simp only [ho, List.map_toArray, List.map_cons, List.map_nil, hx, Sem.run_bind, Sem.run_pure, Result.andThen_ok, run_bs]
  exact hK _ _ hh
theorem reads_k {w0 w : World} {F : Hp} {g : Nat} {x : K16} (H : Sp.Holds w0 ((g, .cells (kv x.1) 23) :: F) w) : Reads w (some ⟨g, 0, none⟩) 1 16 (encK x) := by
  refine ⟨rfl, (fun h => by cases h), fun ad had j u hj => ?_⟩
  injection had with had
  subst had
  have e : (⟨g, 0, none⟩ : Addr).add j = ⟨g, j, none⟩ := by simp [Addr.add]; omega
  rw [e, H.cell j, ← Array.getElem?_toList]
  exact hj
/-- append inside a round. -/
theorem apI {F : Fence} {nF : Nat} {ops : Array Oper} {rest : List Oper} {o : Oper} {a : Act} {w w' : World} {Q : Exit → Act → World → Prop} (s x : Operand) {t u : TypeId} {v v1 v' : Value} (hgd : o.guard = none)
    (ho : o.op = .call { callee := .builtin .append, args := #[s, x], argTypes := #[t, u] }) (hs : a.eval s = v) (hx : a.eval x = v1) (hrun : (Builtin.append_ #[t, u] o.type #[v, v1]).run Try.prog w = .ok v' w')
    (hh : wpListIn F nF Try.prog ops Q rest (a.put o.dst v') w') : wpListIn F nF Try.prog ops Q (o :: rest) a w := by
  refine wpListIn_plain hgd fun K' hK' => ?_
  unfold Oper.wpIn
  refine ⟨by simp [Oper.about, ho]; intro f hf; simp [resolve, Target.leads, Sem.run_bind, Sem.run_pure] at hf, ?_⟩
  rw [Oper.semAt_plain F _ _ (by rw [ho]; intro c hc'; cases hc')]
  unfold execOp
  simp only [ho, resolve, invoke, builtin, Sem.run_bind, Sem.run_pure, Result.andThen_ok, List.map_toArray, List.map_cons, List.map_nil, hs, hx, hrun]
  exact hK' _ _ hh
set_option maxRecDepth 100000 in
set_option maxHeartbeats 2000000 in
theorem apYield (F : Fence) (m : Nat) (w0 : World) (fn : FuncId) (hfn : F.fn fn) (sv : Value) (Bs l D N : Nat) (hN : N ≤ 90000) (ss : List K16) (x : K16) (W : World) (h : ApAt w0 fn sv Bs l D ss W) (hlen : ss.length < N) :
    YieldAt F m Try.prog l #[vK x] W fun e W' => e = .returned (.bool true) ∧ ApAt w0 fn sv Bs l D (ss ++ [x]) W' := by
  obtain ⟨v, hr, R, H⟩ := h
  have H1 : Sp.Holds w0 ((l, .loop (apRec fn sv Bs D .ready)) :: (hr ++ [(Bs, .cells #[v] 35), (D, .deferred (some []))])) W := H.perm (by classical rw [List.perm_iff_count]; intro a; simp only [List.count_append, List.count_cons, List.count_nil]; omega)
  refine ⟨fn, #[.slice none 0 0, sv, .pointer (some ⟨Bs, 0, none⟩), undef, .slice none 0 0, undef, sv, vK x, undef, undef, undef, undef, undef], apAssign, apBody, by simpa [apRec] using run_yield (P := Try.prog) (args := #[vK x]) H1.get rfl, roundIn_of_wpIn hfn ?_⟩
  have HA := H1.alloc (.cells (kv []) 23)
  obtain ⟨W1, hW1⟩ : ∃ W1, W1 = (W.alloc (.cells (kv []) 23)).setRow W.heap.size (kv x.1) := ⟨_, rfl⟩
  have HB : Sp.Holds w0 ((W.heap.size, .cells (kv x.1) 23) :: (l, .loop (apRec fn sv Bs D .ready)) :: (hr ++ [(Bs, .cells #[v] 35), (D, .deferred (some []))])) W1 := by rw [hW1]; exact HA.turn (Sp.row_grown _ _ _) (setRow_heap _ _ _ _ _ _ HA.get)
  have hbr := run_beginRound (P := Try.prog) HB.tail.get rfl
  obtain ⟨W2, hW2⟩ : ∃ W2, W1.putObj l (.loop { apRec fn sv Bs D .ready with state := .busy }) = W2 := ⟨_, rfl⟩
  rw [hW2] at hbr
  have H2 : Sp.Holds w0 ((l, .loop (apRec fn sv Bs D .busy)) :: ((W.heap.size, .cells (kv x.1) 23) :: (hr ++ [(Bs, .cells #[v] 35), (D, .deferred (some []))]))) W2 := (HB.perm (List.Perm.swap _ _ _)).turn (by rw [← hW2]; exact grownBy_putObj_a _ _ _) (by rw [← hW2]; exact World.putObj_heap_same HB.tail.lt)
  have HH2 := Lib.hid H2
  have HR := Lib.hid R
  have H3 := Lib.hid (H2.perm (k := (Bs, .cells #[v] 35) :: ((W.heap.size, .cells (kv x.1) 23) :: (hr ++ [(l, .loop (apRec fn sv Bs D .busy)), (D, .deferred (some []))]))) (by classical rw [List.perm_iff_count]; intro a; simp only [List.count_append, List.count_cons, List.count_nil] <;> omega))
  rw [hW1] at hbr
  have hc2 := H3.out.cell 0
  have hf2 := H3.out.froz 0
  obtain ⟨g, hg⟩ : ∃ g, g = W.heap.size := ⟨_, rfl⟩
  clear hW2 H HA HB H2 H1 R
  unfold apAssign
  gi_wp2_with (first
        | ((with_reducible refine stI (.tmp 5) (.tmp 7) rfl rfl W.heap.size x.1 [] ?_ ?_ (World.alloc_heap_new _ _) ?_); rfl; rfl)
        | gi_round_op_a)
  refine ⟨W2, hbr, ?_⟩
  have HK2 := Lib.hid (HH2.out.tail.get)
  have H4 := H3.out.alloc (.cells (kv x.1) 23)
  obtain ⟨A, cA, rfl, hA1, hA2⟩ := RowB.form HR.out
  obtain ⟨v8, h8, w8, r1, r2, r3⟩ := app_k HR.out (H4.perm (k := hr ++ ((W2.heap.size, .cells (kv x.1) 23) :: [(Bs, .cells #[.slice A ss.length cA] 35), (W.heap.size, .cells (kv x.1) 23), (l, .loop (apRec fn sv Bs D .busy)), (D, .deferred (some []))])) (by classical rw [List.perm_iff_count]; intro a; simp only [List.count_append, List.count_cons, List.count_nil] <;> omega)) (some ⟨W2.heap.size, 0, none⟩) 1 1 (fun h => by cases h) (encK x) (reads_k (H4.perm (k := (W2.heap.size, .cells (kv x.1) 23) :: (hr ++ [(Bs, .cells #[.slice A ss.length cA] 35), (W.heap.size, .cells (kv x.1) 23), (l, .loop (apRec fn sv Bs D .busy)), (D, .deferred (some []))])) (by classical rw [List.perm_iff_count]; intro a; simp only [List.count_append, List.count_cons, List.count_nil] <;> omega))) (encK_one x) (by omega)
  have HRUN := Lib.hid r1
  have H5 := r3.perm (k := (Bs, .cells #[.slice A ss.length cA] 35) :: ((l, .loop (apRec fn sv Bs D .busy)) :: (h8 ++ ((W2.heap.size, .cells (kv x.1) 23) :: [(W.heap.size, .cells (kv x.1) 23), (D, .deferred (some []))])))) (by classical rw [List.perm_iff_count]; intro a; simp only [List.count_append, List.count_cons, List.count_nil] <;> omega)
  have hc8 := H5.cell 0
  have hf8 := H5.froz 0
  obtain ⟨A8, cA8, rfl, _, _⟩ := RowB.form r2
  have H6 := H5.set 0 (.slice A8 (ss.length + 1) cA8)
  have HR8 := Lib.hid r2
  obtain ⟨w9, hw9⟩ : ∃ w9, w8.setCell ⟨Bs, 0, none⟩ (.slice A8 (ss.length + 1) cA8) = w9 := ⟨_, rfl⟩
  rw [hw9] at H6
  have H7 := H6.perm (k := (l, .loop (apRec fn sv Bs D .busy)) :: ((Bs, .cells #[.slice A8 (ss.length + 1) cA8] 35) :: (h8 ++ ((W2.heap.size, .cells (kv x.1) 23) :: [(W.heap.size, .cells (kv x.1) 23), (D, .deferred (some []))])))) (by simpa using List.Perm.swap _ _ _)
  have hend := run_endRound (P := Try.prog) none H7.get
  have HH7 := Lib.hid H7
  have HHEND := Lib.hid hend
  clear hbr H4 r1 r3 r2 H5 H6 H7 hend
  unfold apBody
  gi_wp2_with (first
        | ((with_reducible refine ldI (.tmp 5) rfl rfl ⟨W.heap.size, 0, none⟩ ?_ x.1 (row_cells HK2.out) ?_); rfl)
        | ((with_reducible refine bsI (.tmp 9) rfl rfl x.1 ?_ ?_); rfl)
        | ((with_reducible refine apI (.tmp 8) (.tmp 10) rfl rfl ?_ ?_ HRUN.out ?_); rfl; rfl)
        | gi_round_op_a)
  have HE := HH7.out.turn (grownBy_putObj_a w9 l (.loop (apRec fn sv Bs D .ready))) (World.putObj_heap_same HH7.out.lt)
  refine ⟨_, _, HHEND.out, rfl, _, h8, ?_, (HE.perm (k := (h8 ++ [(Bs, .cells #[.slice A8 (ss.length + 1) cA8] 35), (l, .loop (apRec fn sv Bs D .ready)), (D, .deferred (some []))]) ++ [(W2.heap.size, .cells (kv x.1) 23), (W.heap.size, .cells (kv x.1) 23)]) (by classical rw [List.perm_iff_count]; intro a; simp only [List.count_append, List.count_cons, List.count_nil] <;> omega)).left⟩
  have := HR8.out
  rw [← flat_one, ← flat_app] at this
  rw [List.length_append]
  exact this

set_option maxRecDepth 100000 in
set_option maxHeartbeats 2000000 in
theorem appendSeq_b (F : Fence) (n : Nat) (h38 : F.fn 38) (hro : F.round = none) (hn : 2 ≤ n) (g : Nat) (lb : Array Value) (hFg : F.fn g) (eg : ∀ args w, (callFunc g args).run Try.prog w = .ok (.enter g args) w)
    (S : List K16 → Prop) (N : Nat) (hN : N ≤ 90000) (w : World) (hseq : SeqB F (n - 1) Try.prog g lb vK S N w) :
    CallsIn F n Try.prog 38 #[.slice none 0 0, .func (.func g) #[] lb] w fun e w' => ∃ v, e = .returned v ∧ ∃ ss h, S ss ∧ RowB 23 16 v ss.length (flat ss) h ∧ Sp.Holds w h w' := by
  have h1 : 1 ≤ n := by omega
  refine callsIn_of_wp_marks Try.func38 rfl h38 ?_ hro
  simp only [Try.ntmps38, List.size_toArray, List.length_cons, List.length_nil, Nat.reduceAdd, Nat.reduceSub, Array.replicate_succ, Array.replicate_zero, List.push_toArray, List.append_toArray, List.nil_append, List.cons_append]
  gi_wp2
  refine wpIn_rangeFunc ?_
  intro fn hfn
  rw [hro]
  obtain ⟨W0, hW0⟩ : ∃ W0, w.alloc (.cells #[.slice none 0 0] 35) = W0 := ⟨_, rfl⟩
  have H0 : Sp.Holds w [(w.heap.size, .cells #[.slice none 0 0] 35)] W0 := by rw [← hW0]; exact (Sp.Holds.nil w).alloc _
  rw [hW0]
  obtain ⟨W1, hW1⟩ : ∃ W1, (W0.alloc (.deferred (some []))).alloc (.loop (apRec fn (.func (.func g) #[] lb) w.heap.size W0.heap.size .ready)) = W1 := ⟨_, rfl⟩
  have HW1 := H0.alloc2 (.deferred (some [])) (.loop (apRec fn (.func (.func g) #[] lb) w.heap.size W0.heap.size .ready))
  rw [hW1] at HW1
  have hM : ApAt w fn (.func (.func g) #[] lb) w.heap.size (W0.heap.size + 1) W0.heap.size [] W1 := ⟨_, [], RowB.nil 23 16, HW1.perm (by classical rw [List.perm_iff_count]; intro a; simp only [List.count_append, List.count_cons, List.count_nil] <;> omega)⟩
  have hb1 := HW1.below
  refine ⟨W0.heap.size + 1, [{ target := .collected W0.heap.size, args := #[] }], W1, { target := .fn (.func g) lb, args := #[.func (.yield (W0.heap.size + 1)) #[] #[]] }, W1, g,
    #[.func (.yield (W0.heap.size + 1)) #[] #[]] ++ lb, W1, ?_, ?_, ?_, ?_, fun _ => h1, ?_⟩
  · rw [← hW1]; exact run_enterLoop_outer _ _ _ _ _
  · simp [resolve, go_sem]
  · intro f' hf'; simp [Target.leads] at hf'; subst hf'; exact hFg
  · simp [invoke, go_sem, eg]
  · refine (hseq (W0.heap.size + 1) (ApAt w fn (.func (.func g) #[] lb) w.heap.size (W0.heap.size + 1) W0.heap.size) W1 hb1 (fun s A B ⟨v, h, R, H⟩ hB => ⟨v, h, R, H.grow hB⟩) (fun _ _ ⟨v, h, R, H⟩ => H.below)
      (fun pre x W hJ hl => apYield F (n - 1 - 1) w fn hfn _ w.heap.size (W0.heap.size + 1) W0.heap.size N hN pre x W hJ hl) hM).mono ?_
    rintro e W2 ⟨⟨v0, rfl⟩, ss, hS, v, hr, hR, h2⟩
    have H2 := h2.perm (k := (W0.heap.size + 1, .loop (apRec fn (.func (.func g) #[] lb) w.heap.size W0.heap.size .ready)) :: ((w.heap.size, .cells #[v] 35) :: (hr ++ [(W0.heap.size, .deferred (some []))]))) (by classical rw [List.perm_iff_count]; intro a; simp only [List.count_append, List.count_cons, List.count_nil] <;> omega)
    have hend := run_endLoop (P := Try.prog) H2.get (by simp [apRec])
    obtain ⟨W3, hW3⟩ : ∃ W3, W2.putObj (W0.heap.size + 1) (.loop { apRec fn (.func (.func g) #[] lb) w.heap.size W0.heap.size .ready with state := .exhausted }) = W3 := ⟨_, rfl⟩
    rw [hW3] at hend
    have H3 := (H2.turn (w' := W3) (o' := .loop { apRec fn (.func (.func g) #[] lb) w.heap.size W0.heap.size .ready with state := .exhausted }) (by rw [← hW3]; exact grownBy_putObj_a _ _ _) (by rw [← hW3]; exact World.putObj_heap_same H2.lt)).tail
    have hc3 := H3.cell 0
    have hf3 := H3.froz 0
    obtain ⟨A, cA, rfl, _, _⟩ := RowB.form hR
    have HH3 := Lib.hid H3
    have HRR := Lib.hid hR
    have hK3 := (H3.perm (k := (W0.heap.size, .deferred (some [])) :: ((w.heap.size, .cells #[.slice A ss.length cA] 35) :: hr)) (by classical rw [List.perm_iff_count]; intro a; simp only [List.count_append, List.count_cons, List.count_nil] <;> omega))
    have HK3 := Lib.hid hK3
    have hss0 : W0.heap.size = w.heap.size + 1 := by rw [← hW0]; simp
    clear hW3 H3 h2 H2 hR hK3
    refine ⟨none, W3, hend, ?_⟩
    gi_wp2
    rw [← hss0]
    refine ⟨by simp, .inl ⟨_, _, rfl, run_takeDeferred HK3.out.get, ?_⟩⟩
    have H9 := HK3.out.turn (grownBy_putObj_a W3 W0.heap.size (.deferred none)) (World.putObj_heap_same HK3.out.lt)
    exact ⟨_, results_tmp rfl _ _ _, .slice A ss.length cA, rfl, ss, hr, hS, HRR.out, H9.tail.tail⟩

set_option maxRecDepth 100000 in
set_option maxHeartbeats 2000000 in
theorem collect_b (F : Fence) (n : Nat) (h34 : F.fn 34) (h38 : F.fn 38) (hro : F.round = none) (hn : 3 ≤ n) (g : Nat) (lb : Array Value) (hFg : F.fn g) (eg : ∀ args w, (callFunc g args).run Try.prog w = .ok (.enter g args) w)
    (S : List K16 → Prop) (N : Nat) (hN : N ≤ 90000) (w : World) (hseq : SeqB F (n - 1 - 1) Try.prog g lb vK S N w) :
    CallsIn F n Try.prog 34 #[.func (.func g) #[] lb] w fun e w' => ∃ v, e = .returned v ∧ ∃ ss h, S ss ∧ RowB 23 16 v ss.length (flat ss) h ∧ Sp.Holds w h w' := by
  have h1 : 1 ≤ n := by omega
  have e38 : ∀ args w, (callFunc 38 args).run Try.prog w = .ok (.enter 38 args) w := enters_of Try.func38 (by kernel_rfl) rfl
  refine callsIn_of_wp Try.func34 rfl h34 ?_ hro
  simp only [Try.ntmps34, List.size_toArray, List.length_cons, List.length_nil, Nat.reduceAdd, Nat.reduceSub, Array.replicate_succ, Array.replicate_zero, List.push_toArray, List.append_toArray, List.nil_append, List.cons_append]
  gi_wp2_with (gi_at_fn 38; refine (appendSeq_b F (n - 1) h38 hro (by omega) g lb hFg eg S N hN _ hseq).mono ?_; rintro e w' ⟨v, rfl, ss, h, hS, hR, hH⟩)
  go_ret
  exact ⟨_, rfl, ss, h, hS, hR, hH⟩
end Go.Proofs.Ytnmnniknklfemaa
