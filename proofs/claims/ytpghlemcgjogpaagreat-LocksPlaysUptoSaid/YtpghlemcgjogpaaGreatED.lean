/- The document's table of locks in memory; what is read of it. -/
import Derived.Test.YtpghlemcgjogpaaGreatEC
import Derived.Test.YtpghlemcgjogpaaGreatDI
import Derived.Test.YtpghlemcgjogpaaGreatFE
import Derived.Test.YtpghlemcgjogpaaGreatFG
set_option linter.unusedVariables false
set_option linter.unusedSimpArgs false
set_option linter.unnecessarySimpa false
set_option maxRecDepth 100000
namespace Go.Proofs.YtpghlemcgjogpaaGreat
open Go.Sx

theorem uv_strlt {P : Program} {R : Ending → World → Prop} {w : World} {t : Nat} {x y : Operand} {s u : ByteArray} {k : Value → World → Prop} : uv P R (binS .lss t x y (.string s) (.string u)) w k = k (.bool (ltB s u)) w := uv_eq (by simp [binS, eqGuard, binOp, Op.stringOp, ltB])
theorem run_strne {P : Program} {w : World} {t : Nat} {x y : Operand} {s u : ByteArray} : (binS .neq t x y (.string s) (.string u)).run P w = .ok (.bool (s.toList != u.toList)) w := by simp [binS, eqGuard, binOp, Op.stringOp, bne]
theorem uv_beq {R : Ending → World → Prop} {w : World} {x y : Operand} {a b : Bool} {k : Value → World → Prop} : uv Tryz.prog R (binS .eql 4 x y (.bool a) (.bool b)) w k = k (.bool (a == b)) w := uv_eq (by kernel_rfl)
theorem ba_ne (s u : ByteArray) : (s.toList != u.toList) = !decide (s = u) := by rw [bne, ba_toList_eq]

theorem und28 : Tryz.prog.underlying 28 = some (.slice 70) := by kernel_rfl
theorem siz70' : (Tryz.prog.info? 70).map (·.size) = some 4 := by kernel_rfl
theorem apWs : apB Tryz.prog 28 70 4 40 = true := by kernel_rfl
def Ws.cells (x : Ws) : List Value := [.int .i64 x.l.txn, .string x.l.res, .int .i64 x.l.mode, .bool x.ch]
theorem Ws.len (x : Ws) : x.cells.length = 4 := rfl
def wscells (l : List Ws) : List Value := l.flatMap Ws.cells
theorem wscells_one (q : List Ws) : ∀ u ∈ wscells q, oneV u = true := by
  intro u hu
  simp only [wscells, List.mem_flatMap] at hu
  obtain ⟨x, _, hu⟩ := hu
  simp only [Ws.cells, List.mem_cons, List.not_mem_nil, or_false] at hu
  rcases hu with rfl | rfl | rfl | rfl <;> rfl
abbrev RowW (w : World) (v : Value) (l : List Ws) : Prop := Row w 70 4 v l.length (wscells l)
theorem RowW.read {w : World} {v : Value} {l : List Ws} {i : Nat} {x : Ws} (h : RowW w v l) (hx : l[i]? = some x) : ∃ g o, rowB v = some g ∧ g < w.heap.size ∧ (∀ w1, (Instr.indexAt 28 v (.int .i64 i)).run Tryz.prog w1 = .ok (.pointer (some ⟨g, o, none⟩)) w1) ∧
    Sx.cellsIn (w.heap[g]?) o 4 = some x.cells.toArray := by
  have hlt := (List.getElem?_eq_some_iff.1 hx).1
  obtain ⟨g, o, hg, hixx, hcl⟩ := h.elem (P := Tryz.prog) (q := .i64) (i := i) hlt und28 siz70'
  rw [show wscells l = l.flatMap Ws.cells from rfl, flat_at Ws.len hx] at hcl
  exact ⟨g, o, hg, h.lt hg, hixx, hcl⟩
theorem cellsIn_pre {o : Option Obj} {a n m : Nat} {cs : Array Value} (h : Sx.cellsIn o a n = some cs) (hm : m ≤ n) : Sx.cellsIn o a m = some (cs.extract 0 m) := by
  unfold Sx.cellsIn at h ⊢
  split at h
  · rename_i c t f
    split at h
    · simp only [Option.some.injEq] at h
      subst h
      rw [if_pos (by omega)]
      congr 1
      apply Array.ext'
      simp only [Array.toList_extract, List.extract_eq_take_drop]
      rw [List.drop_zero, List.take_take]
      congr 1
      omega
    · cases h
  · cases h
theorem ws_lock {w : World} {g o : Nat} {x : Ws} (h : Sx.cellsIn (w.heap[g]?) o 4 = some x.cells.toArray) : Sx.cellsIn (w.heap[g]?) o 3 = some x.l.cells.toArray := by
  have := cellsIn_pre h (m := 3) (by omega)
  rw [this]; rfl
theorem ws3 {w : World} {g o : Nat} {x : Ws} (h : Sx.cellsIn (w.heap[g]?) o 4 = some x.cells.toArray) : Sx.cellIn (w.heap[g]?) (o + 3) = some (.bool x.ch) := by
  rw [cellIn_of_cells h (by decide)]; rfl

/-- The table: its block, its two slices, what they hold. -/
structure MT where
  bm : Nat
  vh : Value
  vw : Value
  H : List Lk
  W : List Ws
structure MTAt (w : World) (M : MT) : Prop where
  cell : w.heap[M.bm]? = some (.cells #[M.vh, M.vw] 30 (0, 0))
  rh : RowL w M.vh M.H
  rw : RowW w M.vw M.W
def MT.foot (M : MT) (b : Nat) : Prop := b = M.bm ∨ rowB M.vh = some b ∨ rowB M.vw = some b
theorem MTAt.lt {w : World} {M : MT} (h : MTAt w M) {b : Nat} (hb : M.foot b) : b < w.heap.size := by
  rcases hb with rfl | hb | hb
  · exact lt_of_at h.cell
  · exact h.rh.lt hb
  · exact Row.lt h.rw hb
theorem MTAt.keep {S : Nat → Prop} {w w' : World} {M : MT} (h : MTAt w M) (hk : Keep S w w') (hd : ∀ b, M.foot b → ¬ S b) : MTAt w' M :=
  ⟨hk.at h.cell (hd _ (.inl rfl)), h.rh.keep hk fun g hg => hd g (.inr (.inl hg)), Row.keep h.rw hk fun g hg => hd g (.inr (.inr hg))⟩
theorem MTAt.keep0 {w w' : World} {M : MT} (h : MTAt w M) (hk : Keep0 w w') : MTAt w' M := h.keep hk fun _ _ => id
theorem MTAt.oneH {w : World} {M : MT} (h : MTAt w M) : oneV M.vh = true := by obtain ⟨a, c, e⟩ := h.rh.len; rw [e]; rfl
theorem MTAt.oneW {w : World} {M : MT} (h : MTAt w M) : oneV M.vw = true := by obtain ⟨a, c, e⟩ := Row.len h.rw; rw [e]; rfl

theorem tMode_c (M : MT) (t : Int) (r : ByteArray) (w : World) (hM : MTAt w M) (R : Ending → World → Prop) (h : R (.returned (.int .i64 (modeR M.H t r))) w) : Calls Tryz.prog 25 #[ptr M.bm, .int .i64 t, .string r] w R := by
  apply F25_calls
  have hbd := hM.rh.bound
  have hmax2 : maxLen ≤ 9223372036854775807 := by decide
  simp only [F25_s1, F25_s1_t, F25_s4]
  refine ⟨fun v7 w' => ∃ i : Nat, v7 = .int .i64 i ∧ i ≤ M.H.length ∧ w' = w ∧ ∀ j y, j < i → M.H[j]? = some y → ((y.txn == t) && decide (y.res = r)) = false, fun v7 _ => match v7 with | .int _ i => M.H.length - i.toNat | _ => 0, ⟨0, rfl, by omega, rfl, fun j y hj => by omega⟩, ?_⟩
  rintro v7 w1 ⟨i, rfl, hi, rfl, hn⟩
  simp only [F25_s5, F25_s5_t, ↓uL.1, tL.1, cellIn_cells, frzIn_00, setIn_cells, cellsIn_cells, List.getElem?_toArray, List.getElem?_cons_zero, List.getElem?_cons_succ, Option.isSome_some, Option.getD_some, Nat.zero_add, Nat.add_zero, List.setIfInBounds_toArray, List.set_cons_zero, List.set_cons_succ, put_same, add_new, add_old, oneV, Value.cells, List.size_toArray, List.length_cons, List.length_nil, List.extract_toArray, List.extract_eq_take_drop, Nat.reduceAdd, Nat.reduceSub, Nat.reduceLeDiff, if_true, List.drop_zero, List.take_succ_cons, List.take_zero, List.drop_succ_cons, drew_heap, hM.cell, un_lenR und32 hM.rh, F25_s6]
  by_cases hlt : i < M.H.length
  · have e1 : decide ((i : Int) < (M.H.length : Int)) = true := by rw [decide_eq_true_eq]; omega
    have e4 : IntKind.i64.wrap ((i : Int) + 1) = ((i + 1 : Nat) : Int) := by rw [wrap_id (by omega) (by omega)]; omega
    obtain ⟨y, hy⟩ : ∃ y, M.H[i]? = some y := ⟨M.H[i], List.getElem?_eq_getElem hlt⟩
    obtain ⟨g, o, hg, hgl, ix, cl⟩ := RowL.read hM.rh hy
    have c0 := lk0 cl
    have c1 := lk1 cl
    have c2 := lk2 cl
    simp only [Nat.add_zero] at c0
    have next : ((y.txn == t) && decide (y.res = r)) = false → F25_s8 R (fun y0 w' => (∃ i : Nat, y0 = .int .i64 i ∧ i ≤ M.H.length ∧ w' = w1 ∧ ∀ j y, j < i → M.H[j]? = some y → ((y.txn == t) && decide (y.res = r)) = false) ∧ (match y0 with | .int _ i => M.H.length - i.toNat | _ => 0) < (match (Value.int .i64 i) with | .int _ i => M.H.length - i.toNat | _ => 0)) (ptr M.bm) (.int .i64 t) (.string r) (.int .i64 i) w1 := fun hh => by
      simp only [F25_s8, F25_s8_t, ↓uL.1, e4]
      refine ⟨⟨i + 1, rfl, by omega, by trivial, fun j z hj hz => ?_⟩, by simp; omega⟩
      by_cases e : j = i
      · subst e; rw [hy] at hz; cases hz; exact hh
      · exact hn j z (by omega) hz
    simp only [e1, ↓uL.1, F25_s9, F25_s9_t, tL.1, cellIn_cells, frzIn_00, setIn_cells, cellsIn_cells, List.getElem?_toArray, List.getElem?_cons_zero, List.getElem?_cons_succ, Option.isSome_some, Option.getD_some, Nat.zero_add, Nat.add_zero, List.setIfInBounds_toArray, List.set_cons_zero, List.set_cons_succ, put_same, add_new, add_old, oneV, Value.cells, List.size_toArray, List.length_cons, List.length_nil, List.extract_toArray, List.extract_eq_take_drop, Nat.reduceAdd, Nat.reduceSub, Nat.reduceLeDiff, if_true, List.drop_zero, List.take_succ_cons, List.take_zero, List.drop_succ_cons, drew_heap, hM.cell, uv_eq (ix _), c0]
    cases h1 : (y.txn == t)
    · simp only [↓uL.1, Bool.false_eq_true, if_false, F25_s10]
      exact next (by rw [h1]; rfl)
    · simp only [↓uL.1, tL.1, cellIn_cells, frzIn_00, setIn_cells, cellsIn_cells, List.getElem?_toArray, List.getElem?_cons_zero, List.getElem?_cons_succ, Option.isSome_some, Option.getD_some, Nat.zero_add, Nat.add_zero, List.setIfInBounds_toArray, List.set_cons_zero, List.set_cons_succ, put_same, add_new, add_old, oneV, Value.cells, List.size_toArray, List.length_cons, List.length_nil, List.extract_toArray, List.extract_eq_take_drop, Nat.reduceAdd, Nat.reduceSub, Nat.reduceLeDiff, if_true, List.drop_zero, List.take_succ_cons, List.take_zero, List.drop_succ_cons, drew_heap, hM.cell, uv_eq (ix _), c1, ba_toList_eq]
      by_cases h2 : y.res = r
      · rw [decide_eq_true h2]
        simp only [↓uL.1, if_true, F25_s10, F25_s11, F25_s11_t, tL.1, cellIn_cells, frzIn_00, setIn_cells, cellsIn_cells, List.getElem?_toArray, List.getElem?_cons_zero, List.getElem?_cons_succ, Option.isSome_some, Option.getD_some, Nat.zero_add, Nat.add_zero, List.setIfInBounds_toArray, List.set_cons_zero, List.set_cons_succ, put_same, add_new, add_old, oneV, Value.cells, List.size_toArray, List.length_cons, List.length_nil, List.extract_toArray, List.extract_eq_take_drop, Nat.reduceAdd, Nat.reduceSub, Nat.reduceLeDiff, if_true, List.drop_zero, List.take_succ_cons, List.take_zero, List.drop_succ_cons, drew_heap, hM.cell, uv_eq (ix _), c2]
        have : modeR M.H t r = y.mode := by
          unfold modeR
          have hf : M.H.find? (fun h => (h.txn == t) && decide (h.res = r)) = some y := by
            rw [List.find?_eq_some_iff_getElem]
            refine ⟨by simp [h1, h2], i, hlt, (List.getElem?_eq_some_iff.1 hy).2, fun j hj => ?_⟩
            have := hn j M.H[j] hj (List.getElem?_eq_getElem (by omega))
            simp [this]
          rw [hf]
        rw [← this]; exact h
      · rw [decide_eq_false h2]
        simp only [↓uL.1, if_true, F25_s10]
        exact next (by simp [h2])
  · have e1 : decide ((i : Int) < (M.H.length : Int)) = false := by rw [decide_eq_false_iff_not]; omega
    simp only [e1, ↓uL.1, F25_s3, F25_s3_t]
    have : modeR M.H t r = 0 := by
      unfold modeR
      have hf : M.H.find? (fun h => (h.txn == t) && decide (h.res = r)) = none := by
        rw [List.find?_eq_none]
        intro x hx
        obtain ⟨j, hj, e⟩ := List.mem_iff_getElem.1 hx
        have := hn j x (by omega) (by rw [List.getElem?_eq_getElem hj, e])
        simp [this]
      rw [hf]
    rw [← this]; exact h
theorem tWish_c (M : MT) (t : Int) (w : World) (hM : MTAt w M) (R : Ending → World → Prop) (h : ∀ w', Keep0 w w' → R (.returned (.tuple #[.agg (wishR M.W t).1.cells.toArray, .bool (wishR M.W t).2])) w') : Calls Tryz.prog 23 #[ptr M.bm, .int .i64 t] w R := by
  apply F23_calls
  have hbd := Row.bound hM.rw
  have hmax2 : maxLen ≤ 9223372036854775807 := by decide
  simp only [F23_s1, F23_s1_t, uv_alloc zer37, Value.cells]
  have hka : Keep0 w (World.add w (.cells #[.int .i64 0, .string ByteArray.empty, .int .i64 0] 42)) := (Keep.refl _ w).add
  have hbx : (World.add w (.cells #[.int .i64 0, .string ByteArray.empty, .int .i64 0] 42)).heap[w.heap.size]? = some (.cells #[.int .i64 0, .string ByteArray.empty, .int .i64 0] 42 (0, 0)) := add_new
  generalize World.add w (.cells #[.int .i64 0, .string ByteArray.empty, .int .i64 0] 42) = wa at hka hbx
  have hMa := hM.keep0 hka
  have fin : ∀ (w2 : World) (l : Lk) (b : Bool), Keep0 w w2 → w2.heap[w.heap.size]? = some (.cells #[.int .i64 0, .string ByteArray.empty, .int .i64 0] 42 (0, 0)) → (∀ w', Keep0 w w' → R (.returned (.tuple #[.agg l.cells.toArray, .bool b])) w') →
      uu Tryz.prog R (Instr.storeAt 42 (ptr w.heap.size) (.agg l.cells.toArray)) w2 (fun wx => Rc Tryz.prog 42 (ptr w.heap.size) wx (fun r0 => R (.returned (.tuple #[r0, .bool b])) wx)) := by
    intro w2 l b hk hb hR
    have hst := run_storeN (P := Tryz.prog) (w := w2) (t := 42) (b := w.heap.size) (o := 0) (v := .agg l.cells.toArray) (vs := l.cells) siz37 rfl (by intro u hu; exact lcells_one [l] u (by simpa [lcells] using hu)) hb (by simp [Lk.cells])
    rw [uu_eq hst]
    have e : putL #[.int .i64 0, .string ByteArray.empty, .int .i64 0] 0 l.cells = l.cells.toArray := rfl
    rw [e]
    refine ⟨.agg l.cells.toArray, run_loadN (n := 3) (by kernel_rfl) (by rw [put_same (by rw [hb]; rfl)]; rfl), hR _ (hk.put fun hlt => by omega)⟩
  simp only [F23_s4]
  refine ⟨fun v7 w' => ∃ i : Nat, v7 = .int .i64 i ∧ i ≤ M.W.length ∧ w' = wa ∧ ∀ j y, j < i → M.W[j]? = some y → (y.l.txn == t) = false, fun v7 _ => match v7 with | .int _ i => M.W.length - i.toNat | _ => 0, ⟨0, rfl, by omega, rfl, fun j y hj => by omega⟩, ?_⟩
  rintro v7 w1 ⟨i, rfl, hi, rfl, hn⟩
  simp only [F23_s5, F23_s5_t, ↓uL.1, tL.1, cellIn_cells, frzIn_00, setIn_cells, cellsIn_cells, List.getElem?_toArray, List.getElem?_cons_zero, List.getElem?_cons_succ, Option.isSome_some, Option.getD_some, Nat.zero_add, Nat.add_zero, List.setIfInBounds_toArray, List.set_cons_zero, List.set_cons_succ, put_same, add_new, add_old, oneV, Value.cells, List.size_toArray, List.length_cons, List.length_nil, List.extract_toArray, List.extract_eq_take_drop, Nat.reduceAdd, Nat.reduceSub, Nat.reduceLeDiff, if_true, List.drop_zero, List.take_succ_cons, List.take_zero, List.drop_succ_cons, drew_heap, hMa.cell, un_lenR und28 hMa.rw, F23_s6]
  by_cases hlt : i < M.W.length
  · have e1 : decide ((i : Int) < (M.W.length : Int)) = true := by rw [decide_eq_true_eq]; omega
    have e4 : IntKind.i64.wrap ((i : Int) + 1) = ((i + 1 : Nat) : Int) := by rw [wrap_id (by omega) (by omega)]; omega
    obtain ⟨y, hy⟩ : ∃ y, M.W[i]? = some y := ⟨M.W[i], List.getElem?_eq_getElem hlt⟩
    obtain ⟨g, o, hg, hgl, ix, cl⟩ := RowW.read hMa.rw hy
    have cl3 := ws_lock cl
    have c0 := lk0 cl3
    simp only [Nat.add_zero] at c0
    simp only [e1, ↓uL.1, F23_s9, F23_s9_t, tL.1, cellIn_cells, frzIn_00, setIn_cells, cellsIn_cells, List.getElem?_toArray, List.getElem?_cons_zero, List.getElem?_cons_succ, Option.isSome_some, Option.getD_some, Nat.zero_add, Nat.add_zero, List.setIfInBounds_toArray, List.set_cons_zero, List.set_cons_succ, put_same, add_new, add_old, oneV, Value.cells, List.size_toArray, List.length_cons, List.length_nil, List.extract_toArray, List.extract_eq_take_drop, Nat.reduceAdd, Nat.reduceSub, Nat.reduceLeDiff, if_true, List.drop_zero, List.take_succ_cons, List.take_zero, List.drop_succ_cons, drew_heap, hMa.cell, uv_eq (ix _), c0, F23_s10]
    cases h1 : (y.l.txn == t)
    · simp only [↓uL.1, F23_s8, F23_s8_t, e4]
      refine ⟨⟨i + 1, rfl, by omega, by trivial, fun j z hj hz => ?_⟩, by simp; omega⟩
      by_cases e : j = i
      · subst e; rw [hy] at hz; cases hz; exact h1
      · exact hn j z (by omega) hz
    · have hld : (Instr.loadAt 42 (.pointer (some ⟨g, o, none⟩))).run Tryz.prog w1 = .ok (.agg y.l.cells.toArray) w1 := run_loadN (n := 3) (by kernel_rfl) cl3
      simp only [↓uL.1, F23_s11, F23_s11_t, tL.1, cellIn_cells, frzIn_00, setIn_cells, cellsIn_cells, List.getElem?_toArray, List.getElem?_cons_zero, List.getElem?_cons_succ, Option.isSome_some, Option.getD_some, Nat.zero_add, Nat.add_zero, List.setIfInBounds_toArray, List.set_cons_zero, List.set_cons_succ, put_same, add_new, add_old, oneV, Value.cells, List.size_toArray, List.length_cons, List.length_nil, List.extract_toArray, List.extract_eq_take_drop, Nat.reduceAdd, Nat.reduceSub, Nat.reduceLeDiff, if_true, List.drop_zero, List.take_succ_cons, List.take_zero, List.drop_succ_cons, drew_heap, hMa.cell, uv_eq (ix _), uv_eq hld]
      have : wishR M.W t = (y.l, true) := by
        unfold wishR
        have hf : M.W.find? (fun x => x.l.txn == t) = some y := by
          rw [List.find?_eq_some_iff_getElem]
          refine ⟨h1, i, hlt, (List.getElem?_eq_some_iff.1 hy).2, fun j hj => ?_⟩
          have := hn j M.W[j] hj (List.getElem?_eq_getElem (by omega))
          simp [this]
        rw [hf]
      rw [this] at h
      exact fin w1 y.l true hka hbx h
  · have e1 : decide ((i : Int) < (M.W.length : Int)) = false := by rw [decide_eq_false_iff_not]; omega
    simp only [e1, ↓uL.1, F23_s3, F23_s3_t, uv_eq (bldL0 _)]
    have : wishR M.W t = (⟨0, ByteArray.empty, 0⟩, false) := by
      unfold wishR
      have hf : M.W.find? (fun x => x.l.txn == t) = none := by
        rw [List.find?_eq_none]
        intro x hx
        obtain ⟨j, hj, e⟩ := List.mem_iff_getElem.1 hx
        have := hn j x (by omega) (by rw [List.getElem?_eq_getElem hj, e])
        simp [this]
      rw [hf]
    rw [this] at h
    exact fin w1 ⟨0, ByteArray.empty, 0⟩ false hka hbx h
/-- Modes that are modes. -/
def okH (H : List Lk) : Prop := ∀ l ∈ H, okM l.mode
theorem tcan_c (M : MT) (l : Lk) (w : World) (hM : MTAt w M) (hH : okH M.H) (hl : okM l.mode) (R : Ending → World → Prop) (h : ∀ w', Keep0 w w' → R (.returned (.bool (canR M.H l))) w') : Calls Tryz.prog 27 #[ptr M.bm, .agg l.cells.toArray] w R := by
  apply F27_calls
  have hbd := hM.rh.bound
  have hmax2 : maxLen ≤ 9223372036854775807 := by decide
  simp only [F27_s1, F27_s1_t, ↓uL.1, Value.cells]
  have hka : Keep0 w (World.add w (.cells l.cells.toArray 42)) := (Keep.refl _ w).add
  have hbx : (World.add w (.cells l.cells.toArray 42)).heap[w.heap.size]? = some (.cells #[.int .i64 l.txn, .string l.res, .int .i64 l.mode] 42 (0, 0)) := add_new
  generalize World.add w (.cells l.cells.toArray 42) = wa at hka hbx
  simp only [F27_s4]
  refine ⟨fun v7 w' => ∃ i : Nat, v7 = .int .i64 i ∧ i ≤ M.H.length ∧ Keep0 wa w' ∧ ∀ j y, j < i → M.H[j]? = some y → (decide (y.res = l.res) && (y.txn != l.txn) && !tg y.mode l.mode) = false, fun v7 _ => match v7 with | .int _ i => M.H.length - i.toNat | _ => 0, ⟨0, rfl, by omega, Keep.refl _ wa, fun j y hj => by omega⟩, ?_⟩
  rintro v7 w1 ⟨i, rfl, hi, hk1, hn⟩
  have hk01 : Keep0 w w1 := hka.trans hk1 (fun _ _ h => h)
  have hM1 := hM.keep0 hk01
  have hbx1 := hk1.at hbx id
  simp only [F27_s5, F27_s5_t, ↓uL.1, tL.1, cellIn_cells, frzIn_00, setIn_cells, cellsIn_cells, List.getElem?_toArray, List.getElem?_cons_zero, List.getElem?_cons_succ, Option.isSome_some, Option.getD_some, Nat.zero_add, Nat.add_zero, List.setIfInBounds_toArray, List.set_cons_zero, List.set_cons_succ, put_same, add_new, add_old, oneV, Value.cells, List.size_toArray, List.length_cons, List.length_nil, List.extract_toArray, List.extract_eq_take_drop, Nat.reduceAdd, Nat.reduceSub, Nat.reduceLeDiff, if_true, List.drop_zero, List.take_succ_cons, List.take_zero, List.drop_succ_cons, drew_heap, hM1.cell, un_lenR und32 hM1.rh, F27_s6]
  by_cases hlt : i < M.H.length
  · have e1 : decide ((i : Int) < (M.H.length : Int)) = true := by rw [decide_eq_true_eq]; omega
    have e4 : IntKind.i64.wrap ((i : Int) + 1) = ((i + 1 : Nat) : Int) := by rw [wrap_id (by omega) (by omega)]; omega
    obtain ⟨y, hy⟩ : ∃ y, M.H[i]? = some y := ⟨M.H[i], List.getElem?_eq_getElem hlt⟩
    obtain ⟨p, ix, ld⟩ := RowL.load hM1.rh hy
    have next : ∀ w3, Keep0 wa w3 → (decide (y.res = l.res) && (y.txn != l.txn) && !tg y.mode l.mode) = false → F27_s8 R (fun y0 w' => (∃ i : Nat, y0 = .int .i64 i ∧ i ≤ M.H.length ∧ Keep0 wa w' ∧ ∀ j y, j < i → M.H[j]? = some y → (decide (y.res = l.res) && (y.txn != l.txn) && !tg y.mode l.mode) = false) ∧ (match y0 with | .int _ i => M.H.length - i.toNat | _ => 0) < (match (Value.int .i64 i) with | .int _ i => M.H.length - i.toNat | _ => 0)) (ptr M.bm) (ptr w.heap.size) (.int .i64 i) w3 := fun w3 hk3 hh => by
      simp only [F27_s8, F27_s8_t, ↓uL.1, e4]
      refine ⟨⟨i + 1, rfl, by omega, hk3, fun j z hj hz => ?_⟩, by simp; omega⟩
      by_cases e : j = i
      · subst e; rw [hy] at hz; cases hz; exact hh
      · exact hn j z (by omega) hz
    simp only [e1, ↓uL.1, F27_s9, F27_s9_t, tL.1, cellIn_cells, frzIn_00, setIn_cells, cellsIn_cells, List.getElem?_toArray, List.getElem?_cons_zero, List.getElem?_cons_succ, Option.isSome_some, Option.getD_some, Nat.zero_add, Nat.add_zero, List.setIfInBounds_toArray, List.set_cons_zero, List.set_cons_succ, put_same, add_new, add_old, oneV, Value.cells, List.size_toArray, List.length_cons, List.length_nil, List.extract_toArray, List.extract_eq_take_drop, Nat.reduceAdd, Nat.reduceSub, Nat.reduceLeDiff, if_true, List.drop_zero, List.take_succ_cons, List.take_zero, List.drop_succ_cons, drew_heap, hM1.cell, uv_eq (ix _), uv_eq (ld w1 rfl)]
    rw [uv_allocS (vs := y.cells) zer37 siz37 rfl rfl (by intro u hu; exact lcells_one [y] u (by simpa [lcells] using hu))]
    have hkb : Keep0 w1 (World.add w1 (.cells y.cells.toArray 42)) := (Keep.refl _ w1).add
    have hby : (World.add w1 (.cells y.cells.toArray 42)).heap[w1.heap.size]? = some (.cells #[.int .i64 y.txn, .string y.res, .int .i64 y.mode] 42 (0, 0)) := add_new
    generalize World.add w1 (.cells y.cells.toArray 42) = w2 at hkb hby ⊢
    have hbx2 := hkb.at hbx1 id
    have hk2 : Keep0 wa w2 := hk1.trans hkb (fun _ _ h => h)
    simp only [↓uL.1, tL.1, cellIn_cells, frzIn_00, setIn_cells, cellsIn_cells, List.getElem?_toArray, List.getElem?_cons_zero, List.getElem?_cons_succ, Option.isSome_some, Option.getD_some, Nat.zero_add, Nat.add_zero, List.setIfInBounds_toArray, List.set_cons_zero, List.set_cons_succ, put_same, add_new, add_old, oneV, Value.cells, List.size_toArray, List.length_cons, List.length_nil, List.extract_toArray, List.extract_eq_take_drop, Nat.reduceAdd, Nat.reduceSub, Nat.reduceLeDiff, if_true, List.drop_zero, List.take_succ_cons, List.take_zero, List.drop_succ_cons, drew_heap, hby, hbx2, ba_toList_eq]
    by_cases h1 : y.res = l.res
    · rw [decide_eq_true h1]
      simp only [↓uL.1, tL.1, cellIn_cells, frzIn_00, setIn_cells, cellsIn_cells, List.getElem?_toArray, List.getElem?_cons_zero, List.getElem?_cons_succ, Option.isSome_some, Option.getD_some, Nat.zero_add, Nat.add_zero, List.setIfInBounds_toArray, List.set_cons_zero, List.set_cons_succ, put_same, add_new, add_old, oneV, Value.cells, List.size_toArray, List.length_cons, List.length_nil, List.extract_toArray, List.extract_eq_take_drop, Nat.reduceAdd, Nat.reduceSub, Nat.reduceLeDiff, if_true, List.drop_zero, List.take_succ_cons, List.take_zero, List.drop_succ_cons, drew_heap, hby, hbx2, if_true]
      cases h2 : (y.txn != l.txn)
      · simp only [↓uL.1, Bool.false_eq_true, if_false, F27_s10]
        exact next w2 hk2 (by simp [h2])
      · simp only [↓uL.1, tL.1, cellIn_cells, frzIn_00, setIn_cells, cellsIn_cells, List.getElem?_toArray, List.getElem?_cons_zero, List.getElem?_cons_succ, Option.isSome_some, Option.getD_some, Nat.zero_add, Nat.add_zero, List.setIfInBounds_toArray, List.set_cons_zero, List.set_cons_succ, put_same, add_new, add_old, oneV, Value.cells, List.size_toArray, List.length_cons, List.length_nil, List.extract_toArray, List.extract_eq_take_drop, Nat.reduceAdd, Nat.reduceSub, Nat.reduceLeDiff, if_true, List.drop_zero, List.take_succ_cons, List.take_zero, List.drop_succ_cons, drew_heap, hby, hbx2]
        refine un_enter (enters Tryz.func53 (by kernel_rfl) (by kernel_rfl) _ _) (rTogether_c _ _ (hH y (List.mem_of_getElem? hy)) hl w2 _ fun w3 hk3 => ?_)
        cases h3 : tg y.mode l.mode
        · simp only [↓uL.1, Bool.not_false, if_true, F27_s10, F27_s11, F27_s11_t]
          have : canR M.H l = false := by
            unfold canR
            rw [List.all_eq_false]
            exact ⟨y, List.mem_of_getElem? hy, by simp [h1, h2, h3]⟩
          rw [this] at h
          exact h w3 (hka.trans (hk2.trans hk3 (fun _ _ h => h)) (fun _ _ h => h))
        · simp only [↓uL.1, Bool.not_true, if_true, F27_s10]
          exact next w3 (hk2.trans hk3 (fun _ _ h => h)) (by simp [h3])
    · rw [decide_eq_false h1]
      simp only [↓uL.1, Bool.false_eq_true, if_false, F27_s10]
      exact next w2 hk2 (by simp [h1])
  · have e1 : decide ((i : Int) < (M.H.length : Int)) = false := by rw [decide_eq_false_iff_not]; omega
    simp only [e1, ↓uL.1, F27_s3, F27_s3_t]
    have : canR M.H l = true := by
      unfold canR
      rw [List.all_eq_true]
      intro x hx
      obtain ⟨j, hj, e⟩ := List.mem_iff_getElem.1 hx
      rw [hn j x (by omega) (by rw [List.getElem?_eq_getElem hj, e])]; rfl
    rw [this] at h
    exact h w1 hk01
theorem tQueue_c (M : MT) (r : ByteArray) (w : World) (hM : MTAt w M) (hW : M.W.length ≤ 1048576) (R : Ending → World → Prop) (h : ∀ v w', RowL w' v (queueR M.W r) → (∀ g, rowB v = some g → w.heap.size ≤ g) → Keep0 w w' → R (.returned v) w') : Calls Tryz.prog 28 #[ptr M.bm, .string r] w R := by
  apply F28_calls
  have bsl0 : ∀ w, (Instr.buildSlice 27 0 #[]).run Tryz.prog w = .ok (.slice (some ⟨w.heap.size, 0, none⟩) 0 0) (World.add w (.cells #[] 42)) := fun w => by kernel_rfl
  simp only [F28_s1, F28_s1_t, uv_eq (bsl0 _)]
  have hka : Keep0 w (World.add w (.cells #[] 42)) := (Keep.refl _ w).add
  have hr0 : RowL (World.add w (.cells #[] 42)) (.slice (some ⟨w.heap.size, 0, none⟩) 0 0) [] := Row.fresh (cs := []) rfl (by decide)
  generalize World.add w (.cells #[] 42) = wa at hka hr0
  have qlen : ∀ (l : List Ws) (c : Bool), (qsel l r c).length ≤ l.length := fun l c => List.length_filter_le _ _
  simp only [F28_s4]
  refine ⟨fun v5 v6 w' => ∃ u : Nat, v6 = .int .i64 u ∧ u ≤ 2 ∧ RowL w' v5 (((if 1 ≤ u then qsel M.W r true else []) ++ (if 2 ≤ u then qsel M.W r false else [])).map (·.l)) ∧ (∀ g, rowB v5 = some g → w.heap.size ≤ g) ∧ Keep0 w w', fun _ v6 _ => match v6 with | .int _ u => 2 - u.toNat | _ => 0,
    ⟨0, rfl, by omega, hr0, fun g hg => ?_, hka⟩, ?_⟩
  · have e : w.heap.size = g := by simpa [rowB] using hg
    omega
  rintro v5 v6 w1 ⟨u, rfl, hu, hr1, hf1, hk1⟩
  simp only [F28_s5, F28_s5_t, ↓uL.1, F28_s6]
  by_cases hlt : u < 2
  · have e1 : decide ((u : Int) < 2) = true := by rw [decide_eq_true_eq]; omega
    have e4 : IntKind.i64.wrap ((u : Int) + 1) = ((u + 1 : Nat) : Int) := by rw [wrap_id (by omega) (by omega)]; omega
    generalize hbase : ((if 1 ≤ u then qsel M.W r true else []) ++ (if 2 ≤ u then qsel M.W r false else [])) = base at hr1
    have hbl : base.length ≤ 2097152 := by
      rw [← hbase]
      have := qlen M.W true
      have := qlen M.W false
      rw [List.length_append]
      split <;> split <;> simp <;> omega
    generalize hcc : ((u : Int) == 0) = c
    simp only [e1, ↓uL.1, F28_s9, F28_s9_t, F28_s11]
    refine ⟨fun v5 v7 w' => ∃ i : Nat, v7 = .int .i64 i ∧ i ≤ M.W.length ∧ RowL w' v5 ((base ++ qsel (M.W.take i) r c).map (·.l)) ∧ (∀ g, rowB v5 = some g → w.heap.size ≤ g) ∧ Keep0 w w', fun _ v7 _ => match v7 with | .int _ i => M.W.length - i.toNat | _ => 0,
      ⟨0, rfl, by omega, by simpa [qsel] using hr1, hf1, hk1⟩, ?_⟩
    rintro v5 v7 w2 ⟨i, rfl, hi, hr2, hf2, hk2⟩
    have hM2 := hM.keep0 hk2
    simp only [F28_s12, F28_s12_t, ↓uL.1, tL.1, cellIn_cells, frzIn_00, setIn_cells, cellsIn_cells, List.getElem?_toArray, List.getElem?_cons_zero, List.getElem?_cons_succ, Option.isSome_some, Option.getD_some, Nat.zero_add, Nat.add_zero, List.setIfInBounds_toArray, List.set_cons_zero, List.set_cons_succ, put_same, add_new, add_old, oneV, Value.cells, List.size_toArray, List.length_cons, List.length_nil, List.extract_toArray, List.extract_eq_take_drop, Nat.reduceAdd, Nat.reduceSub, Nat.reduceLeDiff, if_true, List.drop_zero, List.take_succ_cons, List.take_zero, List.drop_succ_cons, drew_heap, hM2.cell, un_lenR und28 hM2.rw, F28_s13]
    by_cases hlt2 : i < M.W.length
    · have e2 : decide ((i : Int) < (M.W.length : Int)) = true := by rw [decide_eq_true_eq]; omega
      have e5 : IntKind.i64.wrap ((i : Int) + 1) = ((i + 1 : Nat) : Int) := by rw [wrap_id (by omega) (by omega)]; omega
      obtain ⟨y, hy⟩ : ∃ y, M.W[i]? = some y := ⟨M.W[i], List.getElem?_eq_getElem hlt2⟩
      have htk : M.W.take (i + 1) = M.W.take i ++ [y] := by rw [List.take_add_one, hy]; rfl
      obtain ⟨g, o, hg, hgl, ix, cl⟩ := RowW.read hM2.rw hy
      have cl3 := ws_lock cl
      have c1 := lk1 cl3
      have c3 := ws3 cl
      have hql := qlen (M.W.take i) c
      rw [List.length_take] at hql
      have skip : ¬ (y.l.res = r ∧ y.ch = c) → F28_s15 R (fun y0 y1 w' => (∃ u : Nat, y1 = .int .i64 u ∧ u ≤ 2 ∧ RowL w' y0 (((if 1 ≤ u then qsel M.W r true else []) ++ (if 2 ≤ u then qsel M.W r false else [])).map (·.l)) ∧ (∀ g, rowB y0 = some g → w.heap.size ≤ g) ∧ Keep0 w w') ∧ (match y1 with | .int _ u => 2 - u.toNat | _ => 0) < (match (Value.int .i64 u) with | .int _ u => 2 - u.toNat | _ => 0))
          (fun y0 y1 w' => (∃ i : Nat, y1 = .int .i64 i ∧ i ≤ M.W.length ∧ RowL w' y0 ((base ++ qsel (M.W.take i) r c).map (·.l)) ∧ (∀ g, rowB y0 = some g → w.heap.size ≤ g) ∧ Keep0 w w') ∧ (match y1 with | .int _ i => M.W.length - i.toNat | _ => 0) < (match (Value.int .i64 i) with | .int _ i => M.W.length - i.toNat | _ => 0)) (ptr M.bm) (.string r) v5 (.int .i64 u) (.int .i64 i) w2 := fun hno => by
        simp only [F28_s15, F28_s15_t, ↓uL.1, e5]
        refine ⟨⟨i + 1, rfl, by omega, ?_, hf2, hk2⟩, by simp; omega⟩
        rw [htk, qsel_append, qsel_one, if_neg hno, List.append_nil]
        exact hr2
      simp only [e2, ↓uL.1, F28_s16, F28_s16_t, tL.1, cellIn_cells, frzIn_00, setIn_cells, cellsIn_cells, List.getElem?_toArray, List.getElem?_cons_zero, List.getElem?_cons_succ, Option.isSome_some, Option.getD_some, Nat.zero_add, Nat.add_zero, List.setIfInBounds_toArray, List.set_cons_zero, List.set_cons_succ, put_same, add_new, add_old, oneV, Value.cells, List.size_toArray, List.length_cons, List.length_nil, List.extract_toArray, List.extract_eq_take_drop, Nat.reduceAdd, Nat.reduceSub, Nat.reduceLeDiff, if_true, List.drop_zero, List.take_succ_cons, List.take_zero, List.drop_succ_cons, drew_heap, hM2.cell, uv_eq (ix _), c1, ba_toList_eq]
      by_cases h1 : y.l.res = r
      · rw [decide_eq_true h1]
        simp only [↓uL.1, tL.1, cellIn_cells, frzIn_00, setIn_cells, cellsIn_cells, List.getElem?_toArray, List.getElem?_cons_zero, List.getElem?_cons_succ, Option.isSome_some, Option.getD_some, Nat.zero_add, Nat.add_zero, List.setIfInBounds_toArray, List.set_cons_zero, List.set_cons_succ, put_same, add_new, add_old, oneV, Value.cells, List.size_toArray, List.length_cons, List.length_nil, List.extract_toArray, List.extract_eq_take_drop, Nat.reduceAdd, Nat.reduceSub, Nat.reduceLeDiff, if_true, List.drop_zero, List.take_succ_cons, List.take_zero, List.drop_succ_cons, drew_heap, hM2.cell, uv_eq (ix _), c3, uv_beq, hcc, if_true]
        cases h2 : (y.ch == c)
        · simp only [↓uL.1, Bool.false_eq_true, if_false, if_true, F28_s17]
          exact skip (fun hh => by rw [hh.2] at h2; simp at h2)
        · have hld : (Instr.loadAt 42 (.pointer (some ⟨g, o, none⟩))).run Tryz.prog w2 = .ok (.agg y.l.cells.toArray) w2 := run_loadN (n := 3) (by kernel_rfl) cl3
          simp only [↓uL.1, if_true, F28_s17, F28_s18, F28_s18_t, tL.1, cellIn_cells, frzIn_00, setIn_cells, cellsIn_cells, List.getElem?_toArray, List.getElem?_cons_zero, List.getElem?_cons_succ, Option.isSome_some, Option.getD_some, Nat.zero_add, Nat.add_zero, List.setIfInBounds_toArray, List.set_cons_zero, List.set_cons_succ, put_same, add_new, add_old, oneV, Value.cells, List.size_toArray, List.length_cons, List.length_nil, List.extract_toArray, List.extract_eq_take_drop, Nat.reduceAdd, Nat.reduceSub, Nat.reduceLeDiff, if_true, List.drop_zero, List.take_succ_cons, List.take_zero, List.drop_succ_cons, drew_heap, hM2.cell, uv_eq (ix _), uv_eq hld]
          have hs2 := hk2.size
          have hlen : ((base ++ qsel (M.W.take i) r c).map (·.l)).length ≤ 2199023255552 := by rw [List.length_map, List.length_append]; omega
          refine un_appL (x := y.l) hr2 hlen hf2 hs2 fun v' w3 hr3 hf3 hk3 => ?_
          simp only [F28_s15, F28_s15_t, ↓uL.1, e5]
          refine ⟨⟨i + 1, rfl, by omega, ?_, hf3, hk2.trans hk3 (fun b hb hx => by omega)⟩, by simp; omega⟩
          rw [htk, qsel_append, qsel_one, if_pos ⟨h1, by simpa using h2⟩, ← List.append_assoc, List.map_append]
          exact hr3
      · rw [decide_eq_false h1]
        simp only [↓uL.1, Bool.false_eq_true, if_false, F28_s17]
        exact skip (fun hh => h1 hh.1)
    · have e2 : decide ((i : Int) < (M.W.length : Int)) = false := by rw [decide_eq_false_iff_not]; omega
      have hil : i = M.W.length := by omega
      rw [hil, List.take_length] at hr2
      simp only [e2, ↓uL.1, F28_s8, F28_s8_t, e4]
      refine ⟨⟨u + 1, rfl, by omega, ?_, hf2, hk2⟩, by simp; omega⟩
      have hu2 : u = 0 ∨ u = 1 := by omega
      rcases hu2 with rfl | rfl
      · have hct : c = true := by rw [← hcc]; rfl
        rw [← hbase, hct] at hr2
        simpa using hr2
      · have hct : c = false := by rw [← hcc]; rfl
        rw [← hbase, hct] at hr2
        simpa using hr2
  · have e1 : decide ((u : Int) < 2) = false := by rw [decide_eq_false_iff_not]; omega
    have hu2 : u = 2 := by omega
    subst hu2
    simp only [e1, ↓uL.1, F28_s3, F28_s3_t]
    exact h v5 w1 hr1 hf1 hk1
end Go.Proofs.YtpghlemcgjogpaaGreat
