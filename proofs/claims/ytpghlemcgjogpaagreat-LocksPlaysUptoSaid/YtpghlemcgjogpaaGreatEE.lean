/- The document's table of locks: giving, forgetting. -/
import Derived.Test.YtpghlemcgjogpaaGreatED
set_option linter.unusedVariables false
set_option linter.unusedSimpArgs false
set_option linter.unnecessarySimpa false
set_option maxRecDepth 100000
namespace Go.Proofs.YtpghlemcgjogpaaGreat
open Go.Sx

theorem run_gtI {P : Program} {w : World} {t : Nat} {x y : Operand} {q : IntKind} {a b : Int} : (binS .gtr t x y (.int q a) (.int q b)).run P w = .ok (.bool (decide (a > b))) w := by simp [binS, eqGuard, binOp, Op.intCmp]
theorem lcells_app (a b : List Lk) : lcells (a ++ b) = lcells a ++ lcells b := List.flatMap_append
theorem lcells_set : ∀ (l : List Lk) (i : Nat) (x : Lk), i < l.length → (lcells l).take (i * 3) ++ x.cells ++ (lcells l).drop ((i + 1) * 3) = lcells (l.set i x)
  | [], i, x, h => by simp at h
  | y :: l, 0, x, _ => by simp [lcells, Lk.cells]
  | y :: l, i + 1, x, h => by
    have ih := lcells_set l i x (by simpa using h)
    have e1 : lcells (y :: l) = y.cells ++ lcells l := by simp [lcells]
    have e2 : lcells ((y :: l).set (i + 1) x) = y.cells ++ lcells (l.set i x) := by simp [lcells]
    have l3 : y.cells.length = 3 := rfl
    have a1 : List.take ((i + 1) * 3) (y.cells ++ lcells l) = y.cells ++ (lcells l).take (i * 3) := by
      have h0 : (i + 1) * 3 = y.cells.length + i * 3 := by rw [l3]; omega
      rw [h0, List.take_length_add_append]
    have a2 : List.drop ((i + 1 + 1) * 3) (y.cells ++ lcells l) = (lcells l).drop ((i + 1) * 3) := by
      have h0 : (i + 1 + 1) * 3 = y.cells.length + (i + 1) * 3 := by rw [l3]; omega
      rw [h0, ← List.drop_drop, List.drop_left]
    rw [e1, e2, ← ih, a1, a2]
    simp only [List.append_assoc]
theorem lcells_setm : ∀ (l : List Lk) (i : Nat) (x : Lk) (m : Int), l[i]? = some x → (lcells l).set (i * 3 + 2) (.int .i64 m) = lcells (l.set i ⟨x.txn, x.res, m⟩)
  | [], i, x, m, h => by simp at h
  | y :: l, 0, x, m, h => by
    simp only [List.getElem?_cons_zero, Option.some.injEq] at h
    subst h
    simp [lcells, Lk.cells]
  | y :: l, i + 1, x, m, h => by
    have ih := lcells_setm l i x m (by simpa using h)
    have e1 : lcells (y :: l) = .int .i64 y.txn :: .string y.res :: .int .i64 y.mode :: lcells l := by simp [lcells, Lk.cells]
    have e2 : lcells ((y :: l).set (i + 1) ⟨x.txn, x.res, m⟩) = .int .i64 y.txn :: .string y.res :: .int .i64 y.mode :: lcells (l.set i ⟨x.txn, x.res, m⟩) := by simp [lcells, Lk.cells]
    rw [e1, e2, ← ih, show (i + 1) * 3 + 2 = i * 3 + 2 + 1 + 1 + 1 by omega]
    simp only [List.set_cons_succ]
theorem RowL.setM {w : World} {v : Value} {l : List Lk} {i : Nat} {x : Lk} (h : RowL w v l) (hx : l[i]? = some x) (m : Int) : ∃ g o, rowB v = some g ∧ (∀ w1, (Instr.indexAt 27 v (.int .i64 i)).run Tryz.prog w1 = .ok (.pointer (some ⟨g, o, none⟩)) w1) ∧ (Sx.cellIn (w.heap[g]?) (o + 2)).isSome = true ∧ Sx.frzIn (w.heap[g]?) (o + 2) = false ∧
    RowL (World.put w g (Sx.setIn (w.heap[g]?) (o + 2) (.int .i64 m))) v (l.set i ⟨x.txn, x.res, m⟩) := by
  have hlt := (List.getElem?_eq_some_iff.1 hx).1
  obtain ⟨h0, h2⟩ := h
  rcases h2 with ⟨rfl, hn⟩ | ⟨g, off, cap, cur, rfl, hh, hnc, hcm, hcs, htk⟩
  · omega
  · have hle : (i + 1) * 3 ≤ l.length * 3 := Nat.mul_le_mul_right _ hlt
    have hle2 : l.length * 3 ≤ cap * 3 := Nat.mul_le_mul_right _ hnc
    have hix : ∀ w1, (Instr.indexAt 27 (.slice (some ⟨g, off, none⟩) l.length cap) (.int .i64 i)).run Tryz.prog w1 = .ok (.pointer (some ⟨g, off + i * 3, none⟩)) w1 := fun w1 => by
      have := run_indexAt (P := Tryz.prog) (w := w1) (g := g) (off := off) (n := l.length) (c := cap) (q := .i64) (i := (i : Int)) und32 siz37 (by omega) (by omega)
      simpa using this
    refine ⟨g, off + i * 3, rfl, hix, ?_, ?_, ?_⟩
    · rw [hh, cellIn_cells, Array.getElem?_eq_getElem (by omega)]; rfl
    · rw [hh]; exact frzIn_00
    · rw [hh, setIn_cells]
      refine ⟨by rw [← lcells_setm l i x m hx, List.length_set, List.length_set]; exact h0, .inr ⟨g, off, cap, _, by rw [List.length_set], put_same (by rw [hh]; rfl), by rw [List.length_set]; exact hnc, hcm, ?_, ?_⟩⟩
      · rw [Array.size_setIfInBounds]; exact hcs
      · rw [List.length_set, Array.toList_setIfInBounds, List.drop_set, if_neg (by omega), List.take_set, htk, show off + i * 3 + 2 - off = i * 3 + 2 by omega]
        exact lcells_setm l i x m hx

/-- One more wish behind those there are. -/
theorem bslW (a : Int) (r : ByteArray) (b : Int) (c : Bool) (w : World) : (Instr.buildSlice 28 1 #[(0, .agg #[.int .i64 a, .string r, .int .i64 b, .bool c])]).run Tryz.prog w = .ok (.slice (some ⟨w.heap.size, 0, none⟩) 1 1) (World.add w (.cells #[.int .i64 a, .string r, .int .i64 b, .bool c] 70)) := by kernel_rfl
theorem bslW0 (w : World) : (Instr.buildSlice 28 0 #[]).run Tryz.prog w = .ok (.slice (some ⟨w.heap.size, 0, none⟩) 0 0) (World.add w (.cells #[] 70)) := by kernel_rfl
theorem un_appW {w : World} {v : Value} {l : List Ws} {x : Ws} {R : Ending → World → Prop} {k : Value → World → Prop} (h : RowW w v l) (hlt : l.length ≤ 1099511627776) {cs : Array Bool} {ty : Nat}
    (hk : ∀ v' w', RowW w' v' (l ++ [x]) → (rowB v' = rowB v ∨ ∃ g, rowB v' = some g ∧ w.heap.size ≤ g) → Keep (fun b => rowB v = some b) w w' → k v' w') :
    uv Tryz.prog R (Instr.buildSlice 28 1 #[(0, .agg #[.int .i64 x.l.txn, .string x.l.res, .int .i64 x.l.mode, .bool x.ch])]) w (fun s w => un Tryz.prog R (builtin .append #[28, 28] ty cs #[v, s]) w k) := by
  have hmx : 4398046511104 ≤ maxLen := by decide
  rw [uv_eq (bslW _ _ _ _ _)]
  have hka : Keep0 w (World.add w (.cells #[.int .i64 x.l.txn, .string x.l.res, .int .i64 x.l.mode, .bool x.ch] 70)) := (Keep.refl _ w).add
  have hsr : Row (World.add w (.cells #[.int .i64 x.l.txn, .string x.l.res, .int .i64 x.l.mode, .bool x.ch] 70)) 70 4 (.slice (some ⟨w.heap.size, 0, none⟩) 1 1) 1 x.cells := Row.fresh (cs := x.cells) rfl (by decide)
  refine un_appendR apWs (by decide) (Row.keep h hka (fun _ _ => id)) hsr (by intro u hu; exact wscells_one [x] u (by simpa [wscells] using hu)) (by omega) (by omega) fun v' w' h1 hk1 hf1 => hk v' w' ?_ ?_ ?_
  · unfold RowW wscells at *
    rw [List.length_append, List.flatMap_append]
    simpa using h1
  · refine hf1.imp id ?_
    rintro ⟨g, e, hg⟩
    exact ⟨g, e, Nat.le_trans hka.size hg⟩
  · exact (hka.mono (fun _ _ h => h.elim)).trans hk1 (fun b _ hv => hv)
/-- What stays known of the table behind a call that changes it. -/
structure MAfter (M : MT) (w w' : World) (M' : MT) : Prop where
  at' : MTAt w' M'
  bm : M'.bm = M.bm
  keep : Keep M.foot w w'
  foot : ∀ b, M'.foot b → M.foot b ∨ w.heap.size ≤ b
theorem MAfter.refl {M : MT} {w : World} (h : MTAt w M) : MAfter M w w M := ⟨h, rfl, Keep.refl _ w, fun _ h => .inl h⟩
theorem MAfter.trans {M M1 M2 : MT} {w w1 w2 : World} (h : MAfter M w w1 M1) (h' : MAfter M1 w1 w2 M2) : MAfter M w w2 M2 :=
  ⟨h'.at', h'.bm.trans h.bm, h.keep.trans h'.keep fun b hb hf => (h.foot b hf).resolve_right (by omega), fun b hb => by
    rcases h'.foot b hb with h1 | h1
    · exact h.foot b h1
    · exact .inr (Nat.le_trans h.keep.size h1)⟩
theorem MAfter.keep0 {M M1 : MT} {w w1 w2 : World} (h : MAfter M w w1 M1) (hk : Keep0 w1 w2) : MAfter M w w2 M1 :=
  ⟨h.at'.keep0 hk, h.bm, h.keep.trans hk (fun _ _ h => h.elim), h.foot⟩
/-- The table gets another list of wishes. -/
theorem MTAt.setW {M : MT} {w : World} (h : MTAt w M) {v : Value} {l : List Ws} (hv : RowW w v l) (hf : ∀ g, rowB v = some g → g ≠ M.bm) : MTAt (World.put w M.bm (.cells #[M.vh, v] 30 (0, 0))) { M with vw := v, W := l } := by
  have hnH : ∀ g, rowB M.vh = some g → M.bm ≠ g := fun g hg e => by
    obtain ⟨c, hc⟩ := row_block h.rh hg
    rw [← e, h.cell] at hc
    simp only [Option.some.injEq, Obj.cells.injEq] at hc
    exact absurd hc.2.1 (by decide)
  exact ⟨put_same (by rw [h.cell]; rfl), h.rh.congr fun g hg => put_ne (hnH g hg), Row.congr hv fun g hg => put_ne (hf g hg).symm⟩
theorem MTAt.setH {M : MT} {w : World} (h : MTAt w M) {v : Value} {l : List Lk} (hv : RowL w v l) (hf : ∀ g, rowB v = some g → g ≠ M.bm) : MTAt (World.put w M.bm (.cells #[v, M.vw] 30 (0, 0))) { M with vh := v, H := l } := by
  have hnW : ∀ g, rowB M.vw = some g → M.bm ≠ g := fun g hg e => by
    obtain ⟨c, hc⟩ := row_block h.rw hg
    rw [← e, h.cell] at hc
    simp only [Option.some.injEq, Obj.cells.injEq] at hc
    exact absurd hc.2.1 (by decide)
  exact ⟨put_same (by rw [h.cell]; rfl), hv.congr fun g hg => put_ne (hf g hg).symm, Row.congr h.rw fun g hg => put_ne (hnW g hg)⟩
theorem rowL_ne {M : MT} {w : World} (h : MTAt w M) {v : Value} {l : List Lk} (hv : RowL w v l) : ∀ g, rowB v = some g → g ≠ M.bm := fun g hg e => by
  obtain ⟨c, hc⟩ := row_block hv hg
  rw [e, h.cell] at hc
  simp only [Option.some.injEq, Obj.cells.injEq] at hc
  exact absurd hc.2.1 (by decide)
theorem rowW_ne {M : MT} {w : World} (h : MTAt w M) {v : Value} {l : List Ws} (hv : RowW w v l) : ∀ g, rowB v = some g → g ≠ M.bm := fun g hg e => by
  obtain ⟨c, hc⟩ := row_block hv hg
  rw [e, h.cell] at hc
  simp only [Option.some.injEq, Obj.cells.injEq] at hc
  exact absurd hc.2.1 (by decide)
theorem rowLW_ne {w : World} {v u : Value} {l : List Lk} {m : List Ws} (hv : RowL w v l) (hu : RowW w u m) : ∀ g, rowB v = some g → rowB u ≠ some g := fun g hg hg' => by
  obtain ⟨c, hc⟩ := row_block hv hg
  obtain ⟨c', hc'⟩ := row_block hu hg'
  rw [hc] at hc'
  simp only [Option.some.injEq, Obj.cells.injEq] at hc'
  exact absurd hc'.2.1 (by decide)

theorem tahead_c (a b : Lk) (w : World) (R : Ending → World → Prop) (h : ∀ w', Keep0 w w' → R (.returned (.bool (aheadR a b))) w') : Calls Tryz.prog 54 #[.agg a.cells.toArray, .agg b.cells.toArray] w R := by
  apply F54_calls
  simp only [F54_s1, F54_s1_t, ↓uL.1, Value.cells, hadd_size]
  have h1 : (World.add (World.add w (.cells a.cells.toArray 42)) (.cells b.cells.toArray 42)).heap[w.heap.size]? = some (.cells #[.int .i64 a.txn, .string a.res, .int .i64 a.mode] 42 (0, 0)) := by
    rw [add_old (by rw [add_new]; rfl)]; exact add_new
  have h2 : (World.add (World.add w (.cells a.cells.toArray 42)) (.cells b.cells.toArray 42)).heap[w.heap.size + 1]? = some (.cells #[.int .i64 b.txn, .string b.res, .int .i64 b.mode] 42 (0, 0)) := by
    have := add_new (w := World.add w (.cells a.cells.toArray 42)) (o := .cells b.cells.toArray 42)
    rw [hadd_size] at this
    exact this
  have hk : Keep0 w (World.add (World.add w (.cells a.cells.toArray 42)) (.cells b.cells.toArray 42)) := ((Keep.refl _ w).add).add
  generalize World.add (World.add w (.cells a.cells.toArray 42)) (.cells b.cells.toArray 42) = w2 at h1 h2 hk ⊢
  have := h w2 hk
  unfold aheadR at this
  simp only [tL.1, cellIn_cells, frzIn_00, setIn_cells, cellsIn_cells, List.getElem?_toArray, List.getElem?_cons_zero, List.getElem?_cons_succ, Option.isSome_some, Option.getD_some, Nat.zero_add, Nat.add_zero, List.setIfInBounds_toArray, List.set_cons_zero, List.set_cons_succ, put_same, add_new, add_old, oneV, Value.cells, List.size_toArray, List.length_cons, List.length_nil, List.extract_toArray, List.extract_eq_take_drop, Nat.reduceAdd, Nat.reduceSub, Nat.reduceLeDiff, if_true, List.drop_zero, List.take_succ_cons, List.take_zero, List.drop_succ_cons, drew_heap, ↓uL.1, h1, h2, ba_ne, F54_s2]
  by_cases e : a.res = b.res
  · rw [if_pos e] at this
    rw [decide_eq_true e]
    simp only [Bool.not_true, ↓uL.1, F54_s3, F54_s3_t, tL.1, cellIn_cells, frzIn_00, setIn_cells, cellsIn_cells, List.getElem?_toArray, List.getElem?_cons_zero, List.getElem?_cons_succ, Option.isSome_some, Option.getD_some, Nat.zero_add, Nat.add_zero, List.setIfInBounds_toArray, List.set_cons_zero, List.set_cons_succ, put_same, add_new, add_old, oneV, Value.cells, List.size_toArray, List.length_cons, List.length_nil, List.extract_toArray, List.extract_eq_take_drop, Nat.reduceAdd, Nat.reduceSub, Nat.reduceLeDiff, if_true, List.drop_zero, List.take_succ_cons, List.take_zero, List.drop_succ_cons, drew_heap, h1, h2]
    exact this
  · rw [if_neg e] at this
    rw [decide_eq_false e]
    simp only [Bool.not_false, ↓uL.1, F54_s4, F54_s4_t, tL.1, cellIn_cells, frzIn_00, setIn_cells, cellsIn_cells, List.getElem?_toArray, List.getElem?_cons_zero, List.getElem?_cons_succ, Option.isSome_some, Option.getD_some, Nat.zero_add, Nat.add_zero, List.setIfInBounds_toArray, List.set_cons_zero, List.set_cons_succ, put_same, add_new, add_old, oneV, Value.cells, List.size_toArray, List.length_cons, List.length_nil, List.extract_toArray, List.extract_eq_take_drop, Nat.reduceAdd, Nat.reduceSub, Nat.reduceLeDiff, if_true, List.drop_zero, List.take_succ_cons, List.take_zero, List.drop_succ_cons, drew_heap, h1, h2, uv_strlt]
    exact this
theorem tforget_c (M : MT) (t : Int) (w : World) (hM : MTAt w M) (hW : M.W.length ≤ 1048576) (R : Ending → World → Prop) (h : ∀ w' M', MAfter M w w' M' → M'.H = M.H → M'.W = forgetR M.W t → R (.returned (.tuple #[])) w') : Calls Tryz.prog 35 #[ptr M.bm, .int .i64 t] w R := by
  apply F35_calls
  simp only [F35_s1, F35_s1_t, uv_eq (bslW0 _)]
  have hka : Keep0 w (World.add w (.cells #[] 70)) := (Keep.refl _ w).add
  have hr0 : RowW (World.add w (.cells #[] 70)) (.slice (some ⟨w.heap.size, 0, none⟩) 0 0) [] := Row.fresh (cs := []) rfl (by decide)
  generalize World.add w (.cells #[] 70) = wa at hka hr0
  simp only [F35_s4]
  refine ⟨fun v4 v5 w' => ∃ i : Nat, v5 = .int .i64 i ∧ i ≤ M.W.length ∧ RowW w' v4 (forgetR (M.W.take i) t) ∧ (∀ g, rowB v4 = some g → w.heap.size ≤ g) ∧ Keep0 w w', fun _ v5 _ => match v5 with | .int _ i => M.W.length - i.toNat | _ => 0, ⟨0, rfl, by omega, hr0, fun g hg => ?_, hka⟩, ?_⟩
  · have e : w.heap.size = g := by simpa [rowB] using hg
    omega
  rintro v4 v5 w1 ⟨i, rfl, hi, hr1, hf1, hk1⟩
  have hM1 := hM.keep0 hk1
  simp only [F35_s5, F35_s5_t, ↓uL.1, tL.1, cellIn_cells, frzIn_00, setIn_cells, cellsIn_cells, List.getElem?_toArray, List.getElem?_cons_zero, List.getElem?_cons_succ, Option.isSome_some, Option.getD_some, Nat.zero_add, Nat.add_zero, List.setIfInBounds_toArray, List.set_cons_zero, List.set_cons_succ, put_same, add_new, add_old, oneV, Value.cells, List.size_toArray, List.length_cons, List.length_nil, List.extract_toArray, List.extract_eq_take_drop, Nat.reduceAdd, Nat.reduceSub, Nat.reduceLeDiff, if_true, List.drop_zero, List.take_succ_cons, List.take_zero, List.drop_succ_cons, drew_heap, hM1.cell, un_lenR und28 hM1.rw, F35_s6]
  by_cases hlt : i < M.W.length
  · have e1 : decide ((i : Int) < (M.W.length : Int)) = true := by rw [decide_eq_true_eq]; omega
    have e4 : IntKind.i64.wrap ((i : Int) + 1) = ((i + 1 : Nat) : Int) := by rw [wrap_id (by omega) (by omega)]; omega
    obtain ⟨y, hy⟩ : ∃ y, M.W[i]? = some y := ⟨M.W[i], List.getElem?_eq_getElem hlt⟩
    have htk : M.W.take (i + 1) = M.W.take i ++ [y] := by rw [List.take_add_one, hy]; rfl
    have hfl : (forgetR (M.W.take i) t).length ≤ i := by
      have := List.length_filter_le (fun x : Ws => x.l.txn != t) (M.W.take i)
      rw [List.length_take] at this
      unfold forgetR; omega
    obtain ⟨g, o, hg, hgl, ix, cl⟩ := RowW.read hM1.rw hy
    have cl3 := ws_lock cl
    have c0 := lk0 cl3
    simp only [Nat.add_zero] at c0
    have hld : (Instr.loadAt 70 (.pointer (some ⟨g, o, none⟩))).run Tryz.prog w1 = .ok (.agg #[.int .i64 y.l.txn, .string y.l.res, .int .i64 y.l.mode, .bool y.ch]) w1 := run_loadN (n := 4) (by kernel_rfl) cl
    simp only [e1, ↓uL.1, F35_s9, F35_s9_t, tL.1, cellIn_cells, frzIn_00, setIn_cells, cellsIn_cells, List.getElem?_toArray, List.getElem?_cons_zero, List.getElem?_cons_succ, Option.isSome_some, Option.getD_some, Nat.zero_add, Nat.add_zero, List.setIfInBounds_toArray, List.set_cons_zero, List.set_cons_succ, put_same, add_new, add_old, oneV, Value.cells, List.size_toArray, List.length_cons, List.length_nil, List.extract_toArray, List.extract_eq_take_drop, Nat.reduceAdd, Nat.reduceSub, Nat.reduceLeDiff, if_true, List.drop_zero, List.take_succ_cons, List.take_zero, List.drop_succ_cons, drew_heap, hM1.cell, uv_eq (ix _), c0, F35_s10]
    cases h1 : (y.l.txn != t)
    · simp only [↓uL.1, F35_s8, F35_s8_t, e4]
      refine ⟨⟨i + 1, rfl, by omega, ?_, hf1, hk1⟩, by simp; omega⟩
      have : forgetR (M.W.take (i + 1)) t = forgetR (M.W.take i) t := by
        unfold forgetR; rw [htk, List.filter_append]; simp [h1]
      rw [this]; exact hr1
    · simp only [↓uL.1, F35_s11, F35_s11_t, tL.1, cellIn_cells, frzIn_00, setIn_cells, cellsIn_cells, List.getElem?_toArray, List.getElem?_cons_zero, List.getElem?_cons_succ, Option.isSome_some, Option.getD_some, Nat.zero_add, Nat.add_zero, List.setIfInBounds_toArray, List.set_cons_zero, List.set_cons_succ, put_same, add_new, add_old, oneV, Value.cells, List.size_toArray, List.length_cons, List.length_nil, List.extract_toArray, List.extract_eq_take_drop, Nat.reduceAdd, Nat.reduceSub, Nat.reduceLeDiff, if_true, List.drop_zero, List.take_succ_cons, List.take_zero, List.drop_succ_cons, drew_heap, hM1.cell, uv_eq (ix _), uv_eq hld]
      refine un_appW (x := y) hr1 (by omega) fun v' w2 hr2 hf2 hk2 => ?_
      have hs1 := hk1.size
      simp only [F35_s8, F35_s8_t, ↓uL.1, e4]
      refine ⟨⟨i + 1, rfl, by omega, ?_, fun g' hg' => ?_, hk1.trans hk2 (fun b hb hv => by have := hf1 b hv; omega)⟩, by simp; omega⟩
      · have : forgetR (M.W.take (i + 1)) t = forgetR (M.W.take i) t ++ [y] := by
          unfold forgetR; rw [htk, List.filter_append]; simp [h1]
        rw [this]; exact hr2
      · rcases hf2 with e | ⟨g2, e, hg2⟩
        · rw [e] at hg'; exact hf1 g' hg'
        · rw [e] at hg'; cases hg'; omega
  · have e1 : decide ((i : Int) < (M.W.length : Int)) = false := by rw [decide_eq_false_iff_not]; omega
    have hil : i = M.W.length := by omega
    rw [hil, List.take_length] at hr1
    have hone : oneV v4 = true := by obtain ⟨a, c, rfl⟩ := Row.len hr1; rfl
    simp only [e1, ↓uL.1, F35_s3, F35_s3_t, tL.1, cellIn_cells, frzIn_00, setIn_cells, cellsIn_cells, List.getElem?_toArray, List.getElem?_cons_zero, List.getElem?_cons_succ, Option.isSome_some, Option.getD_some, Nat.zero_add, Nat.add_zero, List.setIfInBounds_toArray, List.set_cons_zero, List.set_cons_succ, put_same, add_new, add_old, oneV, Value.cells, List.size_toArray, List.length_cons, List.length_nil, List.extract_toArray, List.extract_eq_take_drop, Nat.reduceAdd, Nat.reduceSub, Nat.reduceLeDiff, if_true, List.drop_zero, List.take_succ_cons, List.take_zero, List.drop_succ_cons, drew_heap]
    rw [uu_store1 (by kernel_rfl) (by kernel_rfl) hone (by rw [hM1.cell]; rfl) (by rw [hM1.cell]; rfl), hM1.cell]
    simp only [cellIn_cells, frzIn_00, setIn_cells, cellsIn_cells, List.getElem?_toArray, List.getElem?_cons_zero, List.getElem?_cons_succ, Option.isSome_some, Option.getD_some, Nat.zero_add, Nat.add_zero, List.setIfInBounds_toArray, List.set_cons_zero, List.set_cons_succ, put_same, add_new, add_old, oneV, Value.cells, List.size_toArray, List.length_cons, List.length_nil, List.extract_toArray, List.extract_eq_take_drop, Nat.reduceAdd, Nat.reduceSub, Nat.reduceLeDiff, if_true, List.drop_zero, List.take_succ_cons, List.take_zero, List.drop_succ_cons, drew_heap]
    have hset := hM1.setW hr1 (rowW_ne hM1 hr1)
    have hlb := hM.lt (b := M.bm) (.inl rfl)
    refine h _ { M with vw := v4, W := forgetR M.W t } ⟨hset, rfl, (hk1.mono (fun _ _ h => h.elim)).put (fun _ => .inl rfl), fun b hb => ?_⟩ rfl rfl
    rcases hb with hb | hb | hb
    · exact .inl (.inl hb)
    · exact .inl (.inr (.inl hb))
    · exact .inr (hf1 b hb)
theorem swapL (H : List Lk) (l : Lk) (k : Nat) (y : Lk) (hy : H[k]? = some y) : ((H.take (k + 1) ++ l :: H.drop (k + 1)).set (k + 1) y).set k l = H.take k ++ l :: H.drop k := by
  obtain ⟨hk, e⟩ := List.getElem?_eq_some_iff.1 hy
  have h1 : H.take (k + 1) = H.take k ++ [y] := by rw [List.take_add_one, hy]; rfl
  have h2 : H.drop k = y :: H.drop (k + 1) := by rw [List.drop_eq_getElem_cons hk, e]
  have hl : (H.take (k + 1)).length = k + 1 := by rw [List.length_take]; omega
  have hl0 : (H.take k).length = k := by rw [List.length_take]; omega
  rw [List.set_append_right _ _ (by omega), hl, Nat.sub_self, List.set_cons_zero, h1, List.append_assoc, List.set_append_right _ _ (by omega), hl0, Nat.sub_self, h2]
  rfl
/-- The loop that brings a new lock to its place. -/
theorem tgiveUp_c (M0 : MT) (w0 : World) (l : Lk) (H : List Lk) (hH : H.length ≤ 1099511627776) (M : MT) (w : World) (hA : MAfter M0 w0 w M) (hMH : M.H = H ++ [l]) (R : Ending → World → Prop)
    (h : ∀ w' M', MAfter M0 w0 w' M' → M'.H = H.take (insPos H l H.length) ++ l :: H.drop (insPos H l H.length) → M'.W = M.W → R (.returned (.tuple #[])) w') : F29_s5 R (ptr M0.bm) (.int .i64 H.length) w := by
  simp only [F29_s5]
  refine ⟨fun v5 w' => ∃ (k : Nat) (M' : MT), v5 = .int .i64 k ∧ k ≤ H.length ∧ MAfter M0 w0 w' M' ∧ M'.H = H.take k ++ l :: H.drop k ∧ M'.W = M.W ∧ insPos H l k = insPos H l H.length, fun v5 _ => match v5 with | .int _ k => k.toNat | _ => 0,
    ⟨H.length, M, rfl, Nat.le_refl _, hA, by rw [hMH]; simp, rfl, rfl⟩, ?_⟩
  rintro v5 w1 ⟨k, M1, rfl, hk, hA1, hH1, hW1, hp1⟩
  have hb1 := hA1.bm
  rw [← hb1]
  have hM1 := hA1.at'
  simp only [F29_s6, F29_s6_t]
  refine ⟨fun w' => Keep0 w1 w', (Keep.refl _ w1).drew, HV_of (fun w' _ => run_gtI) ?_⟩
  cases k with
  | zero =>
    have e1 : decide (((0 : Nat) : Int) > 0) = false := by decide
    have hpos : insPos H l H.length = 0 := by rw [← hp1]; rfl
    simp only [e1, GH_tf, GH_undef, Gk_undef, GH_ft, Gk_ft, Gk_tf]
    refine ⟨(Keep.refl _ w1).drew, HV_of (fun w' _ => run_pick) ?_⟩
    simp only [Bool.false_eq_true, if_false, F29_s7, ↓uL.1]
    rw [hpos] at h
    exact h _ M1 (hA1.keep0 (Keep.refl _ w1).drew) hH1 hW1
  | succ k =>
    have e1 : decide (((k + 1 : Nat) : Int) > 0) = true := by rw [decide_eq_true_eq]; omega
    have e2 : IntKind.i64.wrap (((k + 1 : Nat) : Int) - 1) = (k : Int) := by rw [wrap_id (by omega) (by omega)]; omega
    obtain ⟨y, hy⟩ : ∃ y, H[k]? = some y := ⟨H[k], List.getElem?_eq_getElem (by omega)⟩
    have hlt : (H.take (k + 1)).length = k + 1 := by rw [List.length_take]; omega
    have hxl : M1.H[k + 1]? = some l := by
      rw [hH1, List.getElem?_append_right (by omega), hlt, Nat.sub_self]; rfl
    have hxy : M1.H[k]? = some y := by
      rw [hH1, List.getElem?_append_left (by omega), List.getElem?_take_of_lt (by omega)]; exact hy
    obtain ⟨px, ix, lx⟩ := RowL.read hM1.rh hxl
    obtain ⟨py, iy, ly⟩ := RowL.read hM1.rh hxy
    obtain ⟨hgx, hlx, ixx, cx⟩ := lx
    obtain ⟨hgy, hly, iyy, cy⟩ := ly
    have at' : ∀ {w' : World} {g : Nat}, g < w1.heap.size → Keep0 w1 w' → w'.heap[g]? = w1.heap[g]? := fun hg hk => hk.keep _ hg id
    have hcell : ∀ w', Keep0 w1 w' → Sx.cellIn (w'.heap[M1.bm]?) 0 = some M1.vh := fun w' hk => by rw [hk.at hM1.cell id]; rfl
    have hbmlt := hM1.lt (b := M1.bm) (.inl rfl)
    simp only [e1, GH_hit]
    refine HN_nil (HV_field (off := 0) (by kernel_rfl) (HV_load1 (v := M1.vh) (by kernel_rfl) (fun w' hw => by rw [Nat.zero_add]; exact hcell w' hw) (HV_of (fun w' _ => ixx w') (HV_loadN (n := 3) (cs := l.cells.toArray) (by kernel_rfl) (fun w' hw => by rw [at' hlx hw]; exact cx)
      (HN_nil (HV_field (off := 0) (by kernel_rfl) (HV_load1 (v := M1.vh) (by kernel_rfl) (fun w' hw => by rw [Nat.zero_add]; exact hcell w' hw) (HV_of (fun w' _ => run_sub) ?_))))))))
    rw [e2]
    refine HV_of (fun w' _ => iyy w') (HV_loadN (n := 3) (cs := y.cells.toArray) (by kernel_rfl) (fun w' hw => by rw [at' hly hw]; exact cy) ?_)
    simp only [Gk_hit]
    refine un_enter (enters Tryz.func54 (by kernel_rfl) (by kernel_rfl) _ _) (tahead_c l y _ _ fun w2 hk2 => ?_)
    have hk12 : Keep0 w1 w2 := ((Keep.refl (fun _ => False) w1).drew).trans hk2 (fun _ _ h => h)
    refine ⟨hk12, HV_of (fun w' _ => run_pick) ?_⟩
    have hA2 := hA1.keep0 hk12
    have hM2 := hA2.at'
    simp only [if_true, F29_s7]
    have hstep : insPos H l (k + 1) = if aheadR l y = true then insPos H l k else k + 1 := by
      conv => lhs; unfold insPos
      rw [hy]
    cases hah : aheadR l y
    · rw [hah] at hstep
      simp only [Bool.false_eq_true, if_false] at hstep
      simp only [↓uL.1]
      rw [← hp1, hstep] at h
      exact h w2 M1 hA2 hH1 hW1
    · rw [hah, if_pos rfl] at hstep
      simp only [↓uL.1, F29_s10, F29_s10_t, tL.1, cellIn_cells, frzIn_00, setIn_cells, cellsIn_cells, List.getElem?_toArray, List.getElem?_cons_zero, List.getElem?_cons_succ, Option.isSome_some, Option.getD_some, Nat.zero_add, Nat.add_zero, List.setIfInBounds_toArray, List.set_cons_zero, List.set_cons_succ, put_same, add_new, add_old, oneV, Value.cells, List.size_toArray, List.length_cons, List.length_nil, List.extract_toArray, List.extract_eq_take_drop, Nat.reduceAdd, Nat.reduceSub, Nat.reduceLeDiff, if_true, List.drop_zero, List.take_succ_cons, List.take_zero, List.drop_succ_cons, drew_heap, hM2.cell]
      obtain ⟨g1, o1, hg1, hl1, i1, c1⟩ := RowL.read hM2.rh hxl
      have hld : (Instr.loadAt 42 (.pointer (some ⟨g1, o1, none⟩))).run Tryz.prog w2 = .ok (.agg l.cells.toArray) w2 := run_loadN (n := 3) (by kernel_rfl) c1
      simp only [uv_eq (i1 _), uv_eq hld]
      rw [uv_allocS (vs := l.cells) zer37 siz37 rfl rfl (by intro u hu; exact lcells_one [l] u (by simpa [lcells] using hu))]
      have hk3 : Keep0 w2 (World.add w2 (.cells l.cells.toArray 42)) := (Keep.refl _ w2).add
      have hbx : (World.add w2 (.cells l.cells.toArray 42)).heap[w2.heap.size]? = some (.cells l.cells.toArray 42 (0, 0)) := add_new
      have hA3 := hA2.keep0 hk3
      generalize World.add w2 (.cells l.cells.toArray 42) = w3 at hk3 hbx hA3 ⊢
      have hl2 : ∀ g, rowB M1.vh = some g → g < w2.heap.size := fun g hg => hM2.rh.lt hg
      generalize w2.heap.size = bx at hbx hl2 ⊢
      have hM3 := hA3.at'
      have hM3d : MTAt w3.drew M1 := hM3.keep0 (Keep.refl _ w3).drew
      -- the first store
      have hlen1 : M1.H.length = H.length + 1 := by
        rw [hH1, List.length_append, List.length_cons, List.length_drop, hlt]; omega
      obtain ⟨p4, ip4, w4, st4, hr4, hk4⟩ := hM3d.rh.store (P := Tryz.prog) (q := .i64) (i := k + 1) (ys := y.cells) (val := .agg y.cells.toArray) (by omega) und32 siz37 rfl (by intro u hu; exact lcells_one [y] u (by simpa [lcells] using hu)) rfl
      rw [lcells_set _ _ _ (by omega)] at hr4
      obtain ⟨g3, o3, hg3, hl3, i3, c3⟩ := RowL.read hM3.rh hxy
      refine ⟨fun w' => w'.heap = w3.heap, rfl, HN_nil (HV_field (off := 0) (by kernel_rfl) (HV_load1 (v := M1.vh) (by kernel_rfl) (fun w' hw => by rw [hw, hM3.cell]; rfl) (HN_nil (HV_field (off := 0) (by kernel_rfl) (HV_load1 (v := M1.vh) (by kernel_rfl) (fun w' hw => by rw [hw, hM3.cell]; rfl) (HV_of (fun w' _ => run_sub) ?_))))))⟩
      rw [e2]
      refine HV_of (fun w' _ => i3 w') (HV_loadN (n := 3) (cs := y.cells.toArray) (by kernel_rfl) (fun w' hw => by rw [hw]; exact c3) (HV_of (fun w' _ => ip4 w') ?_))
      rw [uu_eq st4]
      have hnb : ¬ rowB M1.vh = some M1.bm := fun e => rowL_ne hM3 hM3.rh _ e rfl
      have hcell4 := hk4.at hM3d.cell hnb
      have hbx4 : w4.heap[bx]? = some (.cells l.cells.toArray 42 (0, 0)) := hk4.at (w := w3.drew) hbx (fun e => by have := hl2 _ e; omega)
      have hrW4 : RowW w4 M1.vw M1.W := Row.keep hM3d.rw hk4 (fun g hg e => rowLW_ne hM3.rh hM3.rw g e hg)
      have hr4' : RowL w4 M1.vh (M1.H.set (k + 1) y) := by
        unfold RowL; rw [List.length_set]; exact hr4
      obtain ⟨p5, ip5, w5, st5, hr5, hk5⟩ := Row.store (w := w4.drew) hr4' (P := Tryz.prog) (q := .i64) (i := k) (ys := l.cells) (val := .agg l.cells.toArray) (by rw [List.length_set]; omega) und32 siz37 rfl (by intro u hu; exact lcells_one [l] u (by simpa [lcells] using hu)) rfl
      rw [lcells_set _ _ _ (by rw [List.length_set]; omega), hH1, swapL H l k y hy] at hr5
      refine ⟨fun w' => w'.heap = w4.heap, rfl, HN_nil (HV_field (off := 0) (by kernel_rfl) (HV_load1 (v := M1.vh) (by kernel_rfl) (fun w' hw => by rw [hw, hcell4]; rfl) (HV_of (fun w' _ => run_sub) ?_)))⟩
      rw [e2]
      refine HV_loadN (n := 3) (cs := l.cells.toArray) (by kernel_rfl) (fun w' hw => by rw [hw, hbx4]; rfl) (HV_of (fun w' _ => ip5 w') ?_)
      rw [uu_eq st5]
      simp only [F29_s9, F29_s9_t, ↓uL.1, e2]
      have hk35 : Keep (fun b => rowB M1.vh = some b) w3 w5 := (((Keep.refl _ w3).drew).trans hk4 (fun _ _ h => h)).trans (((Keep.refl _ w4).drew).trans hk5 (fun _ _ h => h)) (fun _ _ h => h)
      refine ⟨⟨k, { M1 with H := H.take k ++ l :: H.drop k }, rfl, by omega, ⟨⟨hk5.at (w := w4.drew) hcell4 hnb, ?_, Row.keep (w := w4.drew) hrW4 hk5 (fun g hg e => rowLW_ne hM3.rh hM3.rw g e hg)⟩, hA1.bm, hA3.keep.trans hk35 (fun b hb hv => (hA1.foot b (.inr (.inl hv))).resolve_right (by omega)), hA1.foot⟩, rfl, hW1, by rw [← hp1, hstep]⟩, by simp⟩
      show Row _ _ _ _ _ _
      have e9 : (H.take k ++ l :: H.drop k).length = ((H.take (k + 1) ++ l :: H.drop (k + 1)).set (k + 1) y).length := by
        rw [List.length_set, List.length_append, List.length_append, List.length_cons, List.length_cons, List.length_take, List.length_take, List.length_drop, List.length_drop]; omega
      rw [e9]
      exact hr5
theorem tgive_c (M : MT) (l : Lk) (w : World) (hM : MTAt w M) (hH : M.H.length ≤ 1099511627776) (R : Ending → World → Prop) (h : ∀ w' M', MAfter M w w' M' → M'.H = giveR M.H l → M'.W = M.W → R (.returned (.tuple #[])) w') : Calls Tryz.prog 29 #[ptr M.bm, .agg l.cells.toArray] w R := by
  apply F29_calls
  have hmx : 4398046511104 ≤ maxLen := by decide
  simp only [F29_s1, F29_s1_t, ↓uL.1, Value.cells]
  have hka : Keep0 w (World.add w (.cells l.cells.toArray 42)) := (Keep.refl _ w).add
  have hbx : (World.add w (.cells l.cells.toArray 42)).heap[w.heap.size]? = some (.cells l.cells.toArray 42 (0, 0)) := add_new
  generalize World.add w (.cells l.cells.toArray 42) = wa at hka hbx
  simp only [F29_s11]
  refine ⟨fun v4 w' => ∃ i : Nat, v4 = .int .i64 i ∧ i ≤ M.H.length ∧ Keep0 wa w' ∧ ∀ j y, j < i → M.H[j]? = some y → keyB l y = false, fun v4 _ => match v4 with | .int _ i => M.H.length - i.toNat | _ => 0, ⟨0, rfl, by omega, Keep.refl _ wa, fun j y hj => by omega⟩, ?_⟩
  rintro v4 w1 ⟨i, rfl, hi, hk1, hn⟩
  have hk01 : Keep0 w w1 := hka.trans hk1 (fun _ _ h => h)
  have hM1 := hM.keep0 hk01
  have hbx1 := hk1.at hbx id
  have hbx1' : w1.heap[w.heap.size]? = some (.cells #[.int .i64 l.txn, .string l.res, .int .i64 l.mode] 42 (0, 0)) := hbx1
  have hA1 : MAfter M w w1 M := (MAfter.refl hM).keep0 hk01
  simp only [F29_s12, F29_s12_t, ↓uL.1, tL.1, cellIn_cells, frzIn_00, setIn_cells, cellsIn_cells, List.getElem?_toArray, List.getElem?_cons_zero, List.getElem?_cons_succ, Option.isSome_some, Option.getD_some, Nat.zero_add, Nat.add_zero, List.setIfInBounds_toArray, List.set_cons_zero, List.set_cons_succ, put_same, add_new, add_old, oneV, Value.cells, List.size_toArray, List.length_cons, List.length_nil, List.extract_toArray, List.extract_eq_take_drop, Nat.reduceAdd, Nat.reduceSub, Nat.reduceLeDiff, if_true, List.drop_zero, List.take_succ_cons, List.take_zero, List.drop_succ_cons, drew_heap, hM1.cell, un_lenR und32 hM1.rh, F29_s13]
  by_cases hlt : i < M.H.length
  · have e1 : decide ((i : Int) < (M.H.length : Int)) = true := by rw [decide_eq_true_eq]; omega
    have e4 : IntKind.i64.wrap ((i : Int) + 1) = ((i + 1 : Nat) : Int) := by rw [wrap_id (by omega) (by omega)]; omega
    obtain ⟨y, hy⟩ : ∃ y, M.H[i]? = some y := ⟨M.H[i], List.getElem?_eq_getElem hlt⟩
    obtain ⟨g, o, hg, hgl, ix, cl⟩ := RowL.read hM1.rh hy
    have next : ∀ w3, Keep0 w1 w3 → keyB l y = false → F29_s15 R (fun y0 w' => (∃ i : Nat, y0 = .int .i64 i ∧ i ≤ M.H.length ∧ Keep0 wa w' ∧ ∀ j y, j < i → M.H[j]? = some y → keyB l y = false) ∧ (match y0 with | .int _ i => M.H.length - i.toNat | _ => 0) < (match (Value.int .i64 i) with | .int _ i => M.H.length - i.toNat | _ => 0)) (ptr M.bm) (ptr w.heap.size) (.int .i64 i) w3 := fun w3 hk3 hh => by
      simp only [F29_s15, F29_s15_t, ↓uL.1, e4]
      refine ⟨⟨i + 1, rfl, by omega, hk1.trans hk3 (fun _ _ h => h), fun j z hj hz => ?_⟩, by simp; omega⟩
      by_cases e : j = i
      · subst e; rw [hy] at hz; cases hz; exact hh
      · exact hn j z (by omega) hz
    simp only [e1, ↓uL.1, F29_s16, F29_s16_t]
    refine ⟨fun w' => w'.heap = w1.heap, rfl, HN_nil (HV_field (off := 0) (by kernel_rfl) (HV_load1 (v := M.vh) (by kernel_rfl) (fun w' hw => by rw [hw, hM1.cell]; rfl) (HV_of (fun w' _ => ix w') (HV_field (off := 0) (by kernel_rfl) (HV_load1 (v := .int .i64 y.txn) (by kernel_rfl) (fun w' hw => by rw [hw]; exact lk0 cl)
      (HV_field (off := 0) (by kernel_rfl) (HV_load1 (v := .int .i64 l.txn) (by kernel_rfl) (fun w' hw => by rw [hw, hbx1']; rfl) (HV_of (fun w' _ => run_eqI) ?_))))))))⟩
    have hkd : Keep0 w1 w1.drew := (Keep.refl _ w1).drew
    cases h1 : (y.txn == l.txn)
    · simp only [GH_ft, GH_undef]
      refine HV_of (fun w' _ => run_pick) ?_
      simp only [Bool.false_eq_true, if_false, F29_s17, ↓uL.1]
      exact next _ hkd (by simp [keyB, h1])
    · simp only [GH_hit]
      refine HN_nil (HV_field (off := 0) (by kernel_rfl) (HV_load1 (v := M.vh) (by kernel_rfl) (fun w' hw => by rw [hw, hM1.cell]; rfl) (HV_of (fun w' _ => ix w') (HV_field (off := 1) (by kernel_rfl) (HV_load1 (v := .string y.res) (by kernel_rfl) (fun w' hw => by rw [hw]; exact lk1 cl)
        (HV_field (off := 1) (by kernel_rfl) (HV_load1 (v := .string l.res) (by kernel_rfl) (fun w' hw => by rw [hw, hbx1']; rfl) (HV_of (fun w' _ => run_streq) (HV_of (fun w' _ => run_pick) ?_)))))))))
      rw [ba_toList_eq]
      simp only [if_true, F29_s17]
      by_cases h2 : y.res = l.res
      · rw [decide_eq_true h2]
        have hsk : sameK y l := ⟨by simpa using h1, h2⟩
        obtain ⟨g2, o2, hg2, ix2, hi2, hf2, hr2⟩ := RowL.setM (w := w1.drew.drew) hM1.rh hy l.mode
        simp only [↓uL.1, F29_s18, F29_s18_t]
        refine ⟨fun w' => w'.heap = w1.heap, rfl, HN_nil (HV_field (off := 0) (by kernel_rfl) (HV_load1 (v := M.vh) (by kernel_rfl) (fun w' hw => by rw [hw, hM1.cell]; rfl) (HV_field (off := 2) (by kernel_rfl) (HV_load1 (v := .int .i64 l.mode) (by kernel_rfl) (fun w' hw => by rw [hw, hbx1']; rfl) (HV_of (fun w' _ => ix2 w') (HV_field (off := 2) (by kernel_rfl) ?_))))))⟩
        rw [uu_store1 (by kernel_rfl) (by kernel_rfl) rfl hi2 hf2]
        have hgiv : giveR M.H l = M.H.set i ⟨y.txn, y.res, l.mode⟩ := by
          unfold giveR
          have hfi : M.H.findIdx? (keyB l) = some i := by
            rw [List.findIdx?_eq_some_iff_getElem]
            refine ⟨hlt, by rw [(List.getElem?_eq_some_iff.1 hy).2]; exact keyB_iff.2 hsk, fun j hj => ?_⟩
            have := hn j M.H[j] hj (List.getElem?_eq_getElem (by omega))
            simp [this]
          rw [hfi]
          obtain ⟨e1, e2⟩ := hsk
          obtain ⟨a, b, c⟩ := l
          simp only [] at e1 e2 ⊢
          rw [e1, e2]
        have hkp : Keep (fun b => rowB M.vh = some b) w1 (World.put w1.drew.drew g2 (Sx.setIn (w1.drew.drew.heap[g2]?) (o2 + 2) (.int .i64 l.mode))) := (((Keep.refl _ w1).drew).drew).put (fun _ => hg2)
        refine h _ { M with H := M.H.set i ⟨y.txn, y.res, l.mode⟩ } ⟨⟨?_, hr2, ?_⟩, rfl, (hk01.mono (fun _ _ h => h.elim)).trans (hkp.mono fun b _ hv => .inr (.inl hv)) (fun b _ hb => hb), fun b hb => .inl hb⟩ hgiv.symm rfl
        · exact hkp.at hM1.cell (fun e => rowL_ne hM1 hM1.rh _ e rfl)
        · exact Row.keep hM1.rw hkp (fun g hg e => rowLW_ne hM1.rh hM1.rw g e hg)
      · rw [decide_eq_false h2]
        simp only [↓uL.1]
        exact next _ hkd (by simp [keyB, h2])
  · have e1 : decide ((i : Int) < (M.H.length : Int)) = false := by rw [decide_eq_false_iff_not]; omega
    have hil : i = M.H.length := by omega
    simp only [e1, ↓uL.1, F29_s3, F29_s3_t]
    refine ⟨fun w' => Keep0 w1 w', (Keep.refl _ w1).drew, HN_nil (HV_field (off := 0) (by kernel_rfl) (HV_load1 (v := M.vh) (by kernel_rfl) (fun w' hw => by rw [hw.at hM1.cell id]; rfl) (HV_loadN (n := 3) (cs := l.cells.toArray) (by kernel_rfl) (fun w' hw => by rw [hw.at hbx1 id]; rfl) ?_)))⟩
    have hbl : ∀ w, (Instr.buildSlice 27 1 #[(0, .agg l.cells.toArray)]).run Tryz.prog w = .ok (.slice (some ⟨w.heap.size, 0, none⟩) 1 1) (World.add w (.cells l.cells.toArray 42)) := fun w => bslL _ _ _ w
    rw [uv_eq (hbl _)]
    have hkb : Keep0 w1 (World.add w1.drew (.cells l.cells.toArray 42)) := ((Keep.refl _ w1).drew).add
    have hsr : Row (World.add w1.drew (.cells l.cells.toArray 42)) 42 3 (.slice (some ⟨w1.drew.heap.size, 0, none⟩) 1 1) 1 l.cells := Row.fresh (cs := l.cells) rfl (by decide)
    refine ⟨hkb, ?_⟩
    refine un_appendR apL (by decide) (hM1.rh.keep hkb (fun _ _ => id)) hsr (by intro u hu; exact lcells_one [l] u (by simpa [lcells] using hu)) (by omega) (by omega) fun v' w5 h5 hk5 hf5 => ?_
    have hr5 : RowL w5 v' (M.H ++ [l]) := by
      unfold RowL lcells at *
      rw [List.length_append, List.flatMap_append]
      simpa using h5
    have hk15 : Keep (fun b => rowB M.vh = some b) w1 w5 := (hkb.mono (fun _ _ h => h.elim)).trans hk5 (fun b _ hv => hv)
    have hcell5 := hk15.at hM1.cell (fun e => rowL_ne hM1 hM1.rh _ e rfl)
    have hrW5 : RowW w5 M.vw M.W := Row.keep hM1.rw hk15 (fun g hg e => rowLW_ne hM1.rh hM1.rw g e hg)
    have hone : oneV v' = true := by obtain ⟨a, c, rfl⟩ := hr5.len; rfl
    refine HN_nil (HV_field (off := 0) (by kernel_rfl) ?_)
    rw [uu_store1 (by kernel_rfl) (by kernel_rfl) hone (by rw [hcell5]; rfl) (by rw [hcell5]; rfl), hcell5]
    have hne5 : ∀ g, rowB v' = some g → M.bm ≠ g := fun g hg e => by
      obtain ⟨c, hc⟩ := row_block hr5 hg
      rw [← e, hcell5] at hc
      simp only [Option.some.injEq, Obj.cells.injEq] at hc
      exact absurd hc.2.1 (by decide)
    have hneW : ∀ g, rowB M.vw = some g → M.bm ≠ g := fun g hg e => rowW_ne hM1 hM1.rw g hg e.symm
    have hset : Sx.setIn (some (.cells #[M.vh, M.vw] 30 (0, 0))) (0 + 0) v' = .cells #[v', M.vw] 30 (0, 0) := rfl
    rw [hset]
    have hM6 : MTAt (World.put w5 M.bm (.cells #[v', M.vw] 30 (0, 0))) { M with vh := v', H := M.H ++ [l] } :=
      ⟨put_same (by rw [hcell5]; rfl), hr5.congr fun g hg => put_ne (hne5 g hg), Row.congr hrW5 fun g hg => put_ne (hneW g hg)⟩
    have hs1 := hk01.size
    have hA6 : MAfter M w (World.put w5 M.bm (.cells #[v', M.vw] 30 (0, 0))) { M with vh := v', H := M.H ++ [l] } := by
      refine ⟨hM6, rfl, ((hk01.mono (fun _ _ h => h.elim)).trans (hk15.mono fun b _ hv => .inr (.inl hv)) (fun b _ hb => hb)).put (fun _ => .inl rfl), fun b hb => ?_⟩
      rcases hb with hb | hb | hb
      · exact .inl (.inl hb)
      · rcases hf5 with e | ⟨g', e, hg'⟩
        · exact .inl (.inr (.inl (by rw [← e]; exact hb)))
        · simp only [] at hb
          rw [e] at hb; cases hb
          have := hkb.size
          exact .inr (by omega)
      · exact .inl (.inr (.inr hb))
    generalize World.put w5 M.bm (.cells #[v', M.vw] 30 (0, 0)) = w6 at hM6 hA6
    have hcell6 := hM6.cell
    simp only [] at hcell6
    have e5 : IntKind.i64.wrap (((M.H ++ [l]).length : Nat) - 1 : Int) = ((M.H.length : Nat) : Int) := by
      have e6 : (M.H ++ [l]).length = M.H.length + 1 := by simp
      rw [e6, wrap_id (by omega) (by omega)]; omega
    have hlenU := un_lenR (P := Tryz.prog) (R := R) (ty := 3) (cs := #[false]) (k := fun v63 w => uv Tryz.prog R (binS BinOp.sub 3 (.tmp 63) (.const (.int .i64 1)) v63 (.int .i64 1)) w fun v64 w => F29_s5 R (ptr M.bm) v64 w) und32 hM6.rh
    simp only [] at hlenU
    simp only [↓uL.1, tL.1, cellIn_cells, frzIn_00, setIn_cells, cellsIn_cells, List.getElem?_toArray, List.getElem?_cons_zero, List.getElem?_cons_succ, Option.isSome_some, Option.getD_some, Nat.zero_add, Nat.add_zero, List.setIfInBounds_toArray, List.set_cons_zero, List.set_cons_succ, put_same, add_new, add_old, oneV, Value.cells, List.size_toArray, List.length_cons, List.length_nil, List.extract_toArray, List.extract_eq_take_drop, Nat.reduceAdd, Nat.reduceSub, Nat.reduceLeDiff, if_true, List.drop_zero, List.take_succ_cons, List.take_zero, List.drop_succ_cons, drew_heap, hcell6]
    rw [hlenU]
    simp only [↓uL.1, e5]
    refine tgiveUp_c M w l M.H hH _ w6 hA6 rfl R fun w' M' hA' hH' hW' => h w' M' hA' ?_ hW'
    rw [hH']
    unfold giveR
    have hfi : M.H.findIdx? (keyB l) = none := by
      rw [List.findIdx?_eq_none_iff]
      intro x hx
      obtain ⟨j, hj, e⟩ := List.mem_iff_getElem.1 hx
      exact hn j x (by omega) (by rw [List.getElem?_eq_getElem hj, e])
    rw [hfi]
end Go.Proofs.YtpghlemcgjogpaaGreat
