/- The document's table of locks: all edges. -/
import Derived.Test.YtpghlemcgjogpaaGreatEI
set_option linter.unusedVariables false
set_option linter.unusedSimpArgs false
set_option linter.unnecessarySimpa false
set_option maxRecDepth 100000
namespace Go.Proofs.YtpghlemcgjogpaaGreat
open Go.Sx

theorem takeWhile_take {α : Type} (p : α → Bool) (q : List α) (k : Nat) (hk : k ≤ q.length) (h : ∀ j y, j < k → q[j]? = some y → p y = true) (he : k = q.length ∨ ∃ y, q[k]? = some y ∧ p y = false) : q.takeWhile p = q.take k := by
  induction q generalizing k with
  | nil => simp at hk; subst hk; rfl
  | cons x q ih =>
    cases k with
    | zero =>
      rcases he with he | ⟨y, hy, hp⟩
      · simp at he
      · simp only [List.getElem?_cons_zero, Option.some.injEq] at hy
        subst hy
        simp [List.takeWhile_cons, hp]
    | succ k =>
      have hx := h 0 x (by omega) rfl
      rw [List.takeWhile_cons, hx, if_pos rfl, List.take_succ_cons, ih k (by simpa using hk) (fun j y hj hy => h (j + 1) y (by omega) (by simpa using hy)) (by
        rcases he with he | ⟨y, hy, hp⟩
        · left; simpa using he
        · right; exact ⟨y, by simpa using hy, hp⟩)]
theorem un_lenR' {P : Program} {w : World} {t e sz n : Nat} {v : Value} {xs : List Value} {ty : Nat} {cs : Array Bool} (ht : P.underlying t = some (.slice e)) (h : Row w e sz v n xs) (w1 : World) : (builtin .len #[t] ty cs #[v]).run P w1 = .ok (.value (.int .i64 n)) w1 := by
  obtain ⟨a, c, rfl⟩ := h.len
  exact run_builtin .len Builtin.len_ (fun _ _ _ _ => rfl) (by simp [Builtin.len_, run_underlying ht, goInt, go_sem])
theorem tEdges_c (M : MT) (B : Nat) (hB : B ≤ 1048576) (hG : MG B M) (w : World) (hM : MTAt w M) (R : Ending → World → Prop)
    (h : ∀ v w', RowE w' v (edgesR M.H M.W) → (∀ g, rowB v = some g → w.heap.size ≤ g) → Keep0 w w' → R (.returned v) w') : Calls Tryz.prog 38 #[ptr M.bm] w R := by
  apply F38_calls
  have hlen := hG.len
  simp only [F38_s1, F38_s1_t, uv_eq (bslE0 _)]
  have hka : Keep0 w (World.add w (.cells #[] 83)) := (Keep.refl _ w).add
  have hr0 : RowE (World.add w (.cells #[] 83)) (.slice (some ⟨w.heap.size, 0, none⟩) 0 0) [] := Row.fresh (cs := []) rfl (by decide)
  generalize World.add w (.cells #[] 83) = wa at hka hr0
  simp only [F38_s4]
  refine ⟨fun v3 v4 w' => ∃ (i : Nat) (out : List Ed), v4 = .int .i64 i ∧ i ≤ M.W.length ∧ RowE w' v3 out ∧ (∀ g, rowB v3 = some g → w.heap.size ≤ g) ∧ out.length ≤ i * 2097152 ∧ Keep0 w w' ∧ (M.W.drop i).foldl (fun out x => edgesQ M.W x (edgesH M.H x out)) out = edgesR M.H M.W,
    fun _ v4 _ => match v4 with | .int _ i => M.W.length - i.toNat | _ => 0, ⟨0, [], rfl, by omega, hr0, fun g hg => ?_, by simp, hka, rfl⟩, ?_⟩
  · have e : w.heap.size = g := by simpa [rowB] using hg
    omega
  rintro v3 v4 w1 ⟨i, out, rfl, hi, hr1, hf1, hol, hk1, hfin⟩
  have hM1 := hM.keep0 hk1
  have hs1 := hk1.size
  simp only [F38_s5, F38_s5_t, ↓uL.1, tL.1, cellIn_cells, frzIn_00, setIn_cells, cellsIn_cells, List.getElem?_toArray, List.getElem?_cons_zero, List.getElem?_cons_succ, Option.isSome_some, Option.getD_some, Nat.zero_add, Nat.add_zero, List.setIfInBounds_toArray, List.set_cons_zero, List.set_cons_succ, put_same, add_new, add_old, oneV, Value.cells, List.size_toArray, List.length_cons, List.length_nil, List.extract_toArray, List.extract_eq_take_drop, Nat.reduceAdd, Nat.reduceSub, Nat.reduceLeDiff, if_true, List.drop_zero, List.take_succ_cons, List.take_zero, List.drop_succ_cons, drew_heap, hM1.cell, un_lenR und28 hM1.rw, F38_s6]
  by_cases hlt : i < M.W.length
  · have e1 : decide ((i : Int) < (M.W.length : Int)) = true := by rw [decide_eq_true_eq]; omega
    have e4 : IntKind.i64.wrap ((i : Int) + 1) = ((i + 1 : Nat) : Int) := by rw [wrap_id (by omega) (by omega)]; omega
    obtain ⟨x, hx⟩ : ∃ x, M.W[i]? = some x := ⟨M.W[i], List.getElem?_eq_getElem hlt⟩
    have hdr : M.W.drop i = x :: M.W.drop (i + 1) := by
      rw [List.drop_eq_getElem_cons hlt, (List.getElem?_eq_some_iff.1 hx).2]
    have hxo := hG.ow x (List.mem_of_getElem? hx)
    rw [hdr, List.foldl_cons] at hfin
    obtain ⟨g, o, hg, hgl, ix, cl⟩ := RowW.read hM1.rw hx
    have cl3 := ws_lock cl
    have hld : (Instr.loadAt 42 (.pointer (some ⟨g, o, none⟩))).run Tryz.prog w1 = .ok (.agg x.l.cells.toArray) w1 := run_loadN (n := 3) (by kernel_rfl) cl3
    simp only [e1, ↓uL.1, F38_s9, F38_s9_t, tL.1, cellIn_cells, frzIn_00, setIn_cells, cellsIn_cells, List.getElem?_toArray, List.getElem?_cons_zero, List.getElem?_cons_succ, Option.isSome_some, Option.getD_some, Nat.zero_add, Nat.add_zero, List.setIfInBounds_toArray, List.set_cons_zero, List.set_cons_succ, put_same, add_new, add_old, oneV, Value.cells, List.size_toArray, List.length_cons, List.length_nil, List.extract_toArray, List.extract_eq_take_drop, Nat.reduceAdd, Nat.reduceSub, Nat.reduceLeDiff, if_true, List.drop_zero, List.take_succ_cons, List.take_zero, List.drop_succ_cons, drew_heap, hM1.cell, uv_eq (ix _), uv_eq hld]
    rw [uv_allocS (vs := x.l.cells) zer37 siz37 rfl rfl (by intro u hu; exact lcells_one [x.l] u (by simpa [lcells] using hu))]
    have hk2 : Keep0 w1 (World.add w1 (.cells x.l.cells.toArray 42)) := (Keep.refl _ w1).add
    have hbx : (World.add w1 (.cells x.l.cells.toArray 42)).heap[w1.heap.size]? = some (.cells #[.int .i64 x.l.txn, .string x.l.res, .int .i64 x.l.mode] 42 (0, 0)) := add_new
    have hr2 := hr1.keep hk2 (fun _ _ => id)
    have hk02 : Keep0 w (World.add w1 (.cells x.l.cells.toArray 42)) := hk1.trans hk2 (fun _ _ h => h)
    generalize World.add w1 (.cells x.l.cells.toArray 42) = w2 at hbx hr2 hk02 ⊢
    generalize w1.heap.size = bx at hbx ⊢
    simp only [F38_s19]
    -- those that have the thing
    refine ⟨fun v3 v6 w' => ∃ j : Nat, v6 = .int .i64 j ∧ j ≤ M.H.length ∧ RowE w' v3 (((M.H.take j).filter (conflR x.l)).foldl (fun o h => edgeR o ⟨x.l.txn, h.txn⟩) out) ∧ (∀ g, rowB v3 = some g → w.heap.size ≤ g) ∧ (((M.H.take j).filter (conflR x.l)).foldl (fun o h => edgeR o ⟨x.l.txn, h.txn⟩) out).length ≤ i * 2097152 + j ∧
        w'.heap[bx]? = some (.cells #[.int .i64 x.l.txn, .string x.l.res, .int .i64 x.l.mode] 42 (0, 0)) ∧ Keep0 w w',
      fun _ v6 _ => match v6 with | .int _ j => M.H.length - j.toNat | _ => 0, ⟨0, rfl, by omega, by simpa using hr2, hf1, by simpa using hol, hbx, hk02⟩, ?_⟩
    rintro v3 v6 w3 ⟨j, rfl, hj, hr3, hf3, hol3, hbx3, hk3⟩
    have hM3 := hM.keep0 hk3
    have hs3 := hk3.size
    simp only [F38_s20, F38_s20_t, ↓uL.1, tL.1, cellIn_cells, frzIn_00, setIn_cells, cellsIn_cells, List.getElem?_toArray, List.getElem?_cons_zero, List.getElem?_cons_succ, Option.isSome_some, Option.getD_some, Nat.zero_add, Nat.add_zero, List.setIfInBounds_toArray, List.set_cons_zero, List.set_cons_succ, put_same, add_new, add_old, oneV, Value.cells, List.size_toArray, List.length_cons, List.length_nil, List.extract_toArray, List.extract_eq_take_drop, Nat.reduceAdd, Nat.reduceSub, Nat.reduceLeDiff, if_true, List.drop_zero, List.take_succ_cons, List.take_zero, List.drop_succ_cons, drew_heap, hM3.cell, un_lenR und32 hM3.rh, F38_s21]
    by_cases hltj : j < M.H.length
    · have e2 : decide ((j : Int) < (M.H.length : Int)) = true := by rw [decide_eq_true_eq]; omega
      have e5 : IntKind.i64.wrap ((j : Int) + 1) = ((j + 1 : Nat) : Int) := by rw [wrap_id (by omega) (by omega)]; omega
      obtain ⟨y, hy⟩ : ∃ y, M.H[j]? = some y := ⟨M.H[j], List.getElem?_eq_getElem hltj⟩
      have htk : M.H.take (j + 1) = M.H.take j ++ [y] := by rw [List.take_add_one, hy]; rfl
      have hyo := hG.oh y (List.mem_of_getElem? hy)
      obtain ⟨p, ixy, ldy⟩ := RowL.load hM3.rh hy
      have next : ∀ (v' : Value) (w5 : World), RowE w5 v' (((M.H.take (j + 1)).filter (conflR x.l)).foldl (fun o h => edgeR o ⟨x.l.txn, h.txn⟩) out) → (∀ g, rowB v' = some g → w.heap.size ≤ g) → (((M.H.take (j + 1)).filter (conflR x.l)).foldl (fun o h => edgeR o ⟨x.l.txn, h.txn⟩) out).length ≤ i * 2097152 + (j + 1) → w5.heap[bx]? = some (.cells #[.int .i64 x.l.txn, .string x.l.res, .int .i64 x.l.mode] 42 (0, 0)) → Keep0 w w5 →
          F38_s23 R (fun y0 y1 w' => (∃ (i : Nat) (out : List Ed), y1 = .int .i64 i ∧ i ≤ M.W.length ∧ RowE w' y0 out ∧ (∀ g, rowB y0 = some g → w.heap.size ≤ g) ∧ out.length ≤ i * 2097152 ∧ Keep0 w w' ∧ (M.W.drop i).foldl (fun out x => edgesQ M.W x (edgesH M.H x out)) out = edgesR M.H M.W) ∧ (match y1 with | .int _ i => M.W.length - i.toNat | _ => 0) < (match (Value.int .i64 i) with | .int _ i => M.W.length - i.toNat | _ => 0))
            (fun y0 y1 w' => (∃ j : Nat, y1 = .int .i64 j ∧ j ≤ M.H.length ∧ RowE w' y0 (((M.H.take j).filter (conflR x.l)).foldl (fun o h => edgeR o ⟨x.l.txn, h.txn⟩) out) ∧ (∀ g, rowB y0 = some g → w.heap.size ≤ g) ∧ (((M.H.take j).filter (conflR x.l)).foldl (fun o h => edgeR o ⟨x.l.txn, h.txn⟩) out).length ≤ i * 2097152 + j ∧
              w'.heap[bx]? = some (.cells #[.int .i64 x.l.txn, .string x.l.res, .int .i64 x.l.mode] 42 (0, 0)) ∧ Keep0 w w') ∧ (match y1 with | .int _ j => M.H.length - j.toNat | _ => 0) < (match (Value.int .i64 j) with | .int _ j => M.H.length - j.toNat | _ => 0)) (ptr M.bm) v' (.int .i64 i) (ptr bx) (.int .i64 j) w5 := by
        intro v' w5 a1 a2 a3 a4 a5
        simp only [F38_s23, F38_s23_t, ↓uL.1, e5]
        exact ⟨⟨j + 1, rfl, by omega, a1, a2, a3, a4, a5⟩, by simp; omega⟩
      simp only [e2, ↓uL.1, F38_s24, F38_s24_t, tL.1, cellIn_cells, frzIn_00, setIn_cells, cellsIn_cells, List.getElem?_toArray, List.getElem?_cons_zero, List.getElem?_cons_succ, Option.isSome_some, Option.getD_some, Nat.zero_add, Nat.add_zero, List.setIfInBounds_toArray, List.set_cons_zero, List.set_cons_succ, put_same, add_new, add_old, oneV, Value.cells, List.size_toArray, List.length_cons, List.length_nil, List.extract_toArray, List.extract_eq_take_drop, Nat.reduceAdd, Nat.reduceSub, Nat.reduceLeDiff, if_true, List.drop_zero, List.take_succ_cons, List.take_zero, List.drop_succ_cons, drew_heap, hM3.cell, uv_eq (ixy _), uv_eq (ldy w3 rfl)]
      rw [uv_allocS (vs := y.cells) zer37 siz37 rfl rfl (by intro u hu; exact lcells_one [y] u (by simpa [lcells] using hu))]
      have hk4 : Keep0 w3 (World.add w3 (.cells y.cells.toArray 42)) := (Keep.refl _ w3).add
      have hby : (World.add w3 (.cells y.cells.toArray 42)).heap[w3.heap.size]? = some (.cells #[.int .i64 y.txn, .string y.res, .int .i64 y.mode] 42 (0, 0)) := add_new
      have hr4 := hr3.keep hk4 (fun _ _ => id)
      have hbx4 := hk4.at hbx3 id
      have hk04 : Keep0 w (World.add w3 (.cells y.cells.toArray 42)) := hk3.trans hk4 (fun _ _ h => h)
      generalize World.add w3 (.cells y.cells.toArray 42) = w4 at hby hr4 hbx4 hk04 ⊢
      generalize w3.heap.size = by' at hby ⊢
      have skip : ∀ w5, Keep0 w4 w5 → conflR x.l y = false → _ := fun w5 hk5 hc => next v3 w5 (by
        rw [htk, List.filter_append]
        simp only [List.filter_cons, hc, Bool.false_eq_true, if_false, List.filter_nil, List.append_nil]
        exact hr4.keep hk5 (fun _ _ => id)) hf3 (by
        rw [htk, List.filter_append]
        simp only [List.filter_cons, hc, Bool.false_eq_true, if_false, List.filter_nil, List.append_nil]
        omega) (hk5.at hbx4 id) (hk04.trans hk5 (fun _ _ h => h))
      simp only [↓uL.1, tL.1, cellIn_cells, frzIn_00, setIn_cells, cellsIn_cells, List.getElem?_toArray, List.getElem?_cons_zero, List.getElem?_cons_succ, Option.isSome_some, Option.getD_some, Nat.zero_add, Nat.add_zero, List.setIfInBounds_toArray, List.set_cons_zero, List.set_cons_succ, put_same, add_new, add_old, oneV, Value.cells, List.size_toArray, List.length_cons, List.length_nil, List.extract_toArray, List.extract_eq_take_drop, Nat.reduceAdd, Nat.reduceSub, Nat.reduceLeDiff, if_true, List.drop_zero, List.take_succ_cons, List.take_zero, List.drop_succ_cons, drew_heap, hby, hbx4, ba_toList_eq]
      by_cases h1 : y.res = x.l.res
      · rw [decide_eq_true h1]
        simp only [↓uL.1, tL.1, cellIn_cells, frzIn_00, setIn_cells, cellsIn_cells, List.getElem?_toArray, List.getElem?_cons_zero, List.getElem?_cons_succ, Option.isSome_some, Option.getD_some, Nat.zero_add, Nat.add_zero, List.setIfInBounds_toArray, List.set_cons_zero, List.set_cons_succ, put_same, add_new, add_old, oneV, Value.cells, List.size_toArray, List.length_cons, List.length_nil, List.extract_toArray, List.extract_eq_take_drop, Nat.reduceAdd, Nat.reduceSub, Nat.reduceLeDiff, if_true, List.drop_zero, List.take_succ_cons, List.take_zero, List.drop_succ_cons, drew_heap, hby, hbx4, if_true]
        cases h2 : (y.txn != x.l.txn)
        · simp only [↓uL.1, Bool.false_eq_true, if_false, F38_s25]
          exact skip w4 (Keep.refl _ w4) (by unfold conflR; simp [h2])
        · simp only [↓uL.1, tL.1, cellIn_cells, frzIn_00, setIn_cells, cellsIn_cells, List.getElem?_toArray, List.getElem?_cons_zero, List.getElem?_cons_succ, Option.isSome_some, Option.getD_some, Nat.zero_add, Nat.add_zero, List.setIfInBounds_toArray, List.set_cons_zero, List.set_cons_succ, put_same, add_new, add_old, oneV, Value.cells, List.size_toArray, List.length_cons, List.length_nil, List.extract_toArray, List.extract_eq_take_drop, Nat.reduceAdd, Nat.reduceSub, Nat.reduceLeDiff, if_true, List.drop_zero, List.take_succ_cons, List.take_zero, List.drop_succ_cons, drew_heap, hby, hbx4]
          refine un_enter (enters Tryz.func53 (by kernel_rfl) (by kernel_rfl) _ _) (rTogether_c _ _ hyo hxo w4 _ fun w5 hk5 => ?_)
          cases h3 : tg y.mode x.l.mode
          · have hc : conflR x.l y = true := by unfold conflR; simp [h1, h2, h3]
            have hby5 := hk5.at hby id
            have hbx5 := hk5.at hbx4 id
            have hr5 := hr4.keep hk5 (fun _ _ => id)
            have hs05 := (hk04.trans hk5 (fun _ _ h => h)).size
            simp only [Bool.not_false, ↓uL.1, if_true, F38_s25, F38_s26, F38_s26_t, tL.1, cellIn_cells, frzIn_00, setIn_cells, cellsIn_cells, List.getElem?_toArray, List.getElem?_cons_zero, List.getElem?_cons_succ, Option.isSome_some, Option.getD_some, Nat.zero_add, Nat.add_zero, List.setIfInBounds_toArray, List.set_cons_zero, List.set_cons_succ, put_same, add_new, add_old, oneV, Value.cells, List.size_toArray, List.length_cons, List.length_nil, List.extract_toArray, List.extract_eq_take_drop, Nat.reduceAdd, Nat.reduceSub, Nat.reduceLeDiff, if_true, List.drop_zero, List.take_succ_cons, List.take_zero, List.drop_succ_cons, drew_heap, hby5, hbx5, uv_eq (bldE _ _ _)]
            refine un_enter (enters Tryz.func58 (by kernel_rfl) (by kernel_rfl) _ _) (tedge_c v3 _ ⟨x.l.txn, y.txn⟩ w5 hr5 (by omega) _ fun v6 w6 hr6 hf6 hk6 => ?_)
            refine next v6 w6 ?_ (fun g hg => ?_) ?_ (hk6.at hbx5 id) ((hk04.trans hk5 (fun _ _ h => h)).trans hk6 (fun _ _ h => h))
            · rw [htk, List.filter_append, List.foldl_append]
              simp only [List.filter_cons, hc, if_true, List.filter_nil, List.foldl_cons, List.foldl_nil]
              exact hr6
            · rcases hf6 with e | hf6
              · rw [e] at hg; exact hf3 g hg
              · have := hf6 g hg; omega
            · rw [htk, List.filter_append, List.foldl_append]
              simp only [List.filter_cons, hc, if_true, List.filter_nil, List.foldl_cons, List.foldl_nil]
              have := edgeR_len (((M.H.take j).filter (conflR x.l)).foldl (fun o h => edgeR o ⟨x.l.txn, h.txn⟩) out) ⟨x.l.txn, y.txn⟩
              omega
          · simp only [Bool.not_true, ↓uL.1, if_true, F38_s25]
            exact skip w5 hk5 (by unfold conflR; simp [h3])
      · rw [decide_eq_false h1]
        simp only [↓uL.1, Bool.false_eq_true, if_false, F38_s25]
        exact skip w4 (Keep.refl _ w4) (by unfold conflR; simp [h1])
    · have e2 : decide ((j : Int) < (M.H.length : Int)) = false := by rw [decide_eq_false_iff_not]; omega
      have hjl : j = M.H.length := by omega
      rw [hjl, List.take_length] at hr3 hol3
      have hout : ((M.H.filter (conflR x.l)).foldl (fun o h => edgeR o ⟨x.l.txn, h.txn⟩) out) = edgesH M.H x out := rfl
      rw [hout] at hr3 hol3
      generalize edgesH M.H x out = out2 at hr3 hol3 hfin
      simp only [e2, ↓uL.1, F38_s11, F38_s11_t, tL.1, cellIn_cells, frzIn_00, setIn_cells, cellsIn_cells, List.getElem?_toArray, List.getElem?_cons_zero, List.getElem?_cons_succ, Option.isSome_some, Option.getD_some, Nat.zero_add, Nat.add_zero, List.setIfInBounds_toArray, List.set_cons_zero, List.set_cons_succ, put_same, add_new, add_old, oneV, Value.cells, List.size_toArray, List.length_cons, List.length_nil, List.extract_toArray, List.extract_eq_take_drop, Nat.reduceAdd, Nat.reduceSub, Nat.reduceLeDiff, if_true, List.drop_zero, List.take_succ_cons, List.take_zero, List.drop_succ_cons, drew_heap, hbx3]
      -- those ahead in the queue
      refine un_enter (enters Tryz.func28 (by kernel_rfl) (by kernel_rfl) _ _) (tQueue_c M x.l.res w3 hM3 (by omega) _ fun v8 w4 hrq hfq hk4 => ?_)
      have hk04 : Keep0 w w4 := hk3.trans hk4 (fun _ _ h => h)
      have hql : (queueR M.W x.l.res).length ≤ M.W.length := by
        unfold queueR
        rw [List.length_map, (queueR_perm M.W x.l.res).length_eq]
        exact List.length_filter_le _ _
      unfold edgesQ at hfin
      generalize queueR M.W x.l.res = q at hrq hql hfin
      simp only [F38_s13]
      refine ⟨fun v3 v9 w' => ∃ k : Nat, v9 = .int .i64 k ∧ k ≤ q.length ∧ (∀ j y, j < k → q[j]? = some y → (y.txn != x.l.txn) = true) ∧ RowE w' v3 ((q.take k).foldl (fun o q => edgeR o ⟨x.l.txn, q.txn⟩) out2) ∧ (∀ g, rowB v3 = some g → w.heap.size ≤ g) ∧ ((q.take k).foldl (fun o q => edgeR o ⟨x.l.txn, q.txn⟩) out2).length ≤ i * 2097152 + 1048576 + k ∧
          RowL w' v8 q ∧ w'.heap[bx]? = some (.cells #[.int .i64 x.l.txn, .string x.l.res, .int .i64 x.l.mode] 42 (0, 0)) ∧ Keep0 w w',
        fun _ v9 _ => match v9 with | .int _ k => q.length - k.toNat | _ => 0, ⟨0, rfl, by omega, fun j y hj => by omega, by simpa using hr3.keep hk4 (fun _ _ => id), hf3, by simp; omega, hrq, hk4.at hbx3 id, hk04⟩, ?_⟩
      rintro v3 v9 w5 ⟨k, rfl, hkl, hn5, hr5, hf5, hol5, hrq5, hbx5, hk5⟩
      have hs5 := hk5.size
      have done : q.takeWhile (fun q => q.txn != x.l.txn) = q.take k → ∀ w6, Keep0 w5 w6 → F38_s8 R (fun y0 y1 w' => (∃ (i : Nat) (out : List Ed), y1 = .int .i64 i ∧ i ≤ M.W.length ∧ RowE w' y0 out ∧ (∀ g, rowB y0 = some g → w.heap.size ≤ g) ∧ out.length ≤ i * 2097152 ∧ Keep0 w w' ∧ (M.W.drop i).foldl (fun out x => edgesQ M.W x (edgesH M.H x out)) out = edgesR M.H M.W) ∧ (match y1 with | .int _ i => M.W.length - i.toNat | _ => 0) < (match (Value.int .i64 i) with | .int _ i => M.W.length - i.toNat | _ => 0)) (ptr M.bm) v3 (.int .i64 i) w6 := by
        intro htw w6 hk6
        rw [htw] at hfin
        simp only [F38_s8, F38_s8_t, ↓uL.1, e4]
        exact ⟨⟨i + 1, _, rfl, by omega, hr5.keep hk6 (fun _ _ => id), hf5, by omega, hk5.trans hk6 (fun _ _ h => h), hfin⟩, by simp; omega⟩
      simp only [F38_s14, F38_s14_t]
      refine ⟨fun w' => w'.heap = w5.heap, rfl, HN_of (fun w' _ => un_lenR' und32 hrq5 w') (HV_of (fun w' _ => by simp [binS, eqGuard, binOp, Op.intCmp]; rfl) ?_)⟩
      have hkd : Keep0 w5 w5.drew := (Keep.refl _ w5).drew
      by_cases hltk : k < q.length
      · have e3 : decide ((k : Int) < (q.length : Int)) = true := by rw [decide_eq_true_eq]; omega
        have e6 : IntKind.i64.wrap ((k : Int) + 1) = ((k + 1 : Nat) : Int) := by rw [wrap_id (by omega) (by omega)]; omega
        obtain ⟨y, hy⟩ : ∃ y, q[k]? = some y := ⟨q[k], List.getElem?_eq_getElem hltk⟩
        have htk : q.take (k + 1) = q.take k ++ [y] := by rw [List.take_add_one, hy]; rfl
        obtain ⟨gy, oy, hgy, hgly, ixy, cly⟩ := RowL.read hrq5 hy
        have e3' : decide (k < q.length) = true := by rw [decide_eq_true_eq]; exact hltk
        simp only [e3, e3', GH_hit]
        refine HV_of (fun w' _ => ixy w') (HV_field (off := 0) (by kernel_rfl) (HV_load1 (v := .int .i64 y.txn) (by kernel_rfl) (fun w' hw => by rw [hw]; exact lk0 cly) (HV_field (off := 0) (by kernel_rfl) (HV_load1 (v := .int .i64 x.l.txn) (by kernel_rfl) (fun w' hw => by rw [hw, hbx5]; rfl) (HV_of (fun w' _ => run_neI) (HV_of (fun w' _ => run_pick) ?_))))))
        simp only [if_true, F38_s15]
        cases h1 : (y.txn != x.l.txn)
        · simp only [↓uL.1]
          exact done (takeWhile_take _ q k hkl hn5 (.inr ⟨y, hy, h1⟩)) _ hkd
        · simp only [↓uL.1, F38_s18, F38_s18_t]
          have hbld : ∀ w', (Instr.build 83 #[(0, .int .i64 x.l.txn), (1, .int .i64 y.txn)]).run Tryz.prog w' = .ok (.agg (Ed.cells ⟨x.l.txn, y.txn⟩).toArray) w' := fun w' => bldE _ _ w'
          refine ⟨fun w' => w'.heap = w5.heap, rfl, HV_field (off := 0) (by kernel_rfl) (HV_load1 (v := .int .i64 x.l.txn) (by kernel_rfl) (fun w' hw => by rw [hw, hbx5]; rfl) (HV_of (fun w' _ => ixy w') (HV_field (off := 0) (by kernel_rfl) (HV_load1 (v := .int .i64 y.txn) (by kernel_rfl) (fun w' hw => by rw [hw]; exact lk0 cly) (HV_of (fun w' _ => hbld w') ?_)))))⟩
          have hkdd : Keep0 w5 w5.drew.drew := ((Keep.refl _ w5).drew).drew
          have hrd : RowE w5.drew.drew v3 ((q.take k).foldl (fun o q => edgeR o ⟨x.l.txn, q.txn⟩) out2) := hr5
          refine un_enter (enters Tryz.func58 (by kernel_rfl) (by kernel_rfl) _ _) (tedge_c v3 _ ⟨x.l.txn, y.txn⟩ w5.drew.drew hrd (by omega) _ fun v6 w6 hr6 hf6 hk6 => ?_)
          have hk56 : Keep0 w5 w6 := hkdd.trans hk6 (fun _ _ h => h)
          simp only [F38_s17, F38_s17_t, ↓uL.1, e6]
          refine ⟨⟨k + 1, rfl, by omega, fun j z hj hz => ?_, ?_, fun g hg => ?_, ?_, hrq5.keep hk56 (fun _ _ => id), hk56.at hbx5 id, hk5.trans hk56 (fun _ _ h => h)⟩, by simp; omega⟩
          · by_cases e : j = k
            · subst e; rw [hy] at hz; cases hz; exact h1
            · exact hn5 j z (by omega) hz
          · rw [htk, List.foldl_append]
            exact hr6
          · rcases hf6 with e | hf6
            · rw [e] at hg; exact hf5 g hg
            · have h9 := hf6 g hg
              have h10 : w5.drew.drew.heap.size = w5.heap.size := rfl
              omega
          · rw [htk, List.foldl_append]
            have := edgeR_len ((q.take k).foldl (fun o q => edgeR o ⟨x.l.txn, q.txn⟩) out2) ⟨x.l.txn, y.txn⟩
            simp only [List.foldl_cons, List.foldl_nil]
            omega
      · have e3 : decide ((k : Int) < (q.length : Int)) = false := by rw [decide_eq_false_iff_not]; omega
        have e3' : decide (k < q.length) = false := by rw [decide_eq_false_iff_not]; exact hltk
        simp only [e3, e3', GH_ft, GH_tf, GH_undef]
        refine HV_of (fun w' _ => run_pick) ?_
        simp only [Bool.false_eq_true, if_false, F38_s15, ↓uL.1]
        exact done (takeWhile_take _ q k hkl hn5 (.inl (by omega))) _ hkd
  · have e1 : decide ((i : Int) < (M.W.length : Int)) = false := by rw [decide_eq_false_iff_not]; omega
    have hdr : M.W.drop i = [] := List.drop_eq_nil_of_le (by omega)
    rw [hdr, List.foldl_nil] at hfin
    simp only [e1, ↓uL.1, F38_s3, F38_s3_t]
    rw [hfin] at hr1
    exact h v3 w1 hr1 hf1 hk1
end Go.Proofs.YtpghlemcgjogpaaGreat
