/- The document's table of locks: Drop. -/
import Derived.Test.YtpghlemcgjogpaaGreatEF
import Derived.Test.YtpghlemcgjogpaaGreatFH
set_option linter.unusedVariables false
set_option linter.unusedSimpArgs false
set_option linter.unnecessarySimpa false
set_option maxRecDepth 100000
namespace Go.Proofs.YtpghlemcgjogpaaGreat
open Go.Sx

theorem apS : apB Tryz.prog 71 9 1 16 = true := by kernel_rfl
theorem bslS (a : ByteArray) (w : World) : (Instr.buildSlice 71 1 #[(0, .string a)]).run Tryz.prog w = .ok (.slice (some ⟨w.heap.size, 0, none⟩) 1 1) (World.add w (.cells #[.string a] 9)) := by kernel_rfl
theorem bslS0 (w : World) : (Instr.buildSlice 71 0 #[]).run Tryz.prog w = .ok (.slice (some ⟨w.heap.size, 0, none⟩) 0 0) (World.add w (.cells #[] 9)) := by kernel_rfl
theorem bslI0 (w : World) : (Instr.buildSlice 35 0 #[]).run Tryz.prog w = .ok (.slice (some ⟨w.heap.size, 0, none⟩) 0 0) (World.add w (.cells #[] 3)) := by kernel_rfl
theorem bslL0' (w : World) : (Instr.buildSlice 27 0 #[]).run Tryz.prog w = .ok (.slice (some ⟨w.heap.size, 0, none⟩) 0 0) (World.add w (.cells #[] 42)) := by kernel_rfl
abbrev RowS (w : World) (v : Value) (l : List ByteArray) : Prop := Row w 9 1 v l.length (strs l)
theorem strs_one (l : List ByteArray) : ∀ u ∈ strs l, oneV u = true := by
  intro u hu
  obtain ⟨s, _, rfl⟩ := List.mem_map.1 hu; rfl
theorem RowS.read {w : World} {v : Value} {l : List ByteArray} {i : Nat} {x : ByteArray} (h : RowS w v l) (hx : l[i]? = some x) : ∃ g o, rowB v = some g ∧ (∀ w1, (Instr.indexAt 71 v (.int .i64 i)).run Tryz.prog w1 = .ok (.pointer (some ⟨g, o, none⟩)) w1) ∧ Sx.cellIn (w.heap[g]?) o = some (.string x) := by
  have hlt := (List.getElem?_eq_some_iff.1 hx).1
  obtain ⟨g, o, hg, hixx, hcl⟩ := h.elem (P := Tryz.prog) (q := .i64) (i := i) hlt und68 siz9'
  rw [strs_at hx] at hcl
  refine ⟨g, o, hg, hixx, ?_⟩
  have := cellIn_of_cells (j := 0) hcl (by omega)
  simpa using this
theorem un_appS {w : World} {v : Value} {l : List ByteArray} {x : ByteArray} {R : Ending → World → Prop} {k : Value → World → Prop} (h : RowS w v l) (hlt : l.length ≤ 2199023255552) {cs : Array Bool} {ty : Nat}
    (hk : ∀ v' w', RowS w' v' (l ++ [x]) → (rowB v' = rowB v ∨ ∃ g, rowB v' = some g ∧ w.heap.size ≤ g) → Keep (fun b => rowB v = some b) w w' → k v' w') :
    uv Tryz.prog R (Instr.buildSlice 71 1 #[(0, .string x)]) w (fun s w => un Tryz.prog R (builtin .append #[71, 71] ty cs #[v, s]) w k) := by
  have hmx : 4398046511104 ≤ maxLen := by decide
  rw [uv_eq (bslS _ _)]
  have hka : Keep0 w (World.add w (.cells #[.string x] 9)) := (Keep.refl _ w).add
  have hsr : Row (World.add w (.cells #[.string x] 9)) 9 1 (.slice (some ⟨w.heap.size, 0, none⟩) 1 1) 1 [.string x] := Row.fresh (cs := [.string x]) rfl (by decide)
  refine un_appendR apS (by decide) (h.keep hka (fun _ _ => id)) hsr (by simp [oneV]) (by omega) (by omega) fun v' w' h1 hk1 hf1 => hk v' w' ?_ ?_ ?_
  · unfold RowS strs at *
    rw [List.length_append, List.map_append]
    exact h1
  · refine hf1.imp id ?_
    rintro ⟨g, e, hg⟩
    exact ⟨g, e, Nat.le_trans hka.size hg⟩
  · exact (hka.mono (fun _ _ h => h.elim)).trans hk1 (fun b _ hv => hv)
theorem un_appI {w : World} {v : Value} {l : List Int} {x : Int} {R : Ending → World → Prop} {k : Value → World → Prop} (h : RowI w v l) (hlt : l.length ≤ 2199023255552) {cs : Array Bool} {ty : Nat}
    (hk : ∀ v' w', RowI w' v' (l ++ [x]) → (rowB v' = rowB v ∨ ∃ g, rowB v' = some g ∧ w.heap.size ≤ g) → Keep (fun b => rowB v = some b) w w' → k v' w') :
    uv Tryz.prog R (Instr.buildSlice 35 1 #[(0, .int .i64 x)]) w (fun s w => un Tryz.prog R (builtin .append #[35, 35] ty cs #[v, s]) w k) := by
  have hmx : 4398046511104 ≤ maxLen := by decide
  rw [uv_eq (bsl1 _ _)]
  have hka : Keep0 w (World.add w (.cells #[.int .i64 x] 3)) := (Keep.refl _ w).add
  have hsr : Row (World.add w (.cells #[.int .i64 x] 3)) 3 1 (.slice (some ⟨w.heap.size, 0, none⟩) 1 1) 1 [.int .i64 x] := Row.fresh (cs := [.int .i64 x]) rfl (by decide)
  refine un_appendR apI (by decide) (h.keep hka (fun _ _ => id)) hsr (by simp [oneV]) (by omega) (by omega) fun v' w' h1 hk1 hf1 => hk v' w' ?_ ?_ ?_
  · unfold RowI ints at *
    rw [List.length_append, List.map_append]
    exact h1
  · refine hf1.imp id ?_
    rintro ⟨g, e, hg⟩
    exact ⟨g, e, Nat.le_trans hka.size hg⟩
  · exact (hka.mono (fun _ _ h => h.elim)).trans hk1 (fun b _ hv => hv)
/-- Blocks of other types are none of the table's. -/
theorem MTAt.notFoot {w : World} {M : MT} (h : MTAt w M) {g e : Nat} {c : Array Value} (hg : w.heap[g]? = some (.cells c e (0, 0))) (he : (Nat.beq e 30 || Nat.beq e 42 || Nat.beq e 70) = false) : ¬ M.foot g := by
  simp only [Bool.or_eq_false_iff] at he
  have ne : ∀ n, Nat.beq e n = false → e ≠ n := fun n h1 h2 => by rw [h2] at h1; simp at h1
  rintro (rfl | hb | hb)
  · rw [h.cell] at hg
    simp only [Option.some.injEq, Obj.cells.injEq] at hg
    exact ne _ he.1.1 hg.2.1.symm
  · obtain ⟨c', hc'⟩ := row_block h.rh hb
    rw [hc'] at hg
    simp only [Option.some.injEq, Obj.cells.injEq] at hg
    exact ne _ he.1.2 hg.2.1.symm
  · obtain ⟨c', hc'⟩ := row_block h.rw hb
    rw [hc'] at hg
    simp only [Option.some.injEq, Obj.cells.injEq] at hg
    exact ne _ he.2 hg.2.1.symm
theorem row_apart {w : World} {e sz n e' sz' n' : Nat} {v v' : Value} {xs xs' : List Value} (h : Row w e sz v n xs) (h' : Row w e' sz' v' n' xs') (he : Nat.beq e e' = false) : ∀ g, rowB v = some g → rowB v' ≠ some g := fun g hg hg' => by
  obtain ⟨c, hc⟩ := row_block h hg
  obtain ⟨c', hc'⟩ := row_block h' hg'
  rw [hc] at hc'
  simp only [Option.some.injEq, Obj.cells.injEq] at hc'
  rw [hc'.2.1] at he
  simp at he
theorem row_notFoot {w : World} {M : MT} (h : MTAt w M) {e sz n : Nat} {v : Value} {xs : List Value} (hr : Row w e sz v n xs) (he : (Nat.beq e 30 || Nat.beq e 42 || Nat.beq e 70) = false) : ∀ g, rowB v = some g → ¬ M.foot g := fun g hg => by
  obtain ⟨c, hc⟩ := row_block hr hg
  exact h.notFoot hc he
theorem forget_len {W : List Ws} {t : Int} (h : ∃ y ∈ W, y.l.txn = t) : (forgetR W t).length + 1 ≤ W.length := by
  have : (forgetR W t).length < W.length := by
    unfold forgetR
    rw [List.length_filter_lt_length_iff_exists]
    obtain ⟨y, hy, e⟩ := h
    exact ⟨y, hy, by simp [e]⟩
  omega
theorem MG.serve {B : Nat} {M M' : MT} (h : MG B M) {l : Lk} (hl : okM l.mode) (hin : ∃ y ∈ M.W, y.l.txn = l.txn) (hH : M'.H = giveR M.H l) (hW : M'.W = forgetR M.W l.txn) : MG B M' := by
  have h1 := giveR_len M.H l
  have h2 := forget_len hin
  have h3 := h.len
  refine ⟨fun x hx => ?_, fun x hx => ?_, ?_, by rw [hH, hW]; omega⟩
  · rw [hH] at hx
    rcases giveR_sub hx with rfl | hx
    · exact hl
    · exact h.oh x hx
  · rw [hW] at hx
    exact h.ow x (List.mem_filter.1 hx).1
  · rw [hW]
    exact h.nd.sublist (List.filter_sublist.map _)
/-- Serving one thing. -/
theorem tServe_c (M0 : MT) (w0 : World) (B : Nat) (hB : B ≤ 1048576) (q : List Lk) (hqn : (q.map (·.txn)).Nodup) (hqm : ∀ x ∈ q, okM x.mode) (M : MT) (w : World) (hA : MAfter M0 w0 w M) (hG : MG B M) (hqW : ∀ x ∈ q, ∃ y ∈ M.W, y.l.txn = x.txn)
    (out : List Int) (hol : out.length + M.W.length ≤ B) (v14 v7 v5 v13 : Value) (things : List ByteArray) (hrq : RowL w v14 q) (hsq : ∀ g, rowB v14 = some g → ¬ M.foot g ∧ w0.heap.size ≤ g) (hS : RowS w v5 things) (hro : RowI w v7 out) (hfo : ∀ g, rowB v7 = some g → w0.heap.size ≤ g) (R : Ending → World → Prop) (rec8 : Value → Value → World → Prop)
    (h : ∀ v w' M', MAfter M0 w0 w' M' → MG B M' → M'.H = (serveGo q M.H M.W out).1 → M'.W = (serveGo q M.H M.W out).2.1 → (serveGo q M.H M.W out).2.2.length + M'.W.length ≤ B → RowI w' v (serveGo q M.H M.W out).2.2 → (∀ g, rowB v = some g → w0.heap.size ≤ g) → RowS w' v5 things → F10_s12 R rec8 (ptr M0.bm) v5 v v13 w') :
    F10_s15 R rec8 (ptr M0.bm) v5 v7 v13 v14 (.int .i64 (0 : Nat)) w := by
  have hbd := hrq.bound
  have hmax2 : maxLen ≤ 9223372036854775807 := by decide
  generalize hfin : serveGo q M.H M.W out = fin at h
  simp only [F10_s15]
  refine ⟨fun v7 v15 w' => ∃ (k : Nat) (M' : MT) (out' : List Int), v15 = .int .i64 k ∧ k ≤ q.length ∧ MAfter M0 w0 w' M' ∧ MG B M' ∧ (∀ x ∈ q.drop k, ∃ y ∈ M'.W, y.l.txn = x.txn) ∧ out'.length + M'.W.length ≤ B ∧ RowL w' v14 q ∧ (∀ g, rowB v14 = some g → ¬ M'.foot g ∧ w0.heap.size ≤ g) ∧ RowS w' v5 things ∧ RowI w' v7 out' ∧ (∀ g, rowB v7 = some g → w0.heap.size ≤ g) ∧ serveGo (q.drop k) M'.H M'.W out' = fin,
    fun _ v15 _ => match v15 with | .int _ k => q.length - k.toNat | _ => 0, ⟨0, M, out, rfl, by omega, hA, hG, hqW, hol, hrq, hsq, hS, hro, hfo, hfin⟩, ?_⟩
  rintro v7 v15 w1 ⟨k, M1, out1, rfl, hk, hA1, hG1, hqW1, hol1, hrq1, hsq1, hS1, hro1, hfo1, hfin1⟩
  have hb1 := hA1.bm
  rw [← hb1] at h ⊢
  have hM1 := hA1.at'
  have hl1 := hG1.len
  simp only [F10_s16, F10_s16_t, un_lenR und32 hrq1, ↓uL.1]
  by_cases hlt : k < q.length
  · have e1 : decide ((k : Int) < (q.length : Int)) = true := by rw [decide_eq_true_eq]; omega
    have e4 : IntKind.i64.wrap ((k : Int) + 1) = ((k + 1 : Nat) : Int) := by rw [wrap_id (by omega) (by omega)]; omega
    obtain ⟨y, hy⟩ : ∃ y, q[k]? = some y := ⟨q[k], List.getElem?_eq_getElem hlt⟩
    have hdr : q.drop k = y :: q.drop (k + 1) := by
      rw [List.drop_eq_getElem_cons hlt, (List.getElem?_eq_some_iff.1 hy).2]
    have hyq := List.mem_of_getElem? hy
    obtain ⟨p, ix, ld⟩ := RowL.load hrq1 hy
    simp only [e1, ↓uL.1, uv_eq (ix _), uv_eq (ld w1 rfl)]
    refine un_enter (enters Tryz.func27 (by kernel_rfl) (by kernel_rfl) _ _) (tcan_c M1 y w1 hM1 hG1.oh (hqm y hyq) _ fun w2 hk2 => ?_)
    rw [hdr] at hfin1
    simp only [serveGo] at hfin1
    have hA2 := hA1.keep0 hk2
    have hM2 := hA2.at'
    have hrq2 := hrq1.keep hk2 (fun _ _ => id)
    have hS2 := Row.keep hS1 hk2 (fun _ _ => id)
    have hro2 := Row.keep hro1 hk2 (fun _ _ => id)
    cases hc : canR M1.H y
    · rw [hc] at hfin1
      simp only [Bool.false_eq_true, if_false] at hfin1
      simp only [↓uL.1, if_true, F10_s17]
      rw [← hfin1] at h
      exact h v7 w2 M1 hA2 hG1 rfl rfl hol1 hro2 hfo1 hS2
    · rw [hc] at hfin1
      simp only [if_true] at hfin1
      have hyW := hqW1 y (by rw [hdr]; exact List.mem_cons_self)
      obtain ⟨gy, oy, hgy, hly, ixy, cy⟩ := RowL.read hrq2 hy
      have c0 := lk0 cy
      simp only [Nat.add_zero] at c0
      simp only [↓uL.1, if_true, F10_s17, F10_s20, F10_s20_t, uv_eq (ixy _), tL.1, cellIn_cells, frzIn_00, setIn_cells, cellsIn_cells, List.getElem?_toArray, List.getElem?_cons_zero, List.getElem?_cons_succ, Option.isSome_some, Option.getD_some, Nat.zero_add, Nat.add_zero, List.setIfInBounds_toArray, List.set_cons_zero, List.set_cons_succ, put_same, add_new, add_old, oneV, Value.cells, List.size_toArray, List.length_cons, List.length_nil, List.extract_toArray, List.extract_eq_take_drop, Nat.reduceAdd, Nat.reduceSub, Nat.reduceLeDiff, if_true, List.drop_zero, List.take_succ_cons, List.take_zero, List.drop_succ_cons, drew_heap, c0]
      refine un_enter (enters Tryz.func35 (by kernel_rfl) (by kernel_rfl) _ _) (tforget_c M1 y.txn w2 hM2 (by omega) _ fun w3 M3 hA3 hH3 hW3 => ?_)
      have hrq3 : RowL w3 v14 q := hrq2.keep hA3.keep (fun g hg => (hsq1 g hg).1)
      have hsq3 : ∀ g, rowB v14 = some g → ¬ M3.foot g ∧ w0.heap.size ≤ g := fun g hg => ⟨fun hf => (hA3.foot g hf).elim (hsq1 g hg).1 (fun hh => by have := hrq2.lt hg; omega), (hsq1 g hg).2⟩
      have hS3 : RowS w3 v5 things := Row.keep hS2 hA3.keep (row_notFoot hM2 hS2 (by decide))
      have hro3 : RowI w3 v7 out1 := Row.keep hro2 hA3.keep (row_notFoot hM2 hro2 (by decide))
      have hg3 : w3.heap[gy]? = w2.heap[gy]? := hA3.keep.keep gy hly (hsq1 gy hgy).1
      have ld3 : (Instr.loadAt 42 (.pointer (some ⟨gy, oy, none⟩))).run Tryz.prog w3 = .ok (.agg y.cells.toArray) w3 := run_loadN (n := 3) (by kernel_rfl) (by rw [hg3]; exact cy)
      rw [uv_eq ld3]
      rw [← hA3.bm]
      refine un_enter (enters Tryz.func29 (by kernel_rfl) (by kernel_rfl) _ _) (tgive_c M3 y w3 hA3.at' (by rw [hH3]; omega) _ fun w4 M4 hA4 hH4 hW4 => ?_)
      rw [hA3.bm]
      have hM3 := hA3.at'
      have hrq4 : RowL w4 v14 q := hrq3.keep hA4.keep (fun g hg => (hsq3 g hg).1)
      have hsq4 : ∀ g, rowB v14 = some g → ¬ M4.foot g ∧ w0.heap.size ≤ g := fun g hg => ⟨fun hf => (hA4.foot g hf).elim (hsq3 g hg).1 (fun hh => by have := hrq3.lt hg; omega), (hsq1 g hg).2⟩
      have hS4 : RowS w4 v5 things := Row.keep hS3 hA4.keep (row_notFoot hM3 hS3 (by decide))
      have hro4 : RowI w4 v7 out1 := Row.keep hro3 hA4.keep (row_notFoot hM3 hro3 (by decide))
      have hg4 : w4.heap[gy]? = w3.heap[gy]? := hA4.keep.keep gy (hrq3.lt hgy) (hsq3 gy hgy).1
      have c40 : Sx.cellIn (w4.heap[gy]?) oy = some (.int .i64 y.txn) := by rw [hg4, hg3]; exact c0
      simp only [tL.1, ↓uL.1, cellIn_cells, frzIn_00, setIn_cells, cellsIn_cells, List.getElem?_toArray, List.getElem?_cons_zero, List.getElem?_cons_succ, Option.isSome_some, Option.getD_some, Nat.zero_add, Nat.add_zero, List.setIfInBounds_toArray, List.set_cons_zero, List.set_cons_succ, put_same, add_new, add_old, oneV, Value.cells, List.size_toArray, List.length_cons, List.length_nil, List.extract_toArray, List.extract_eq_take_drop, Nat.reduceAdd, Nat.reduceSub, Nat.reduceLeDiff, if_true, List.drop_zero, List.take_succ_cons, List.take_zero, List.drop_succ_cons, drew_heap, c40]
      have hA04 := (hA2.trans hA3).trans hA4
      refine un_appI (x := y.txn) hro4 (by omega) fun v' w5 hro5 hf5 hk5 => ?_
      have hM4 := hA4.at'
      have hno7 := row_notFoot hM4 hro4 (by decide)
      have hA5 : MAfter M0 w0 w5 M4 := ⟨hM4.keep hk5 (fun b hb hv => hno7 b hv hb), hA04.bm, hA04.keep.trans hk5 (fun b hb hv => by have := hfo1 b hv; omega), hA04.foot⟩
      have hH' : M4.H = giveR M1.H y := by rw [hH4, hH3]
      have hW' : M4.W = forgetR M1.W y.txn := by rw [hW4, hW3]
      have hG4 := hG1.serve (hqm y hyq) hyW hH' hW'
      have hfl := forget_len hyW
      simp only [F10_s19, F10_s19_t, ↓uL.1, e4]
      have hs04 := hA04.keep.size
      refine ⟨⟨k + 1, M4, out1 ++ [y.txn], rfl, by omega, hA5, hG4, fun x hx => ?_, ?_, ?_, hsq4, ?_, hro5, fun g hg => ?_, ?_⟩, by simp; omega⟩
      · obtain ⟨z, hz, ez⟩ := hqW1 x (by rw [hdr]; exact List.mem_cons_of_mem _ hx)
        refine ⟨z, ?_, ez⟩
        rw [hW']
        refine List.mem_filter.2 ⟨hz, ?_⟩
        simp only [bne_iff_ne, ne_eq]
        intro e
        have hnd : ((q.drop k).map (·.txn)).Nodup := hqn.sublist ((List.drop_sublist k q).map _)
        rw [hdr, List.map_cons, List.nodup_cons] at hnd
        exact hnd.1 (List.mem_map.2 ⟨x, hx, by rw [← ez, e]⟩)
      · rw [List.length_append, hW']
        simp only [List.length_cons, List.length_nil]; omega
      · exact hrq4.keep hk5 (fun g hg e => row_apart hro4 hrq4 (by decide) g e hg)
      · exact Row.keep hS4 hk5 (fun g hg e => row_apart hro4 hS4 (by decide) g e hg)
      · rcases hf5 with e | ⟨g', e, hg'⟩
        · rw [e] at hg; exact hfo1 g hg
        · rw [e] at hg; cases hg; omega
      · rw [hH', hW']; exact hfin1
  · have e1 : decide ((k : Int) < (q.length : Int)) = false := by rw [decide_eq_false_iff_not]; omega
    have hdr : q.drop k = [] := List.drop_eq_nil_of_le (by omega)
    rw [hdr] at hfin1
    simp only [serveGo] at hfin1
    simp only [e1, ↓uL.1, Bool.false_eq_true, if_false, F10_s17]
    rw [← hfin1] at h
    exact h v7 w1 M1 hA1 hG1 rfl rfl hol1 hro1 hfo1 hS1
theorem queueR_perm (W : List Ws) (r : ByteArray) : (qsel W r true ++ qsel W r false).Perm (W.filter fun x => decide (x.l.res = r)) := by
  have h := List.filter_append_perm (fun x : Ws => x.ch) (W.filter fun x => decide (x.l.res = r))
  rw [List.filter_filter, List.filter_filter] at h
  refine List.Perm.trans (List.Perm.of_eq ?_) h
  unfold qsel
  congr 1
  · congr 1
    funext x
    cases x.ch <;> simp
  · congr 1
    funext x
    cases x.ch <;> simp
theorem queueR_nd {W : List Ws} (h : (W.map (·.l.txn)).Nodup) (r : ByteArray) : ((queueR W r).map (·.txn)).Nodup := by
  unfold queueR
  rw [List.map_map]
  have h1 := ((queueR_perm W r).map ((fun l : Lk => l.txn) ∘ fun x : Ws => x.l)).nodup_iff
  rw [h1]
  exact h.sublist (List.filter_sublist.map _)
theorem queueR_mem {W : List Ws} {r : ByteArray} {l : Lk} (h : l ∈ queueR W r) : ∃ x ∈ W, x.l = l := by
  unfold queueR at h
  obtain ⟨x, hx, e⟩ := List.mem_map.1 h
  exact ⟨x, (qsel_mem.1 hx).1, e⟩
/-- Serving all things. -/
theorem tServes_c (M0 : MT) (w0 : World) (B : Nat) (hB : B ≤ 1048576) (things : List ByteArray) (M : MT) (w : World) (hA : MAfter M0 w0 w M) (hG : MG B M) (v7 v5 : Value) (hS : RowS w v5 things) (hro : RowI w v7 []) (hfo : ∀ g, rowB v7 = some g → w0.heap.size ≤ g) (R : Ending → World → Prop)
    (h : ∀ v w' M', MAfter M0 w0 w' M' → MG B M' → M'.H = (things.foldl serveR (M.H, M.W, [])).1 → M'.W = (things.foldl serveR (M.H, M.W, [])).2.1 → RowI w' v (things.foldl serveR (M.H, M.W, [])).2.2 → (∀ g, rowB v = some g → w0.heap.size ≤ g) → R (.returned v) w') :
    F10_s8 R (ptr M0.bm) v5 v7 (.int .i64 (0 : Nat)) w := by
  have hbd := Row.bound hS
  have hmax2 : maxLen ≤ 9223372036854775807 := by decide
  have hlen := hG.len
  generalize hfin : things.foldl serveR (M.H, M.W, []) = fin at h
  simp only [F10_s8]
  refine ⟨fun v7 v13 w' => ∃ (i : Nat) (M' : MT) (out' : List Int), v13 = .int .i64 i ∧ i ≤ things.length ∧ MAfter M0 w0 w' M' ∧ MG B M' ∧ out'.length + M'.W.length ≤ B ∧ RowS w' v5 things ∧ RowI w' v7 out' ∧ (∀ g, rowB v7 = some g → w0.heap.size ≤ g) ∧ (things.drop i).foldl serveR (M'.H, M'.W, out') = fin,
    fun _ v13 _ => match v13 with | .int _ i => things.length - i.toNat | _ => 0, ⟨0, M, [], rfl, by omega, hA, hG, by simp; omega, hS, hro, hfo, hfin⟩, ?_⟩
  rintro v7 v13 w1 ⟨i, M1, out1, rfl, hi, hA1, hG1, hol1, hS1, hro1, hfo1, hfin1⟩
  have hb1 := hA1.bm
  have hM1 := hA1.at'
  have hl1 := hG1.len
  simp only [F10_s9, F10_s9_t, un_lenR und68 hS1, ↓uL.1, F10_s10]
  by_cases hlt : i < things.length
  · have e1 : decide ((i : Int) < (things.length : Int)) = true := by rw [decide_eq_true_eq]; omega
    have e4 : IntKind.i64.wrap ((i : Int) + 1) = ((i + 1 : Nat) : Int) := by rw [wrap_id (by omega) (by omega)]; omega
    obtain ⟨r, hr⟩ : ∃ r, things[i]? = some r := ⟨things[i], List.getElem?_eq_getElem hlt⟩
    have hdr : things.drop i = r :: things.drop (i + 1) := by
      rw [List.drop_eq_getElem_cons hlt, (List.getElem?_eq_some_iff.1 hr).2]
    obtain ⟨g, o, hg, ix, c⟩ := RowS.read hS1 hr
    rw [hdr, List.foldl_cons] at hfin1
    unfold serveR at hfin1
    simp only [] at hfin1
    simp only [e1, ↓uL.1, F10_s13, F10_s13_t, uv_eq (ix _), tL.1, cellIn_cells, frzIn_00, setIn_cells, cellsIn_cells, List.getElem?_toArray, List.getElem?_cons_zero, List.getElem?_cons_succ, Option.isSome_some, Option.getD_some, Nat.zero_add, Nat.add_zero, List.setIfInBounds_toArray, List.set_cons_zero, List.set_cons_succ, put_same, add_new, add_old, oneV, Value.cells, List.size_toArray, List.length_cons, List.length_nil, List.extract_toArray, List.extract_eq_take_drop, Nat.reduceAdd, Nat.reduceSub, Nat.reduceLeDiff, if_true, List.drop_zero, List.take_succ_cons, List.take_zero, List.drop_succ_cons, drew_heap, c]
    rw [← hb1]
    refine un_enter (enters Tryz.func28 (by kernel_rfl) (by kernel_rfl) _ _) (tQueue_c M1 r w1 hM1 (by omega) _ fun v14 w2 hrq2 hfq2 hk2 => ?_)
    rw [hb1]
    have hA2 := hA1.keep0 hk2
    have hs1 := hA1.keep.size
    refine tServe_c M0 w0 B hB (queueR M1.W r) (queueR_nd hG1.nd r) (fun x hx => ?_) M1 w2 hA2 hG1 (fun x hx => ?_) out1 hol1 v14 v7 v5 _ things hrq2 (fun g hg => ⟨fun hf => by have := hfq2 g hg; have := hM1.lt hf; omega, by have := hfq2 g hg; omega⟩) (Row.keep hS1 hk2 (fun _ _ => id)) (Row.keep hro1 hk2 (fun _ _ => id)) hfo1 R _ fun v w3 M3 hA3 hG3 hH3 hW3 hol3 hro3 hfo3 hS3 => ?_
    · obtain ⟨y, hy, e⟩ := queueR_mem hx
      rw [← e]; exact hG1.ow y hy
    · obtain ⟨y, hy, e⟩ := queueR_mem hx
      exact ⟨y, hy, by rw [e]⟩
    · simp only [F10_s12, F10_s12_t, ↓uL.1, e4]
      refine ⟨⟨i + 1, M3, _, rfl, by omega, hA3, hG3, hol3, hS3, hro3, hfo3, ?_⟩, by simp; omega⟩
      rw [hH3, hW3]
      exact hfin1
  · have e1 : decide ((i : Int) < (things.length : Int)) = false := by rw [decide_eq_false_iff_not]; omega
    have hdr : things.drop i = [] := List.drop_eq_nil_of_le (by omega)
    rw [hdr, List.foldl_nil] at hfin1
    simp only [e1, ↓uL.1, F10_s7, F10_s7_t]
    rw [← hfin1] at h
    exact h v7 w1 M1 hA1 hG1 rfl rfl hro1 hfo1
end Go.Proofs.YtpghlemcgjogpaaGreat
