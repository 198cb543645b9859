/- Edges: the loops. -/
import Derived.Test.YtpghlemcgjogpaaGreatCM
set_option linter.unusedVariables false
set_option linter.unusedSimpArgs false
set_option linter.unnecessarySimpa false
set_option maxRecDepth 100000
namespace Go.Proofs.YtpghlemcgjogpaaGreat
open Go.Sx

theorem bldE (a b : Int) (w : World) : (Instr.build 83 #[(0, .int .i64 a), (1, .int .i64 b)]).run Tryz.prog w = .ok (.agg #[.int .i64 a, .int .i64 b]) w := by kernel_rfl
theorem bslE (a b : Int) (w : World) : (Instr.buildSlice 39 1 #[(0, .agg #[.int .i64 a, .int .i64 b])]).run Tryz.prog w = .ok (.slice (some ⟨w.heap.size, 0, none⟩) 1 1) (World.add w (.cells #[.int .i64 a, .int .i64 b] 83)) := by kernel_rfl
theorem un_appE {w : World} {v : Value} {l : List Ed} {x : Ed} {R : Ending → World → Prop} {k : Value → World → Prop} (h : RowE w v l) (hlt : l.length ≤ 4398046511103) {cs : Array Bool} {ty : Nat}
    (hk : ∀ v' w', RowE w' v' (l ++ [x]) → (rowB v' = rowB v ∨ ∃ g, rowB v' = some g ∧ w.heap.size ≤ g) → Keep (fun b => rowB v = some b) w w' → k v' w') :
    uv Tryz.prog R (Instr.buildSlice 39 1 #[(0, .agg #[.int .i64 x.a, .int .i64 x.b])]) w (fun s w => un Tryz.prog R (builtin .append #[39, 39] ty cs #[v, s]) w k) := by
  have hmx : 4398046511104 ≤ maxLen := by decide
  rw [uv_eq (bslE _ _ _)]
  have hka : Keep0 w (World.add w (.cells #[.int .i64 x.a, .int .i64 x.b] 83)) := (Keep.refl _ w).add
  have hsr : Row (World.add w (.cells #[.int .i64 x.a, .int .i64 x.b] 83)) 83 2 (.slice (some ⟨w.heap.size, 0, none⟩) 1 1) 1 x.cells := Row.fresh (cs := x.cells) rfl (by decide)
  refine un_appendR apE (by decide) (h.keep hka (fun _ _ => id)) hsr (by intro u hu; exact ecells_one [x] u (by simpa [ecells] using hu)) (by omega) (by omega) fun v' w' h1 hk1 hf1 => hk v' w' ?_ ?_ ?_
  · unfold RowE ecells at *
    rw [List.length_append, List.flatMap_append]
    simpa using h1
  · refine hf1.imp id ?_
    rintro ⟨g, e, hg⟩
    exact ⟨g, e, Nat.le_trans hka.size hg⟩
  · exact (hka.mono (fun _ _ h => h.elim)).trans hk1 (fun b _ hv => hv)

/-- Whom one waits for: those that have the thing; those ahead in the queue. -/
def edHv (t md : Int) (hv : List (Int × Int)) : List Ed := (hv.filter fun e => e.1 != t && !tg e.2 md).map fun e => ⟨t, e.1⟩
def edQ (t : Int) (q : List Wi) : List Ed := q.map fun y => ⟨t, y.txn⟩
def edAt (x : List (Int × Int) × List Wi) (t : Int) : List Ed :=
  match x.2.findIdx? fun y => y.txn == t with
  | none => []
  | some i => edHv t ((x.2[i]?.map (·.mode)).getD 0) x.1 ++ edQ t (x.2.take i)
def edgesOf (A : Abs) (p : Int × ByteArray) : List Ed := match pget A.things p.2 with | none => [] | some x => edAt x p.1
/-- Who waits stands in a queue. -/
def Waits (A : Abs) : Prop := ∀ p ∈ A.waits, ∃ x, pget A.things p.2 = some x ∧ ∃ i, (x.2.findIdx? fun y => y.txn == p.1) = some i
theorem perm_erase {α : Type} {l : List α} {i : Nat} {x : α} (h : l[i]? = some x) : l.Perm (x :: l.eraseIdx i) := by
  induction l generalizing i with
  | nil => simp at h
  | cons a l ih =>
    cases i with
    | zero => simp only [List.getElem?_cons_zero, Option.some.injEq] at h; subst h; exact List.Perm.refl _
    | succ i =>
      simp only [List.getElem?_cons_succ] at h
      simp only [List.eraseIdx_cons_succ]
      exact ((ih h).cons a).trans (List.Perm.swap x a _)
theorem edHv_erase {t md : Int} {l : List (Int × Int)} {i : Nat} {p : Int × Int} (h : l[i]? = some p) : (edHv t md l).Perm ((if (p.1 != t && !tg p.2 md) = true then [⟨t, p.1⟩] else []) ++ edHv t md (l.eraseIdx i)) := by
  unfold edHv
  refine (((perm_erase h).filter _).map _).trans (List.Perm.of_eq ?_)
  rw [List.filter_cons]
  split <;> simp

/-- A round's end: those ahead in the queue. -/
theorem edgesQ_c (T : Tab) (r : ByteArray) (x : Th) (t : Int) (i : Nat) (w0 w : World) (ht0 : TabAt w0 T) (hx : fndT T.things r = some x) (hi : i ≤ x.q.length) (hq : x.q.length ≤ 1048576) (hk0 : Keep (fun b => w0.heap.size ≤ b) w0 w) (c : Nat) (hcl : w0.heap.size ≤ c) (hc : w.heap[c]? = some (.cells #[.int .i64 t] 3 (0, 0)))
    (v2 v15 : Value) (l : List Ed) (hr : RowE w v2 l) (hf : ∀ g, rowB v2 = some g → w0.heap.size ≤ g) (hl : l.length ≤ 3298534883328) (R : Ending → World → Prop) (rec4 : Value → World → Prop)
    (h : ∀ v' w', RowE w' v' (l ++ edQ t (x.q.take i)) → (∀ g, rowB v' = some g → w0.heap.size ≤ g) → Keep (fun b => rowB v2 = some b ∨ w.heap.size ≤ b) w w' → rec4 v' w') :
    F12_s10 R rec4 (ptr T.bt) v2 (ptr c) (ptr x.bx) (.int .i64 i) v15 w := by
  have ht := ht0.keep0 (keep_fresh hk0)
  have hX : ThAt w x := ht.ths _ (pget_mem hx)
  have hcap := hX.row.n_cap.1
  simp only [F12_s10, F12_s10_t, ↓uL.1, tL.1, cellIn_cells, frzIn_00, setIn_cells, cellsIn_cells, List.getElem?_toArray, List.getElem?_cons_zero, List.getElem?_cons_succ, Option.isSome_some, Option.getD_some, Nat.zero_add, Nat.add_zero, List.setIfInBounds_toArray, List.set_cons_zero, List.set_cons_succ, put_same, add_new, add_old, oneV, Value.cells, List.size_toArray, List.length_cons, List.length_nil, List.extract_toArray, List.extract_eq_take_drop, Nat.reduceAdd, Nat.reduceSub, Nat.reduceLeDiff, if_true, List.drop_zero, List.take_succ_cons, List.take_zero, List.drop_succ_cons, drew_heap, hX.cell, uv_eq (hX.row.run_take (P := Tryz.prog) (l := i) (by omega) und57 siz62 _)]
  have hT : Row w 61 3 (takeV x.qv i) i (wcells (x.q.take i)) := by
    have := hX.row.tak (l := i) hi
    rwa [wcells_take] at this
  simp only [un_lenR und57 hT, F12_s12]
  have hsz0 := hk0.size
  refine ⟨fun v2' v75 w' => ∃ j : Nat, v75 = .int .i64 j ∧ j ≤ i ∧ RowE w' v2' (l ++ edQ t (x.q.take j)) ∧ (∀ g, rowB v2' = some g → w0.heap.size ≤ g) ∧ Keep (fun b => rowB v2 = some b ∨ w.heap.size ≤ b) w w' ∧ (∀ g, rowB v2' = some g → rowB v2 = some g ∨ w.heap.size ≤ g) ∧ w'.heap[c]? = some (.cells #[.int .i64 t] 3 (0, 0)),
    fun _ v75 _ => match v75 with | .int _ j => i - j.toNat | _ => 0, ⟨0, rfl, by omega, by simpa [edQ] using hr, hf, Keep.refl _ w, fun g hg => .inl hg, hc⟩, ?_⟩
  rintro v2' v75 w1 ⟨j, rfl, hj, hr1, hf1, hk1, hv1, hc1⟩
  simp only [F12_s13, F12_s13_t, ↓uL.1, F12_s14]
  by_cases hlt : j < i
  · have e1 : decide ((j : Int) < (i : Int)) = true := by rw [decide_eq_true_eq]; omega
    obtain ⟨y, hy⟩ : ∃ y, x.q[j]? = some y := ⟨x.q[j], List.getElem?_eq_getElem (by omega)⟩
    have hk01 : Keep0 w0 w1 := keep_fresh (hk0.trans hk1 (fun b _ hb => hb.elim (fun h => hf b h) (fun h => by omega)))
    have ht1 := ht0.keep0 hk01
    have hX1 := ht1.ths _ (pget_mem hx)
    have hT1 : Row w1 61 3 (takeV x.qv i) i (wcells (x.q.take i)) := by
      have := hX1.row.tak (l := i) hi
      rwa [wcells_take] at this
    obtain ⟨g, o, hg, hixx, hcl'⟩ := hT1.elem (P := Tryz.prog) (q := .i64) (i := j) hlt und57 siz62
    have hyt : (x.q.take i)[j]? = some y := by rw [List.getElem?_take_of_lt hlt]; exact hy
    rw [wcells_at hyt] at hcl'
    simp only [e1, ↓uL.1, F12_s17, F12_s17_t, uv_eq (hixx _), tL.1, cellIn_cells, frzIn_00, setIn_cells, cellsIn_cells, List.getElem?_toArray, List.getElem?_cons_zero, List.getElem?_cons_succ, Option.isSome_some, Option.getD_some, Nat.zero_add, Nat.add_zero, List.setIfInBounds_toArray, List.set_cons_zero, List.set_cons_succ, put_same, add_new, add_old, oneV, Value.cells, List.size_toArray, List.length_cons, List.length_nil, List.extract_toArray, List.extract_eq_take_drop, Nat.reduceAdd, Nat.reduceSub, Nat.reduceLeDiff, if_true, List.drop_zero, List.take_succ_cons, List.take_zero, List.drop_succ_cons, drew_heap, hcl']
    rw [uv_allocS (vs := y.cells) zer62 siz62 rfl rfl (by intro u hu; exact wcells_one [y] u (by simpa [wcells] using hu))]
    have hka : Keep0 w1 (World.add w1 (.cells y.cells.toArray 61)) := (Keep.refl _ w1).add
    have hbox : (World.add w1 (.cells y.cells.toArray 61)).heap[w1.heap.size]? = some (.cells y.cells.toArray 61 (0, 0)) := add_new
    generalize World.add w1 (.cells y.cells.toArray 61) = w2 at hka hbox ⊢
    have hr2 := hr1.keep hka (fun _ _ => id)
    have hc2 := hka.at hc1 id
    simp only [Wi.cells] at hbox
    simp only [hbox, hc2, ↓uL.1, tL.1, cellIn_cells, frzIn_00, setIn_cells, cellsIn_cells, List.getElem?_toArray, List.getElem?_cons_zero, List.getElem?_cons_succ, Option.isSome_some, Option.getD_some, Nat.zero_add, Nat.add_zero, List.setIfInBounds_toArray, List.set_cons_zero, List.set_cons_succ, put_same, add_new, add_old, oneV, Value.cells, List.size_toArray, List.length_cons, List.length_nil, List.extract_toArray, List.extract_eq_take_drop, Nat.reduceAdd, Nat.reduceSub, Nat.reduceLeDiff, if_true, List.drop_zero, List.take_succ_cons, List.take_zero, List.drop_succ_cons, drew_heap, uv_eq (bldE _ _ _)]
    have hs1 := hk1.size
    have hs2 := hka.size
    refine un_appE (x := ⟨t, y.txn⟩) hr2 (by simp only [List.length_append, edQ, List.length_map, List.length_take]; omega) fun v' w3 h3 hf3 hk3 => ?_
    have e3 : IntKind.i64.wrap ((j : Int) + 1) = ((j + 1 : Nat) : Int) := by rw [wrap_id (by omega) (by omega)]; omega
    simp only [F12_s16, F12_s16_t, ↓uL.1, e3]
    have hq' : l ++ edQ t (x.q.take (j + 1)) = l ++ edQ t (x.q.take j) ++ [⟨t, y.txn⟩] := by
      rw [List.take_add_one, hy]; simp [edQ]
    refine ⟨⟨j + 1, rfl, by omega, by rw [hq']; exact h3, ?_, (hk1.trans hka (fun _ _ h => h.elim)).trans hk3 (fun b _ hb => hv1 b hb), ?_, ?_⟩, by simp; omega⟩
    · intro g hg
      rcases hf3 with e | ⟨g', e, hg'⟩
      · rw [e] at hg; exact hf1 g hg
      · rw [e] at hg; cases hg; omega
    · intro g hg
      rcases hf3 with e | ⟨g', e, hg'⟩
      · rw [e] at hg; exact hv1 g hg
      · rw [e] at hg; cases hg; exact .inr (by omega)
    · refine hk3.at hc2 fun hv => ?_
      obtain ⟨cc, hcc⟩ := row_block hr2 hv
      rw [hc2] at hcc
      simp only [Option.some.injEq, Obj.cells.injEq] at hcc
      exact absurd hcc.2.1 (by decide)
  · have e1 : decide ((j : Int) < (i : Int)) = false := by rw [decide_eq_false_iff_not]; omega
    obtain rfl : j = i := by omega
    simp only [e1, ↓uL.1]
    exact h v2' w1 hr1 hf1 hk1
end Go.Proofs.YtpghlemcgjogpaaGreat
