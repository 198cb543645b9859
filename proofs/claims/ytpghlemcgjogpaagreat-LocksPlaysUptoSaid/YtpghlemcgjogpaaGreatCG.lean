/- Queue, Wish. -/
import Derived.Test.YtpghlemcgjogpaaGreatCF
set_option linter.unusedVariables false
set_option linter.unusedSimpArgs false
set_option linter.unnecessarySimpa false
set_option maxRecDepth 100000
namespace Go.Proofs.YtpghlemcgjogpaaGreat
open Go.Sx

section
variable {α : Type} {enc : α → List Value} {sz : Nat} (he : ∀ x, (enc x).length = sz)
include he
theorem flat_length (q : List α) : (q.flatMap enc).length = q.length * sz := by
  induction q with
  | nil => simp
  | cons x q ih => simp only [List.flatMap_cons, List.length_append, List.length_cons]; rw [ih, he, Nat.add_mul, Nat.one_mul]; omega
theorem flat_drop (q : List α) (i : Nat) : (q.flatMap enc).drop (i * sz) = (q.drop i).flatMap enc := by
  induction q generalizing i with
  | nil => simp
  | cons x q ih =>
    cases i with
    | zero => simp
    | succ i =>
      rw [List.drop_succ_cons, ← ih, List.flatMap_cons, show (i + 1) * sz = (enc x).length + i * sz by rw [he, Nat.add_mul, Nat.one_mul]; omega, ← List.drop_drop, List.drop_left]
theorem flat_at {q : List α} {i : Nat} {x : α} (h : q[i]? = some x) : ((q.flatMap enc).drop (i * sz)).take sz = enc x := by
  rw [flat_drop he]
  have hlt := (List.getElem?_eq_some_iff.1 h).1
  rw [List.drop_eq_getElem_cons hlt]
  have : q[i] = x := (List.getElem?_eq_some_iff.1 h).2
  rw [this, List.flatMap_cons, ← he x, List.take_left]
end
/-- A lock. -/
structure Lk where
  txn : Int
  res : ByteArray
  mode : Int
  deriving DecidableEq
def Lk.cells (l : Lk) : List Value := [.int .i64 l.txn, .string l.res, .int .i64 l.mode]
def lcells (l : List Lk) : List Value := l.flatMap Lk.cells
theorem Lk.len (l : Lk) : l.cells.length = 3 := rfl
theorem lcells_one (q : List Lk) : ∀ u ∈ lcells q, oneV u = true := by
  intro u hu
  simp only [lcells, List.mem_flatMap] at hu
  obtain ⟨x, _, hu⟩ := hu
  simp only [Lk.cells, List.mem_cons, List.not_mem_nil, or_false] at hu
  rcases hu with rfl | rfl | rfl <;> rfl
abbrev RowL (w : World) (v : Value) (l : List Lk) : Prop := Row w 42 3 v l.length (lcells l)
theorem und32 : Tryz.prog.underlying 27 = some (.slice 42) := by kernel_rfl
theorem apL : apB Tryz.prog 27 42 3 32 = true := by kernel_rfl
theorem siz37 : (Tryz.prog.info? 42).map (·.size) = some 3 := by kernel_rfl
theorem zer37 : (Tryz.prog.info? 42).map (·.zero) = some (some (.agg #[.int .i64 0, .string ByteArray.empty, .int .i64 0])) := by kernel_rfl
theorem bldL (a : Int) (r : ByteArray) (b : Int) (w : World) : (Instr.build 42 #[(0, .int .i64 a), (1, .string r), (2, .int .i64 b)]).run Tryz.prog w = .ok (.agg #[.int .i64 a, .string r, .int .i64 b]) w := by kernel_rfl
theorem bldL0 (w : World) : (Instr.build 42 #[]).run Tryz.prog w = .ok (.agg #[.int .i64 0, .string ByteArray.empty, .int .i64 0]) w := by kernel_rfl
theorem bslL (a : Int) (r : ByteArray) (b : Int) (w : World) : (Instr.buildSlice 27 1 #[(0, .agg #[.int .i64 a, .string r, .int .i64 b])]).run Tryz.prog w = .ok (.slice (some ⟨w.heap.size, 0, none⟩) 1 1) (World.add w (.cells #[.int .i64 a, .string r, .int .i64 b] 42)) := by kernel_rfl
/-- One more lock behind those there are. -/
theorem un_appL {w : World} {v : Value} {l : List Lk} {x : Lk} {R : Ending → World → Prop} {k : Value → World → Prop} {base : Nat} (h : RowL w v l) (hlt : l.length ≤ 2199023255552) (hf : ∀ g, rowB v = some g → base ≤ g) (hb : base ≤ w.heap.size) {cs : Array Bool} {ty : Nat}
    (hk : ∀ v' w', RowL w' v' (l ++ [x]) → (∀ g, rowB v' = some g → base ≤ g) → Keep (fun b => base ≤ b) w w' → k v' w') :
    uv Tryz.prog R (Instr.buildSlice 27 1 #[(0, .agg #[.int .i64 x.txn, .string x.res, .int .i64 x.mode])]) w (fun s w => un Tryz.prog R (builtin .append #[27, 27] ty cs #[v, s]) w k) := by
  have hmx : 4398046511104 ≤ maxLen := by decide
  rw [uv_eq (bslL _ _ _ _)]
  have hka : Keep0 w (World.add w (.cells #[.int .i64 x.txn, .string x.res, .int .i64 x.mode] 42)) := (Keep.refl _ w).add
  have hsr : Row (World.add w (.cells #[.int .i64 x.txn, .string x.res, .int .i64 x.mode] 42)) 42 3 (.slice (some ⟨w.heap.size, 0, none⟩) 1 1) 1 x.cells := Row.fresh (cs := x.cells) rfl (by decide)
  refine un_appendR apL (by decide) (h.keep hka (fun _ _ => id)) hsr (by intro u hu; exact lcells_one [x] u (by simpa [lcells] using hu)) (by omega) (by omega) fun v' w' h1 hk1 hf1 => hk v' w' ?_ ?_ ?_
  · unfold RowL lcells at *
    rw [List.length_append, List.flatMap_append]
    simpa using h1
  · intro g hg
    rcases hf1 with e | ⟨g', e, hg'⟩
    · rw [e] at hg; exact hf g hg
    · rw [e] at hg; cases hg
      have := hka.size
      omega
  · exact (hka.mono (fun _ _ h => h.elim)).trans hk1 (fun b _ hv => hf b hv)

def queueF (A : Abs) (r : ByteArray) : List Lk := match pget A.things r with | some x => x.2.map fun y => ⟨y.txn, r, y.mode⟩ | none => []
theorem keep_fresh {w w' : World} (h : Keep (fun b => w.heap.size ≤ b) w w') : Keep0 w w' := h.mono fun b hb hx => by omega
theorem queue_c (T : Tab) (r : ByteArray) (w : World) (ht : TabAt w T) (hbig : ∀ p ∈ T.things, p.2.q.length ≤ 1099511627776) (R : Ending → World → Prop)
    (h : ∀ v w', RowL w' v (queueF T.abs r) → (∀ g, rowB v = some g → w.heap.size ≤ g) → Keep0 w w' → R (.returned v) w') :
    Calls Tryz.prog 14 #[ptr T.bt, .string r] w R := by
  apply F14_calls
  have hgt : pget T.abs.things r = (fndT T.things r).map fun x => (x.hv, x.q) := absT_get T.things r
  unfold queueF at h
  rw [hgt] at h
  simp only [F14_s1, F14_s1_t, ↓uL.1, tL.1, cellIn_cells, frzIn_00, setIn_cells, cellsIn_cells, List.getElem?_toArray, List.getElem?_cons_zero, List.getElem?_cons_succ, Option.isSome_some, Option.getD_some, Nat.zero_add, Nat.add_zero, List.setIfInBounds_toArray, List.set_cons_zero, List.set_cons_succ, put_same, add_new, add_old, oneV, Value.cells, List.size_toArray, List.length_cons, List.length_nil, List.extract_toArray, List.extract_eq_take_drop, Nat.reduceAdd, Nat.reduceSub, Nat.reduceLeDiff, if_true, List.drop_zero, List.take_succ_cons, List.take_zero, List.drop_succ_cons, drew_heap, ht.cell, uv_lookS ht.mapT und50 zer56, aget_things]
  cases hx : fndT T.things r with
  | none =>
    simp only [Option.map_none, Option.getD_none, ↓uL.1, tL.1, Option.isSome_none, F14_s2, F14_s3, F14_s3_t]
    simp only [hx, Option.map_none] at h
    exact h _ w Row.nil (by simp [rowB]) (Keep.refl _ w)
  | some x =>
    simp only [hx, Option.map_some] at h
    have hX := ht.ths _ (pget_mem hx)
    have hqb := hbig _ (pget_mem hx)
    simp only [] at hqb
    simp only [Option.map_some, ↓uL.1, tL.1, cellIn_cells, frzIn_00, setIn_cells, cellsIn_cells, List.getElem?_toArray, List.getElem?_cons_zero, List.getElem?_cons_succ, Option.isSome_some, Option.getD_some, Nat.zero_add, Nat.add_zero, List.setIfInBounds_toArray, List.set_cons_zero, List.set_cons_succ, put_same, add_new, add_old, oneV, Value.cells, List.size_toArray, List.length_cons, List.length_nil, List.extract_toArray, List.extract_eq_take_drop, Nat.reduceAdd, Nat.reduceSub, Nat.reduceLeDiff, if_true, List.drop_zero, List.take_succ_cons, List.take_zero, List.drop_succ_cons, drew_heap, F14_s2, F14_s4, F14_s4_t, hX.cell, un_lenR und57 hX.row, F14_s6]
    refine ⟨fun v4 v21 w' => ∃ i : Nat, v21 = .int .i64 i ∧ i ≤ x.q.length ∧ RowL w' v4 ((x.q.take i).map fun y => ⟨y.txn, r, y.mode⟩) ∧ (∀ g, rowB v4 = some g → w.heap.size ≤ g) ∧ Keep (fun b => w.heap.size ≤ b) w w',
      fun _ v21 _ => match v21 with | .int _ i => x.q.length - i.toNat | _ => 0, ⟨0, rfl, by omega, Row.nil, by simp [rowB], Keep.refl _ w⟩, ?_⟩
    rintro v4 v21 w1 ⟨i, rfl, hi, hr, hf, hk⟩
    have hX1 := hX.keep (keep_fresh hk) (fun _ _ => id)
    simp only [F14_s7, F14_s7_t, ↓uL.1, F14_s8]
    by_cases hlt : i < x.q.length
    · have e1 : decide ((i : Int) < (x.q.length : Int)) = true := by rw [decide_eq_true_eq]; omega
      obtain ⟨y, hy⟩ : ∃ y, x.q[i]? = some y := ⟨x.q[i], List.getElem?_eq_getElem hlt⟩
      obtain ⟨g, o, hg, hixx, hcl⟩ := hX1.row.elem (P := Tryz.prog) (q := .i64) (i := i) hlt und57 siz62
      rw [wcells_at hy] at hcl
      simp only [e1, ↓uL.1, F14_s11, F14_s11_t, uv_eq (hixx _), tL.1, cellIn_cells, frzIn_00, setIn_cells, cellsIn_cells, List.getElem?_toArray, List.getElem?_cons_zero, List.getElem?_cons_succ, Option.isSome_some, Option.getD_some, Nat.zero_add, Nat.add_zero, List.setIfInBounds_toArray, List.set_cons_zero, List.set_cons_succ, put_same, add_new, add_old, oneV, Value.cells, List.size_toArray, List.length_cons, List.length_nil, List.extract_toArray, List.extract_eq_take_drop, Nat.reduceAdd, Nat.reduceSub, Nat.reduceLeDiff, if_true, List.drop_zero, List.take_succ_cons, List.take_zero, List.drop_succ_cons, drew_heap, hcl]
      rw [uv_allocS (vs := y.cells) zer62 siz62 rfl rfl (by intro u hu; exact wcells_one [y] u (by simpa [wcells] using hu))]
      have hka : Keep0 w1 (World.add w1 (.cells y.cells.toArray 61)) := (Keep.refl _ w1).add
      have hbox : (World.add w1 (.cells y.cells.toArray 61)).heap[w1.heap.size]? = some (.cells y.cells.toArray 61 (0, 0)) := add_new
      generalize World.add w1 (.cells y.cells.toArray 61) = w2 at hka hbox ⊢
      have hr2 := hr.keep hka (fun _ _ => id)
      simp only [Wi.cells] at hbox
      simp only [hbox, ↓uL.1, tL.1, cellIn_cells, frzIn_00, setIn_cells, cellsIn_cells, List.getElem?_toArray, List.getElem?_cons_zero, List.getElem?_cons_succ, Option.isSome_some, Option.getD_some, Nat.zero_add, Nat.add_zero, List.setIfInBounds_toArray, List.set_cons_zero, List.set_cons_succ, put_same, add_new, add_old, oneV, Value.cells, List.size_toArray, List.length_cons, List.length_nil, List.extract_toArray, List.extract_eq_take_drop, Nat.reduceAdd, Nat.reduceSub, Nat.reduceLeDiff, if_true, List.drop_zero, List.take_succ_cons, List.take_zero, List.drop_succ_cons, drew_heap, uv_eq (bldL _ _ _ _)]
      have hs1 := hk.size
      have hs2 := hka.size
      refine un_appL (x := ⟨y.txn, r, y.mode⟩) (base := w.heap.size) hr2 (by simp; omega) hf (by omega) fun v' w3 h3 hf3 hk3 => ?_
      have e3 : IntKind.i64.wrap ((i : Int) + 1) = ((i + 1 : Nat) : Int) := by rw [wrap_id (by omega) (by omega)]; omega
      simp only [F14_s10, F14_s10_t, ↓uL.1, e3]
      refine ⟨⟨i + 1, rfl, by omega, ?_, hf3, (hk.trans hka (fun _ _ h => h.elim)).trans hk3 (fun _ _ h => h)⟩, by simp; omega⟩
      have : (x.q.take (i + 1)).map (fun y : Wi => (⟨y.txn, r, y.mode⟩ : Lk)) = (x.q.take i).map (fun y : Wi => (⟨y.txn, r, y.mode⟩ : Lk)) ++ [⟨y.txn, r, y.mode⟩] := by
        rw [List.take_add_one, hy]; simp
      rw [this]; exact h3
    · have e1 : decide ((i : Int) < (x.q.length : Int)) = false := by rw [decide_eq_false_iff_not]; omega
      simp only [e1, ↓uL.1, F14_s3, F14_s3_t]
      rw [List.take_of_length_le (by omega)] at hr
      exact h v4 w1 hr hf (keep_fresh hk)

/-- The wish with which a transaction waits. -/
def wishF (A : Abs) (t : Int) : Lk × Bool :=
  match pget A.waits t with
  | none => (⟨0, ByteArray.empty, 0⟩, false)
  | some r => match (queueF A r).find? (fun l => l.txn == t) with
    | some l => (l, true)
    | none => (⟨0, ByteArray.empty, 0⟩, false)
theorem wish_c (T : Tab) (t : Int) (w : World) (ht : TabAt w T) (hbig : ∀ p ∈ T.things, p.2.q.length ≤ 1099511627776) (R : Ending → World → Prop)
    (h : ∀ w', Keep0 w w' → R (.returned (.tuple #[.agg (wishF T.abs t).1.cells.toArray, .bool (wishF T.abs t).2])) w') :
    Calls Tryz.prog 13 #[ptr T.bt, .int .i64 t] w R := by
  apply F13_calls
  have hgw : pget T.abs.waits t = (fndW T.waits t).map fun x => x.2 := absW_get T.waits t
  unfold wishF at h
  rw [hgw] at h
  simp only [F13_s1, F13_s1_t, uv_alloc zer37, Value.cells]
  have hka : Keep0 w (World.add w (.cells #[.int .i64 0, .string ByteArray.empty, .int .i64 0] 42)) := (Keep.refl _ w).add
  have hres : (World.add w (.cells #[.int .i64 0, .string ByteArray.empty, .int .i64 0] 42)).heap[w.heap.size]? = some (.cells #[.int .i64 0, .string ByteArray.empty, .int .i64 0] 42 (0, 0)) := add_new
  generalize World.add w (.cells #[.int .i64 0, .string ByteArray.empty, .int .i64 0] 42) = w1 at hka hres ⊢
  have ht1 := ht.keep0 hka
  -- what is stored in the result and read back
  have fin : ∀ (w2 : World) (l : Lk) (b : Bool) (cs : Array Value), Keep0 w w2 → w2.heap[w.heap.size]? = some (.cells cs 42 (0, 0)) → cs.size = 3 → (∀ w', Keep0 w w' → R (.returned (.tuple #[.agg l.cells.toArray, .bool b])) w') →
      uu Tryz.prog R (Instr.storeAt 42 (ptr w.heap.size) (.agg l.cells.toArray)) w2 (fun wx => Rc Tryz.prog 42 (ptr w.heap.size) wx (fun r0 => R (.returned (.tuple #[r0, .bool b])) wx)) := by
    intro w2 l b cs hk hb hcs hR
    have hst := run_storeN (P := Tryz.prog) (w := w2) (t := 42) (b := w.heap.size) (o := 0) (v := .agg l.cells.toArray) (vs := l.cells) siz37 rfl (by intro u hu; exact lcells_one [l] u (by simpa [lcells] using hu)) hb (by rw [hcs, Lk.len]; omega)
    rw [uu_eq hst]
    have e : putL cs 0 l.cells = l.cells.toArray := by
      unfold putL
      have : cs.toList.drop (0 + l.cells.length) = [] := List.drop_eq_nil_of_le (by rw [Array.length_toList, hcs]; exact Nat.le_refl _)
      rw [this]; simp
    rw [e]
    refine ⟨.agg l.cells.toArray, run_loadN (n := 3) (by kernel_rfl) (by rw [put_same (by rw [hb]; rfl)]; rfl), hR _ (hk.put fun hlt => by omega)⟩
  have fin0 : ∀ (w2 : World), Keep0 w w2 → w2.heap[w.heap.size]? = some (.cells #[.int .i64 0, .string ByteArray.empty, .int .i64 0] 42 (0, 0)) → (∀ w', Keep0 w w' → R (.returned (.tuple #[.agg (Lk.cells ⟨0, ByteArray.empty, 0⟩).toArray, .bool false])) w') →
      uu Tryz.prog R (Instr.storeAt 42 (ptr w.heap.size) (.agg #[.int .i64 0, .string ByteArray.empty, .int .i64 0])) w2 (fun wx => Rc Tryz.prog 42 (ptr w.heap.size) wx (fun r0 => R (.returned (.tuple #[r0, .bool false])) wx)) :=
    fun w2 hk hb hR => fin w2 ⟨0, ByteArray.empty, 0⟩ false _ hk hb rfl hR
  simp only [↓uL.1, tL.1, cellIn_cells, frzIn_00, setIn_cells, cellsIn_cells, List.getElem?_toArray, List.getElem?_cons_zero, List.getElem?_cons_succ, Option.isSome_some, Option.getD_some, Nat.zero_add, Nat.add_zero, List.setIfInBounds_toArray, List.set_cons_zero, List.set_cons_succ, put_same, add_new, add_old, oneV, Value.cells, List.size_toArray, List.length_cons, List.length_nil, List.extract_toArray, List.extract_eq_take_drop, Nat.reduceAdd, Nat.reduceSub, Nat.reduceLeDiff, if_true, List.drop_zero, List.take_succ_cons, List.take_zero, List.drop_succ_cons, drew_heap, ht1.cell, uv_lookI ht1.mapW und51 zer55, aget_waits]
  cases hs : fndW T.waits t with
  | none =>
    simp only [hs, Option.map_none] at h
    simp only [Option.map_none, Option.getD_none, ↓uL.1, tL.1, Option.isNone_none, F13_s2, F13_s14, F13_s14_t, uv_eq (bldL0 _)]
    exact fin0 w1 hka hres h
  | some s =>
    simp only [hs, Option.map_some] at h
    have hsp := ht1.spots _ (pget_mem hs)
    simp only [] at hsp
    simp only [Option.map_some, Option.getD_some, ↓uL.1, tL.1, cellIn_cells, frzIn_00, setIn_cells, cellsIn_cells, List.getElem?_toArray, List.getElem?_cons_zero, List.getElem?_cons_succ, Option.isSome_some, Option.getD_some, Nat.zero_add, Nat.add_zero, List.setIfInBounds_toArray, List.set_cons_zero, List.set_cons_succ, put_same, add_new, add_old, oneV, Value.cells, List.size_toArray, List.length_cons, List.length_nil, List.extract_toArray, List.extract_eq_take_drop, Nat.reduceAdd, Nat.reduceSub, Nat.reduceLeDiff, if_true, List.drop_zero, List.take_succ_cons, List.take_zero, List.drop_succ_cons, drew_heap, Option.isNone_some, F13_s2, F13_s3, F13_s3_t, hsp]
    refine un_enter (enters Tryz.func14 (by kernel_rfl) (by kernel_rfl) _ _) (queue_c T s.2 w1 ht1 hbig _ fun v w2 hr2 hf2 hk2 => ?_)
    have hk02 : Keep0 w w2 := hka.trans hk2 (fun _ _ h => h)
    have hres2 := hk2.at hres id
    generalize hql : queueF T.abs s.2 = l at h hr2
    simp only [un_lenR und32 hr2, F13_s6]
    refine ⟨fun v25 w' => ∃ i : Nat, v25 = .int .i64 i ∧ i ≤ l.length ∧ Keep0 w2 w' ∧ ∀ j y, j < i → l[j]? = some y → (y.txn == t) = false,
      fun v25 _ => match v25 with | .int _ i => l.length - i.toNat | _ => 0, ⟨0, rfl, by omega, Keep.refl _ _, fun j y hj => by omega⟩, ?_⟩
    rintro v25 w3 ⟨i, rfl, hi, hk3, hn⟩
    have hr3 := hr2.keep hk3 (fun _ _ => id)
    have hres3 := hk3.at hres2 id
    have hk03 : Keep0 w w3 := hk02.trans hk3 (fun _ _ h => h)
    have hb := hr2.bound
    have hmax2 : maxLen ≤ 9223372036854775807 := by decide
    simp only [F13_s7, F13_s7_t, ↓uL.1, F13_s8]
    by_cases hlt : i < l.length
    · have e1 : decide ((i : Int) < (l.length : Int)) = true := by rw [decide_eq_true_eq]; omega
      obtain ⟨y, hy⟩ : ∃ y, l[i]? = some y := ⟨l[i], List.getElem?_eq_getElem hlt⟩
      obtain ⟨g, o, hg, hixx, hcl⟩ := hr3.elem (P := Tryz.prog) (q := .i64) (i := i) hlt und32 siz37
      rw [show lcells l = l.flatMap Lk.cells from rfl, flat_at Lk.len hy] at hcl
      simp only [e1, ↓uL.1, F13_s11, F13_s11_t, uv_eq (hixx _), tL.1, cellIn_cells, frzIn_00, setIn_cells, cellsIn_cells, List.getElem?_toArray, List.getElem?_cons_zero, List.getElem?_cons_succ, Option.isSome_some, Option.getD_some, Nat.zero_add, Nat.add_zero, List.setIfInBounds_toArray, List.set_cons_zero, List.set_cons_succ, put_same, add_new, add_old, oneV, Value.cells, List.size_toArray, List.length_cons, List.length_nil, List.extract_toArray, List.extract_eq_take_drop, Nat.reduceAdd, Nat.reduceSub, Nat.reduceLeDiff, if_true, List.drop_zero, List.take_succ_cons, List.take_zero, List.drop_succ_cons, drew_heap, hcl]
      rw [uv_allocS (vs := y.cells) zer37 siz37 rfl rfl (by intro u hu; exact lcells_one [y] u (by simpa [lcells] using hu))]
      have hkb : Keep0 w3 (World.add w3 (.cells y.cells.toArray 42)) := (Keep.refl _ w3).add
      have hbox : (World.add w3 (.cells y.cells.toArray 42)).heap[w3.heap.size]? = some (.cells y.cells.toArray 42 (0, 0)) := add_new
      generalize World.add w3 (.cells y.cells.toArray 42) = w4 at hkb hbox ⊢
      have hres4 := hkb.at hres3 id
      have hbox' := hbox
      simp only [Lk.cells] at hbox'
      simp only [hbox', ↓uL.1, tL.1, cellIn_cells, frzIn_00, setIn_cells, cellsIn_cells, List.getElem?_toArray, List.getElem?_cons_zero, List.getElem?_cons_succ, Option.isSome_some, Option.getD_some, Nat.zero_add, Nat.add_zero, List.setIfInBounds_toArray, List.set_cons_zero, List.set_cons_succ, put_same, add_new, add_old, oneV, Value.cells, List.size_toArray, List.length_cons, List.length_nil, List.extract_toArray, List.extract_eq_take_drop, Nat.reduceAdd, Nat.reduceSub, Nat.reduceLeDiff, if_true, List.drop_zero, List.take_succ_cons, List.take_zero, List.drop_succ_cons, drew_heap, F13_s12]
      have hk34 : Keep0 w2 w4 := hk3.trans hkb (fun _ _ h => h)
      cases hyt : (y.txn == t)
      · have e3 : IntKind.i64.wrap ((i : Int) + 1) = ((i + 1 : Nat) : Int) := by rw [wrap_id (by omega) (by omega)]; omega
        simp only [↓uL.1, F13_s10, F13_s10_t, e3]
        refine ⟨⟨i + 1, rfl, by omega, hk34, fun j z hj hz => ?_⟩, by simp; omega⟩
        by_cases hji : j = i
        · subst hji; rw [hy] at hz; cases hz; exact hyt
        · exact hn j z (by omega) hz
      · simp only [↓uL.1, F13_s13, F13_s13_t, hbox', tL.1, cellIn_cells, frzIn_00, setIn_cells, cellsIn_cells, List.getElem?_toArray, List.getElem?_cons_zero, List.getElem?_cons_succ, Option.isSome_some, Option.getD_some, Nat.zero_add, Nat.add_zero, List.setIfInBounds_toArray, List.set_cons_zero, List.set_cons_succ, put_same, add_new, add_old, oneV, Value.cells, List.size_toArray, List.length_cons, List.length_nil, List.extract_toArray, List.extract_eq_take_drop, Nat.reduceAdd, Nat.reduceSub, Nat.reduceLeDiff, if_true, List.drop_zero, List.take_succ_cons, List.take_zero, List.drop_succ_cons, drew_heap]
        have hfd : l.find? (fun l => l.txn == t) = some y := by
          rw [List.find?_eq_some_iff_getElem]
          refine ⟨hyt, i, hlt, (List.getElem?_eq_some_iff.1 hy).2, fun j hj => ?_⟩
          have := hn j l[j] hj (List.getElem?_eq_getElem (by omega))
          simp [this]
        simp only [hfd] at h
        exact fin w4 y true _ (hk03.trans hkb (fun _ _ h => h)) hres4 rfl h
    · have e1 : decide ((i : Int) < (l.length : Int)) = false := by rw [decide_eq_false_iff_not]; omega
      have hfd : l.find? (fun l => l.txn == t) = none := by
        rw [List.find?_eq_none]
        intro y hy
        obtain ⟨j, hj⟩ := List.getElem?_of_mem hy
        have := hn j y (by have := (List.getElem?_eq_some_iff.1 hj).1; omega) hj
        simp [this]
      simp only [hfd] at h
      simp only [e1, ↓uL.1, F13_s5, F13_s5_t, uv_eq (bldL0 _)]
      exact fin0 w3 hk03 hres3 h
end Go.Proofs.YtpghlemcgjogpaaGreat
