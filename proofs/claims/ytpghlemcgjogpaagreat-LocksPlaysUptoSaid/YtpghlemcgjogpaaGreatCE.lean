/- What Ask comes to. -/
import Derived.Test.YtpghlemcgjogpaaGreatCD
set_option linter.unusedVariables false
set_option linter.unusedSimpArgs false
set_option linter.unnecessarySimpa false
set_option maxRecDepth 100000
namespace Go.Proofs.YtpghlemcgjogpaaGreat
open Go.Sx

/-! ### Tests -/
theorem testsF (S : Nat → Prop) (w : World) : Tests S w (.func (.func 21) #[] #[]) (fun x => !x.ch) := by
  intro w1 x R k hk h
  refine un_enter (callV_func (enters Tryz.func21 (by kernel_rfl) (by kernel_rfl) _ _)) (F21_calls _ _ _ ?_)
  simp only [F21_s1, F21_s1_t, Wi.cells, ↓uL.1, tL.1, cellIn_cells, frzIn_00, setIn_cells, cellsIn_cells, List.getElem?_toArray, List.getElem?_cons_zero, List.getElem?_cons_succ, Option.isSome_some, Option.getD_some, Nat.zero_add, Nat.add_zero, List.setIfInBounds_toArray, List.set_cons_zero, List.set_cons_succ, put_same, add_new, add_old, oneV, Value.cells, List.size_toArray, List.length_cons, List.length_nil, List.extract_toArray, List.extract_eq_take_drop, Nat.reduceAdd, Nat.reduceSub, Nat.reduceLeDiff, if_true, List.drop_zero, List.take_succ_cons, List.take_zero, List.drop_succ_cons, drew_heap]
  exact h _ ((Keep.refl _ w1).add)
theorem testsE (S : Nat → Prop) (w : World) (b : Nat) (t : Int) (hb : w.heap[b]? = some (.cells #[.int .i64 t] 3 (0, 0))) (hS : ¬ S b) : Tests S w (.func (.func 39) #[] #[ptr b]) (fun x => x.txn == t) := by
  intro w1 x R k hk h
  have hb1 := hk.at hb hS
  have hb2 : (World.add w1 (.cells x.cells.toArray 61)).heap[b]? = some (.cells #[.int .i64 t] 3 (0, 0)) := by rw [add_old (by rw [hb1]; rfl), hb1]
  refine un_enter (callV_func (enters Tryz.func39 (by kernel_rfl) (by kernel_rfl) _ _)) (F39_calls _ (.agg x.cells.toArray) (ptr b) _ ?_)
  simp only [Wi.cells] at hb2
  simp only [F39_s1, F39_s1_t, Wi.cells, ↓uL.1, tL.1, cellIn_cells, frzIn_00, setIn_cells, cellsIn_cells, List.getElem?_toArray, List.getElem?_cons_zero, List.getElem?_cons_succ, Option.isSome_some, Option.getD_some, Nat.zero_add, Nat.add_zero, List.setIfInBounds_toArray, List.set_cons_zero, List.set_cons_succ, put_same, add_new, add_old, oneV, Value.cells, List.size_toArray, List.length_cons, List.length_nil, List.extract_toArray, List.extract_eq_take_drop, Nat.reduceAdd, Nat.reduceSub, Nat.reduceLeDiff, if_true, List.drop_zero, List.take_succ_cons, List.take_zero, List.drop_succ_cons, drew_heap, hb2]
  exact h _ ((Keep.refl _ w1).add)
theorem testsD (S : Nat → Prop) (w : World) (b : Nat) (t : Int) (hb : w.heap[b]? = some (.cells #[.int .i64 t] 3 (0, 0))) (hS : ¬ S b) : Tests S w (.func (.func 33) #[] #[ptr b]) (fun x => x.txn == t) := by
  intro w1 x R k hk h
  have hb1 := hk.at hb hS
  have hb2 : (World.add w1 (.cells x.cells.toArray 61)).heap[b]? = some (.cells #[.int .i64 t] 3 (0, 0)) := by rw [add_old (by rw [hb1]; rfl), hb1]
  refine un_enter (callV_func (enters Tryz.func33 (by kernel_rfl) (by kernel_rfl) _ _)) (F33_calls _ (.agg x.cells.toArray) (ptr b) _ ?_)
  simp only [Wi.cells] at hb2
  simp only [F33_s1, F33_s1_t, Wi.cells, ↓uL.1, tL.1, cellIn_cells, frzIn_00, setIn_cells, cellsIn_cells, List.getElem?_toArray, List.getElem?_cons_zero, List.getElem?_cons_succ, Option.isSome_some, Option.getD_some, Nat.zero_add, Nat.add_zero, List.setIfInBounds_toArray, List.set_cons_zero, List.set_cons_succ, put_same, add_new, add_old, oneV, Value.cells, List.size_toArray, List.length_cons, List.length_nil, List.extract_toArray, List.extract_eq_take_drop, Nat.reduceAdd, Nat.reduceSub, Nat.reduceLeDiff, if_true, List.drop_zero, List.take_succ_cons, List.take_zero, List.drop_succ_cons, drew_heap, hb2]
  exact h _ ((Keep.refl _ w1).add)

/-! ### What a table stands for -/
structure Abs where
  things : List (ByteArray × List (Int × Int) × List Wi)
  waits : List (Int × ByteArray)
def absT (l : List (ByteArray × Th)) : List (ByteArray × List (Int × Int) × List Wi) := l.map fun p => (p.1, p.2.hv, p.2.q)
def absW (l : List (Int × Nat × ByteArray)) : List (Int × ByteArray) := l.map fun p => (p.1, p.2.2)
def Tab.abs (T : Tab) : Abs := ⟨absT T.things, absW T.waits⟩
section
variable {κ β γ : Type} [DecidableEq κ]
theorem pget_map (f : β → γ) (l : List (κ × β)) (k : κ) : pget (l.map fun p => (p.1, f p.2)) k = (pget l k).map f := by
  induction l with
  | nil => rfl
  | cons p l ih => simp only [List.map_cons, pget]; split <;> simp [ih]
theorem pset_map (f : β → γ) (l : List (κ × β)) (k : κ) (v : β) : (pset l k v).map (fun p => (p.1, f p.2)) = pset (l.map fun p => (p.1, f p.2)) k (f v) := by
  induction l with
  | nil => rfl
  | cons p l ih => simp only [List.map_cons, pset]; split <;> simp [ih]
theorem pdel_map (f : β → γ) (l : List (κ × β)) (k : κ) : (pdel l k).map (fun p => (p.1, f p.2)) = pdel (l.map fun p => (p.1, f p.2)) k := by
  induction l with
  | nil => rfl
  | cons p l ih => simp only [List.map_cons, pdel]; split <;> simp [ih]
end
theorem absT_get (l : List (ByteArray × Th)) (r : ByteArray) : pget (absT l) r = (pget l r).map fun x => (x.hv, x.q) := pget_map (fun x : Th => (x.hv, x.q)) l r
theorem absT_set (l : List (ByteArray × Th)) (r : ByteArray) (x : Th) : absT (pset l r x) = pset (absT l) r (x.hv, x.q) := pset_map (fun x : Th => (x.hv, x.q)) l r x
theorem absT_del (l : List (ByteArray × Th)) (r : ByteArray) : absT (pdel l r) = pdel (absT l) r := pdel_map (fun x : Th => (x.hv, x.q)) l r
theorem absW_get (l : List (Int × Nat × ByteArray)) (t : Int) : pget (absW l) t = (pget l t).map fun x => x.2 := pget_map (fun x : Nat × ByteArray => x.2) l t
theorem absW_set (l : List (Int × Nat × ByteArray)) (t : Int) (x : Nat × ByteArray) : absW (pset l t x) = pset (absW l) t x.2 := pset_map (fun x : Nat × ByteArray => x.2) l t x
theorem absW_del (l : List (Int × Nat × ByteArray)) (t : Int) : absW (pdel l t) = pdel (absW l) t := pdel_map (fun x : Nat × ByteArray => x.2) l t

/-- Where a wish is put. -/
def putAt (q : List Wi) (ch : Bool) : Nat := if ch = true then (q.findIdx? fun x => !x.ch).getD q.length else q.length
/-- Ask, at the thing's locks and queue. -/
def ask2 (A : Abs) (t : Int) (r : ByteArray) (m : Int) (hv : List (Int × Int)) (q : List Wi) : Int × Abs :=
  let had := modeOf hv t
  let nm := jn had m
  let ch := had != 0
  if (nm == had) = true then (1, A) else
  if ((ch || q.isEmpty) && canB hv t nm) = true then (1, { A with things := pset A.things r (pset hv t nm, q) }) else
  (2, ⟨pset A.things r (hv, q.take (putAt q ch) ++ ⟨t, nm, ch⟩ :: q.drop (putAt q ch)), pset A.waits t r⟩)
def ask (A : Abs) (t : Int) (r : ByteArray) (m : Int) : Int × Abs :=
  if (!decide (1 ≤ m ∧ m ≤ 6) || (pget A.waits t).isSome) = true then (0, A) else
  match pget A.things r with
  | some x => ask2 A t r m x.1 x.2
  | none => ask2 { A with things := pset A.things r ([], []) } t r m [] []

/-- A new thing. -/
theorem TabAt.addT {w w' : World} {T : Tab} {r : ByteArray} {x : Th} (h : TabAt w T) (hf : fndT T.things r = none) (hk : Keep (fun b => b = T.bT) w w') (hm : MapS undS (w'.heap[T.bT]?) ((pset T.things r x).map fun p => (p.1, ptr p.2.bx)))
    (hx : ThAt w' x) (h1 : w.heap.size ≤ x.bx) (h2 : w.heap.size ≤ x.bh) (h3 : rowB x.qv = none) : TabAt w' { T with things := pset T.things r x } := by
  have e := pset_none (v := x) hf
  have hnoT : ∀ p ∈ T.things, ThAt w' p.2 := fun p hp => (h.ths p hp).keep hk fun b hb hb' => (h.th_sep hp hb).2.1 hb'
  have hsplit : ∀ p, p ∈ pset T.things r x → p = (r, x) ∨ p ∈ T.things := by
    intro p hp
    rw [e, List.mem_append] at hp
    rcases hp with hp | hp
    · exact .inr hp
    · exact .inl (by simpa using hp)
  refine ⟨?_, hm, ?_, ?_, ?_, h.neTW, ?_, ?_, h.sp⟩
  · exact hk.at h.cell fun hb => by
      obtain ⟨es, cl, he, _⟩ := h.mapT
      have := h.cell
      rw [hb, he] at this; cases this
  · rw [hk.keep _ (h.lt (.inr (.inr (.inl rfl)))) (fun hb => h.neTW hb.symm)]; exact h.mapW
  · intro p hp
    rcases hsplit p hp with rfl | hp
    · exact hx
    · exact hnoT p hp
  · intro p hp
    exact hk.at (h.spots p hp) fun hb => by
      obtain ⟨es, cl, he, _⟩ := h.mapT
      have := h.spots p hp
      rw [hb, he] at this; cases this
  · intro p hp
    rcases hsplit p hp with rfl | hp
    · have a := h.lt (b := T.bT) (.inr (.inl rfl))
      have b := h.lt (b := T.bW) (.inr (.inr (.inl rfl)))
      simp only; omega
    · exact h.neH p hp
  · show ((pset T.things r x).Pairwise fun p p' => apartTh p.2 p'.2)
    rw [e, List.pairwise_append]
    refine ⟨h.apart, by simp, fun p hp q hq => ?_⟩
    obtain rfl : q = (r, x) := by simpa using hq
    have a := (h.ths p hp).lt (.inl rfl)
    have b := (h.ths p hp).lt (.inr (.inl rfl))
    exact ⟨(by omega : p.2.bx ≠ x.bx), (by omega : p.2.bh ≠ x.bh), fun g hg hg' => by rw [h3] at hg'; cases hg'⟩

/-- What stays known of a table behind a call that changes it. -/
structure After (T : Tab) (w w' : World) (T' : Tab) (A : Abs) : Prop where
  at' : TabAt w' T'
  bt : T'.bt = T.bt
  abs : T'.abs = A
  keep : Keep T.foot w w'
  foot : ∀ b, T'.foot b → T.foot b ∨ w.heap.size ≤ b
theorem After.trans {T T1 T2 : Tab} {w w1 w2 : World} {A B : Abs} (h : After T w w1 T1 A) (h' : After T1 w1 w2 T2 B) : After T w w2 T2 B :=
  ⟨h'.at', h'.bt.trans h.bt, h'.abs, h.keep.trans h'.keep fun b hb hf => (h.foot b hf).resolve_right (by omega), fun b hb => by
    rcases h'.foot b hb with h1 | h1
    · exact h.foot b h1
    · exact .inr (Nat.le_trans h.keep.size h1)⟩
theorem After.of0 {T : Tab} {w w' : World} (h : TabAt w T) (hk : Keep0 w w') : After T w w' T T.abs := ⟨h.keep0 hk, rfl, rfl, hk.mono fun _ _ h => h.elim, fun b hb => .inl hb⟩
/-- A thing changes: what the table lies in. -/
theorem foot_upd {w w' : World} {T : Tab} {r : ByteArray} {x x' : Th} (h : TabAt w T) (hf : fndT T.things r = some x) (h1 : x'.bx = x.bx) (h2 : x'.bh = x.bh)
    (h3 : rowB x'.qv = rowB x.qv ∨ ∃ g, rowB x'.qv = some g ∧ w.heap.size ≤ g) (b : Nat) (hb : ({ T with things := pset T.things r x' } : Tab).foot b) : T.foot b ∨ w.heap.size ≤ b := by
  obtain ⟨l1, l2, e1, e2, _⟩ := pget_split hf
  have hm : (r, x) ∈ T.things := pget_mem hf
  rcases hb with hb | hb | hb | ⟨p, hp, hb⟩ | hb
  · exact .inl (.inl hb)
  · exact .inl (.inr (.inl hb))
  · exact .inl (.inr (.inr (.inl hb)))
  · simp only [e2] at hp
    rcases List.mem_append.1 hp with hp | hp
    · exact .inl (.inr (.inr (.inr (.inl ⟨p, by rw [e1]; exact List.mem_append_left _ hp, hb⟩))))
    · rcases List.mem_cons.1 hp with rfl | hp
      · rcases hb with rfl | rfl | hb
        · exact .inl (.inr (.inr (.inr (.inl ⟨_, hm, by rw [h1]; exact .inl rfl⟩))))
        · exact .inl (.inr (.inr (.inr (.inl ⟨_, hm, by rw [h2]; exact .inr (.inl rfl)⟩))))
        · rcases h3 with h3 | ⟨g, h3, h4⟩
          · rw [h3] at hb
            exact .inl (.inr (.inr (.inr (.inl ⟨_, hm, .inr (.inr hb)⟩))))
          · rw [h3] at hb; cases hb; exact .inr h4
      · exact .inl (.inr (.inr (.inr (.inl ⟨p, by rw [e1]; exact List.mem_append_right _ (List.mem_cons_of_mem _ hp), hb⟩))))
  · exact .inl (.inr (.inr (.inr (.inr hb))))
end Go.Proofs.YtpghlemcgjogpaaGreat
