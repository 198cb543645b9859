/- The table of locks in memory. -/
import Derived.Test.YtpghlemcgjogpaaGreatT
import Derived.Test.YtpghlemcgjogpaaGreatSxr
set_option linter.unusedVariables false
set_option linter.unusedSimpArgs false
set_option maxRecDepth 100000
namespace Go.Proofs.YtpghlemcgjogpaaGreat
open Go.Sx

theorem undI : Tryz.prog.underlying 3 = some (.int .i64) := by kernel_rfl
theorem undS : Tryz.prog.underlying 9 = some .string := by kernel_rfl
theorem und50 : Tryz.prog.underlying 48 = some (.map 9 54) := by kernel_rfl
theorem und51 : Tryz.prog.underlying 49 = some (.map 3 53) := by kernel_rfl
theorem und35 : Tryz.prog.underlying 55 = some (.map 3 3) := by kernel_rfl
theorem zer56 : (Tryz.prog.info? 54).map (·.zero) = some (some (.pointer none)) := by kernel_rfl
theorem zer55 : (Tryz.prog.info? 53).map (·.zero) = some (some (.pointer none)) := by kernel_rfl
theorem zer3 : (Tryz.prog.info? 3).map (·.zero) = some (some (.int .i64 0)) := by kernel_rfl

theorem und57 : Tryz.prog.underlying 56 = some (.slice 61) := by kernel_rfl
theorem siz62 : (Tryz.prog.info? 61).map (·.size) = some 3 := by kernel_rfl
theorem zer62 : (Tryz.prog.info? 61).map (·.zero) = some (some (.agg #[.int .i64 0, .int .i64 0, .bool false])) := by kernel_rfl
/-- A wish. -/
structure Wi where
  txn : Int
  mode : Int
  ch : Bool
def Wi.cells (x : Wi) : List Value := [.int .i64 x.txn, .int .i64 x.mode, .bool x.ch]
def wcells (q : List Wi) : List Value := q.flatMap Wi.cells
/-- A thing: its block, its map's, its queue's value; who has it; who waits for it. -/
structure Th where
  bx : Nat
  bh : Nat
  qv : Value
  hv : List (Int × Int)
  q : List Wi
theorem wcells_length (q : List Wi) : (wcells q).length = q.length * 3 := by
  induction q with
  | nil => rfl
  | cons x q ih => simp only [wcells, List.flatMap_cons, List.length_append, List.length_cons] at ih ⊢; rw [ih, Nat.add_mul]; simp [Wi.cells]; omega
theorem wcells_append (q q' : List Wi) : wcells (q ++ q') = wcells q ++ wcells q' := List.flatMap_append
theorem wcells_drop (q : List Wi) (i : Nat) : (wcells q).drop (i * 3) = wcells (q.drop i) := by
  induction q generalizing i with
  | nil => simp [wcells]
  | cons x q ih =>
    cases i with
    | zero => simp
    | succ i =>
      rw [List.drop_succ_cons, ← ih, wcells, List.flatMap_cons, ← wcells, show (i + 1) * 3 = x.cells.length + i * 3 by simp [Wi.cells]; omega, ← List.drop_drop, List.drop_left]
theorem wcells_take (q : List Wi) (i : Nat) : (wcells q).take (i * 3) = wcells (q.take i) := by
  induction q generalizing i with
  | nil => simp [wcells]
  | cons x q ih =>
    cases i with
    | zero => simp [wcells]
    | succ i =>
      rw [List.take_succ_cons]
      simp only [wcells, List.flatMap_cons] at ih ⊢
      rw [← ih, show (i + 1) * 3 = x.cells.length + i * 3 by simp [Wi.cells]; omega, List.take_length_add_append]
theorem wcells_at {q : List Wi} {i : Nat} {x : Wi} (h : q[i]? = some x) : ((wcells q).drop (i * 3)).take 3 = x.cells := by
  rw [wcells_drop]
  have hlt := (List.getElem?_eq_some_iff.1 h).1
  rw [List.drop_eq_getElem_cons hlt]
  have : q[i] = x := (List.getElem?_eq_some_iff.1 h).2
  rw [this]
  simp [wcells, Wi.cells]
theorem wcells_one (q : List Wi) : ∀ u ∈ wcells q, oneV u = true := by
  intro u hu
  simp only [wcells, List.mem_flatMap] at hu
  obtain ⟨x, _, hu⟩ := hu
  simp only [Wi.cells, List.mem_cons, List.not_mem_nil, or_false] at hu
  rcases hu with rfl | rfl | rfl <;> rfl
def hvV (l : List (Int × Int)) : List (Int × Value) := l.map fun p => (p.1, .int .i64 p.2)
abbrev ptr (b : Nat) : Value := .pointer (some ⟨b, 0, none⟩)

structure ThAt (w : World) (x : Th) : Prop where
  cell : w.heap[x.bx]? = some (.cells #[.map (some x.bh), x.qv] 58 (0, 0))
  map : MapI undI (w.heap[x.bh]?) (hvV x.hv)
  row : Row w 61 3 x.qv x.q.length (wcells x.q)

/-- A table: its block, its two maps'; its things; its waits: by transaction the spot's block and what is waited for. -/
structure Tab where
  bt : Nat
  bT : Nat
  bW : Nat
  things : List (ByteArray × Th)
  waits : List (Int × Nat × ByteArray)
def apartTh (x y : Th) : Prop := x.bx ≠ y.bx ∧ x.bh ≠ y.bh ∧ (∀ g, rowB x.qv = some g → rowB y.qv ≠ some g)
structure TabAt (w : World) (T : Tab) : Prop where
  cell : w.heap[T.bt]? = some (.cells #[.map (some T.bT), .map (some T.bW)] 51 (0, 0))
  mapT : MapS undS (w.heap[T.bT]?) (T.things.map fun p => (p.1, ptr p.2.bx))
  mapW : MapI undI (w.heap[T.bW]?) (T.waits.map fun p => (p.1, ptr p.2.1))
  ths : ∀ p ∈ T.things, ThAt w p.2
  spots : ∀ p ∈ T.waits, w.heap[p.2.1]? = some (.cells #[.string p.2.2] 66 (0, 0))
  neTW : T.bT ≠ T.bW
  neH : ∀ p ∈ T.things, p.2.bh ≠ T.bT ∧ p.2.bh ≠ T.bW
  apart : T.things.Pairwise fun p p' => apartTh p.2 p'.2
  sp : T.waits.Pairwise fun p p' => p.2.1 ≠ p'.2.1
/-- What a thing, a table lies in. -/
def Th.foot (x : Th) (b : Nat) : Prop := b = x.bx ∨ b = x.bh ∨ rowB x.qv = some b
def Tab.foot (T : Tab) (b : Nat) : Prop := b = T.bt ∨ b = T.bT ∨ b = T.bW ∨ (∃ p ∈ T.things, p.2.foot b) ∨ ∃ p ∈ T.waits, b = p.2.1

theorem ThAt.congr {w w' : World} {x : Th} (h : ThAt w x) (hk : ∀ b, x.foot b → w'.heap[b]? = w.heap[b]?) : ThAt w' x :=
  ⟨by rw [hk _ (.inl rfl)]; exact h.cell, by rw [hk _ (.inr (.inl rfl))]; exact h.map, h.row.congr fun g hg => hk g (.inr (.inr hg))⟩
theorem TabAt.congr {w w' : World} {T : Tab} (h : TabAt w T) (hk : ∀ b, T.foot b → w'.heap[b]? = w.heap[b]?) : TabAt w' T where
  cell := by rw [hk _ (.inl rfl)]; exact h.cell
  mapT := by rw [hk _ (.inr (.inl rfl))]; exact h.mapT
  mapW := by rw [hk _ (.inr (.inr (.inl rfl)))]; exact h.mapW
  ths p hp := (h.ths p hp).congr fun b hb => hk b (.inr (.inr (.inr (.inl ⟨p, hp, hb⟩))))
  spots p hp := by rw [hk _ (.inr (.inr (.inr (.inr ⟨p, hp, rfl⟩))))]; exact h.spots p hp
  neTW := h.neTW
  neH := h.neH
  apart := h.apart
  sp := h.sp
theorem MapK_lt {P : Program} {kt : TypeId} {κ : Type} [DecidableEq κ] {K : KeyK P kt κ} {w : World} {b : Nat} {l : List (κ × Value)} (h : MapK K (w.heap[b]?) l) : b < w.heap.size := by
  obtain ⟨es, c, hb, _⟩ := h; exact lt_of_at hb
theorem ThAt.lt {w : World} {x : Th} (h : ThAt w x) {b : Nat} (hb : x.foot b) : b < w.heap.size := by
  rcases hb with rfl | rfl | hb
  · exact lt_of_at h.cell
  · exact MapK_lt h.map
  · exact h.row.lt hb
theorem TabAt.lt {w : World} {T : Tab} (h : TabAt w T) {b : Nat} (hb : T.foot b) : b < w.heap.size := by
  rcases hb with rfl | rfl | rfl | ⟨p, hp, hb⟩ | ⟨p, hp, rfl⟩
  · exact lt_of_at h.cell
  · exact MapK_lt h.mapT
  · exact MapK_lt h.mapW
  · exact (h.ths p hp).lt hb
  · exact lt_of_at (h.spots p hp)
theorem TabAt.keep {S : Nat → Prop} {w w' : World} {T : Tab} (h : TabAt w T) (hk : Keep S w w') (hd : ∀ b, T.foot b → ¬ S b) : TabAt w' T :=
  h.congr fun b hb => hk.keep b (h.lt hb) (hd b hb)
theorem TabAt.keep0 {w w' : World} {T : Tab} (h : TabAt w T) (hk : Keep0 w w') : TabAt w' T := h.keep hk fun _ _ => id
theorem ThAt.keep {S : Nat → Prop} {w w' : World} {x : Th} (h : ThAt w x) (hk : Keep S w w') (hd : ∀ b, x.foot b → ¬ S b) : ThAt w' x :=
  h.congr fun b hb => hk.keep b (h.lt hb) (hd b hb)

/-! ### Lists of pairs as maps -/
section
variable {κ β : Type} [DecidableEq κ]
def pget (l : List (κ × β)) (k : κ) : Option β :=
  match l with
  | [] => none
  | p :: l => if p.1 = k then some p.2 else pget l k
def pset (l : List (κ × β)) (k : κ) (v : β) : List (κ × β) :=
  match l with
  | [] => [(k, v)]
  | p :: l => if p.1 = k then (k, v) :: l else p :: pset l k v
def pdel (l : List (κ × β)) (k : κ) : List (κ × β) :=
  match l with
  | [] => []
  | p :: l => if p.1 = k then l else p :: pdel l k
theorem aget_map (f : β → Value) (l : List (κ × β)) (k : κ) : aget (l.map fun p => (p.1, f p.2)) k = (pget l k).map f := by
  induction l with
  | nil => rfl
  | cons p l ih => simp only [List.map_cons, aget, pget]; split <;> simp [ih]
theorem aset_map (f : β → Value) (l : List (κ × β)) (k : κ) (v : β) : aset (l.map fun p => (p.1, f p.2)) k (f v) = (pset l k v).map fun p => (p.1, f p.2) := by
  induction l with
  | nil => rfl
  | cons p l ih => simp only [List.map_cons, aset, pset]; split <;> simp [ih]
theorem adel_map (f : β → Value) (l : List (κ × β)) (k : κ) : adel (l.map fun p => (p.1, f p.2)) k = (pdel l k).map fun p => (p.1, f p.2) := by
  induction l with
  | nil => rfl
  | cons p l ih => simp only [List.map_cons, adel, pdel]; split <;> simp [ih]
theorem pget_mem {l : List (κ × β)} {k : κ} {x : β} (h : pget l k = some x) : (k, x) ∈ l := by
  induction l with
  | nil => cases h
  | cons p l ih =>
    simp only [pget] at h
    split at h
    · rename_i e; cases h; subst e; exact List.mem_cons_self
    · exact List.mem_cons_of_mem _ (ih h)
theorem pget_split {l : List (κ × β)} {k : κ} {x : β} (h : pget l k = some x) : ∃ l1 l2, l = l1 ++ (k, x) :: l2 ∧ (∀ v, pset l k v = l1 ++ (k, v) :: l2) ∧ pdel l k = l1 ++ l2 ∧ ∀ p ∈ l1, p.1 ≠ k := by
  induction l with
  | nil => cases h
  | cons p l ih =>
    simp only [pget] at h
    split at h
    · rename_i e; cases h; subst e; exact ⟨[], l, rfl, fun v => by simp [pset], by simp [pdel], by simp⟩
    · rename_i e
      obtain ⟨l1, l2, h1, h2, h3, h4⟩ := ih h
      refine ⟨p :: l1, l2, by rw [h1]; rfl, fun v => by simp [pset, e, h2 v], by simp [pdel, e, h3], ?_⟩
      intro q hq
      rcases List.mem_cons.1 hq with rfl | hq
      · exact e
      · exact h4 q hq
theorem pset_none {l : List (κ × β)} {k : κ} {v : β} (h : pget l k = none) : pset l k v = l ++ [(k, v)] := by
  induction l with
  | nil => rfl
  | cons p l ih =>
    simp only [pget] at h
    split at h
    · cases h
    · rename_i e; simp [pset, e, ih h]
theorem pdel_none {l : List (κ × β)} {k : κ} (h : pget l k = none) : pdel l k = l := by
  induction l with
  | nil => rfl
  | cons p l ih =>
    simp only [pget] at h
    split at h
    · cases h
    · rename_i e; simp [pdel, e, ih h]
theorem pdel_sub {l : List (κ × β)} {k : κ} : (pdel l k).Sublist l := by
  induction l with
  | nil => exact List.Sublist.refl _
  | cons p l ih =>
    simp only [pdel]
    split
    · exact List.sublist_cons_self ..
    · exact ih.cons_cons _
theorem pget_pset_same {l : List (κ × β)} {k : κ} {v : β} : pget (pset l k v) k = some v := by
  induction l with
  | nil => simp [pset, pget]
  | cons p l ih => simp only [pset]; split <;> simp_all [pget]
theorem pget_pset_ne {l : List (κ × β)} {k k' : κ} {v : β} (h : k ≠ k') : pget (pset l k v) k' = pget l k' := by
  induction l with
  | nil => simp [pset, pget, h]
  | cons p l ih => simp only [pset]; split <;> simp_all [pget]
end
abbrev fndT (l : List (ByteArray × Th)) (r : ByteArray) : Option Th := pget l r
abbrev fndW (l : List (Int × Nat × ByteArray)) (t : Int) : Option (Nat × ByteArray) := pget l t
theorem aget_things (l : List (ByteArray × Th)) (r : ByteArray) : aget (l.map fun p => (p.1, ptr p.2.bx)) r = (fndT l r).map fun x => ptr x.bx := aget_map (fun x : Th => ptr x.bx) l r
theorem aget_waits (l : List (Int × Nat × ByteArray)) (t : Int) : aget (l.map fun p => (p.1, ptr p.2.1)) t = (fndW l t).map fun x => ptr x.1 := aget_map (fun x : Nat × ByteArray => ptr x.1) l t
theorem fndT_mem {l : List (ByteArray × Th)} {r : ByteArray} {x : Th} (h : fndT l r = some x) : (r, x) ∈ l := pget_mem h
/-- In which mode somebody has something. -/
def modeOf (l : List (Int × Int)) (t : Int) : Int := (pget l t).getD 0
theorem aget_hv0 (l : List (Int × Int)) (t : Int) : aget (hvV l) t = (pget l t).map fun m => .int .i64 m := aget_map (fun m : Int => Value.int .i64 m) l t
theorem aget_hv (l : List (Int × Int)) (t : Int) : (aget (hvV l) t).getD (.int .i64 0) = .int .i64 (modeOf l t) := by
  rw [aget_hv0, modeOf]; cases pget l t <;> rfl
theorem aset_hv (l : List (Int × Int)) (t m : Int) : aset (hvV l) t (.int .i64 m) = hvV (pset l t m) := aset_map (fun m : Int => Value.int .i64 m) l t m
theorem adel_hv (l : List (Int × Int)) (t : Int) : adel (hvV l) t = hvV (pdel l t) := adel_map (fun m : Int => Value.int .i64 m) l t

/-! ### Changes of a table -/
theorem apartTh.symm {x y : Th} (h : apartTh x y) : apartTh y x := ⟨fun e => h.1 e.symm, fun e => h.2.1 e.symm, fun g hg hx => h.2.2 g hx hg⟩
theorem row_block {w : World} {e sz n : Nat} {v : Value} {xs : List Value} (h : Row w e sz v n xs) {g : Nat} (hg : rowB v = some g) : ∃ c, w.heap[g]? = some (.cells c e (0, 0)) := by
  rcases h.2 with ⟨rfl, _⟩ | ⟨g', off, cap, cur, rfl, hh, h3⟩
  · cases hg
  · cases hg; exact ⟨_, hh⟩
/-- A thing's blocks are no others of the table's. -/
theorem ThAt.not_cells {w : World} {x : Th} (h : ThAt w x) {b : Nat} (hb : x.foot b) {c : Array Value} {ty : Nat} (hw : w.heap[b]? = some (.cells c ty (0, 0))) : ty = 58 ∨ ty = 61 := by
  rcases hb with rfl | rfl | hb
  · rw [h.cell] at hw; cases hw; exact .inl rfl
  · obtain ⟨es, cl, he, _⟩ := h.map; rw [he] at hw; cases hw
  · obtain ⟨c', hc⟩ := row_block h.row hb
    rw [hc] at hw; cases hw; exact .inr rfl
theorem ThAt.not_map {w : World} {x : Th} (h : ThAt w x) {b : Nat} (hb : x.foot b) {es : Array MapEntry} {cl : Nat} (hw : w.heap[b]? = some (.map es cl)) : b = x.bh := by
  rcases hb with rfl | rfl | hb
  · rw [h.cell] at hw; cases hw
  · rfl
  · obtain ⟨c', hc⟩ := row_block h.row hb
    rw [hc] at hw; cases hw
theorem ThAt.apart {w : World} {x y : Th} (hx : ThAt w x) (hy : ThAt w y) (h : apartTh x y) {b : Nat} (hb : x.foot b) : ¬ y.foot b := by
  intro hb'
  rcases hb with rfl | rfl | hb
  · rcases hb' with e | e | e
    · exact h.1 e
    · obtain ⟨es, cl, he, _⟩ := hy.map
      rw [← e, hx.cell] at he; cases he
    · obtain ⟨c', hc⟩ := row_block hy.row e
      rw [hx.cell] at hc
      simp only [Option.some.injEq, Obj.cells.injEq] at hc
      exact absurd hc.2.1 (by decide)
  · rcases hb' with e | e | e
    · obtain ⟨es, cl, he, _⟩ := hx.map
      rw [e, hy.cell] at he; cases he
    · exact h.2.1 e
    · obtain ⟨c', hc⟩ := row_block hy.row e
      obtain ⟨es, cl, he, _⟩ := hx.map
      rw [he] at hc; cases hc
  · rcases hb' with e | e | e
    · obtain ⟨c', hc⟩ := row_block hx.row hb
      rw [e, hy.cell] at hc
      simp only [Option.some.injEq, Obj.cells.injEq] at hc
      exact absurd hc.2.1 (by decide)
    · obtain ⟨c', hc⟩ := row_block hx.row hb
      obtain ⟨es, cl, he, _⟩ := hy.map
      rw [e, he] at hc; cases hc
    · exact h.2.2 b hb e
theorem TabAt.th_sep {w : World} {T : Tab} (h : TabAt w T) {p : ByteArray × Th} (hp : p ∈ T.things) {b : Nat} (hb : p.2.foot b) : b ≠ T.bt ∧ b ≠ T.bT ∧ b ≠ T.bW ∧ ∀ q ∈ T.waits, b ≠ q.2.1 := by
  have hx := h.ths p hp
  refine ⟨?_, ?_, ?_, ?_⟩
  · rintro rfl
    rcases hx.not_cells hb h.cell with e | e <;> exact absurd e (by decide)
  · rintro rfl
    obtain ⟨es, cl, he, _⟩ := h.mapT
    exact (h.neH p hp).1 (hx.not_map hb he).symm
  · rintro rfl
    obtain ⟨es, cl, he, _⟩ := h.mapW
    exact (h.neH p hp).2 (hx.not_map hb he).symm
  · rintro q hq rfl
    rcases hx.not_cells hb (h.spots q hq) with e | e <;> exact absurd e (by decide)
/-- One thing changes. -/
theorem TabAt.upd {w w' : World} {T : Tab} {r : ByteArray} {x x' : Th} (h : TabAt w T) (hf : fndT T.things r = some x) (hk : Keep x.foot w w') (hx : ThAt w' x') (h1 : x'.bx = x.bx) (h2 : x'.bh = x.bh)
    (h3 : rowB x'.qv = rowB x.qv ∨ ∃ g, rowB x'.qv = some g ∧ w.heap.size ≤ g) : TabAt w' { T with things := pset T.things r x' } := by
  obtain ⟨l1, l2, hl, hs, _, _⟩ := pget_split hf
  have hmem : (r, x) ∈ T.things := pget_mem hf
  have hpw := h.apart
  rw [hl, List.pairwise_append, List.pairwise_cons] at hpw
  obtain ⟨hp1, ⟨hp2, hp3⟩, hp4⟩ := hpw
  have hap : ∀ p, p ∈ l1 ∨ p ∈ l2 → p ∈ T.things ∧ apartTh x p.2 := by
    rintro p (hp | hp)
    · exact ⟨by rw [hl]; exact List.mem_append_left _ hp, (hp4 p hp _ List.mem_cons_self).symm⟩
    · exact ⟨by rw [hl]; exact List.mem_append_right _ (List.mem_cons_of_mem _ hp), hp2 p hp⟩
  have hap' : ∀ p, p ∈ l1 ∨ p ∈ l2 → apartTh x' p.2 := by
    intro p hp
    obtain ⟨hm, ha⟩ := hap p hp
    refine ⟨by rw [h1]; exact ha.1, by rw [h2]; exact ha.2.1, fun g hg hg' => ?_⟩
    rcases h3 with h3 | ⟨g', h3, h4⟩
    · rw [h3] at hg; exact ha.2.2 g hg hg'
    · rw [h3] at hg; cases hg
      have := (h.ths p hm).lt (.inr (.inr hg'))
      omega
  have hold : ∀ p, p ∈ l1 ∨ p ∈ l2 → ThAt w' p.2 := fun p hp => (h.ths p (hap p hp).1).keep hk fun b hb hb' => ((h.ths _ hmem).apart (h.ths p (hap p hp).1) (hap p hp).2 hb') hb
  have hsep := fun b (hb : x.foot b) => h.th_sep hmem hb
  have hsplit : ∀ p, p ∈ pset T.things r x' → p = (r, x') ∨ (p ∈ l1 ∨ p ∈ l2) := by
    intro p hp
    rw [hs] at hp
    rcases List.mem_append.1 hp with hp | hp
    · exact .inr (.inl hp)
    · rcases List.mem_cons.1 hp with hp | hp
      · exact .inl hp
      · exact .inr (.inr hp)
  refine ⟨?_, ?_, ?_, ?_, ?_, h.neTW, ?_, ?_, h.sp⟩
  · exact hk.at h.cell fun hb => (hsep _ hb).1 rfl
  · have := h.mapT
    have e : (pset T.things r x').map (fun p => (p.1, ptr p.2.bx)) = T.things.map fun p => (p.1, ptr p.2.bx) := by
      rw [hs]; conv => rhs; rw [hl]
      simp [h1]
    simp only [e]
    rw [hk.keep _ (h.lt (.inr (.inl rfl))) fun hb => (hsep _ hb).2.1 rfl]
    exact this
  · rw [hk.keep _ (h.lt (.inr (.inr (.inl rfl)))) fun hb => (hsep _ hb).2.2.1 rfl]
    exact h.mapW
  · intro p hp
    rcases hsplit p hp with rfl | hp
    · exact hx
    · exact hold p hp
  · intro p hp
    exact hk.at (h.spots p hp) fun hb => (hsep _ hb).2.2.2 p hp rfl
  · intro p hp
    rcases hsplit p hp with rfl | hp
    · simp only [h2]; exact h.neH _ hmem
    · exact h.neH p (hap p hp).1
  · show ((pset T.things r x').Pairwise fun p p' => apartTh p.2 p'.2)
    rw [hs, List.pairwise_append, List.pairwise_cons]
    refine ⟨hp1, ⟨fun p hp => hap' p (.inr hp), hp3⟩, fun p hp q hq => ?_⟩
    rcases List.mem_cons.1 hq with rfl | hq
    · exact (hap' p (.inl hp)).symm
    · exact hp4 p hp q (List.mem_cons_of_mem _ hq)
/-- The waits change. -/
theorem TabAt.updW {w w' : World} {T : Tab} {W' : List (Int × Nat × ByteArray)} (h : TabAt w T) (hk : Keep (fun b => b = T.bW) w w') (hm : MapI undI (w'.heap[T.bW]?) (W'.map fun p => (p.1, ptr p.2.1)))
    (hs : ∀ p ∈ W', w'.heap[p.2.1]? = some (.cells #[.string p.2.2] 66 (0, 0))) (hsp : W'.Pairwise fun p p' => p.2.1 ≠ p'.2.1) : TabAt w' { T with waits := W' } := by
  have hmw := h.mapW
  obtain ⟨es, cl, he, _⟩ := hmw
  refine ⟨?_, ?_, hm, ?_, hs, h.neTW, h.neH, h.apart, hsp⟩
  · exact hk.at h.cell fun hb => by
      have := h.cell
      rw [hb, he] at this; cases this
  · rw [hk.keep _ (h.lt (.inr (.inl rfl))) h.neTW]; exact h.mapT
  · intro p hp
    exact (h.ths p hp).keep hk fun b hb hb' => (h.th_sep hp hb).2.2.1 hb'
theorem pset_self {κ β : Type} [DecidableEq κ] {l : List (κ × β)} {k : κ} {v : β} (h : pget l k = some v) : pset l k v = l := by
  obtain ⟨l1, l2, h1, h2, _⟩ := pget_split h
  rw [h2]; exact h1.symm
theorem pset_pset {κ β : Type} [DecidableEq κ] {l : List (κ × β)} {k : κ} {v u : β} : pset (pset l k v) k u = pset l k u := by
  induction l with
  | nil => simp [pset]
  | cons p l ih => simp only [pset]; split <;> simp_all [pset]
end Go.Proofs.YtpghlemcgjogpaaGreat
