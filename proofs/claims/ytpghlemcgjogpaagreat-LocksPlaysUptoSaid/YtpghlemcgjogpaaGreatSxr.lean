/- Rows: slices over blocks of cells, from any place on; what the operations on them do. -/
import Derived.Test.YtpghlemcgjogpaaGreatSxm
import Derived.ArgAppend
import Derived.Maps.AppendAt
set_option linter.unusedVariables false
set_option linter.unusedSimpArgs false
namespace Go.Sx

/-! ### Stores of many cells -/
def putL (c : Array Value) (o : Nat) (vs : List Value) : Array Value := (c.toList.take o ++ vs ++ c.toList.drop (o + vs.length)).toArray
theorem putL_size {c : Array Value} {o : Nat} {vs : List Value} (h : o + vs.length ≤ c.size) : (putL c o vs).size = c.size := by
  simp only [putL, List.size_toArray, List.length_append, List.length_take, List.length_drop, Array.length_toList]; omega
theorem putL_cons {c : Array Value} {o : Nat} {v : Value} {vs : List Value} (h : o < c.size) : putL (c.setIfInBounds o v) (o + 1) vs = putL c o (v :: vs) := by
  unfold putL
  congr 1
  simp only [Array.toList_setIfInBounds, List.length_cons]
  have h' : o < c.toList.length := by simpa using h
  rw [List.drop_set_of_lt (by omega)]
  have e : (c.toList.set o v).take (o + 1) = c.toList.take o ++ [v] := by
    rw [List.take_set, List.take_add_one, List.getElem?_eq_getElem h']
    simp only [Option.toList]
    have hm : min o c.size = o := Nat.min_eq_left (Nat.le_of_lt h)
    rw [List.set_append_right _ _ (by simp [hm])]
    simp [hm]
  rw [e, List.append_assoc, show o + 1 + vs.length = o + (vs.length + 1) by omega]
  simp
theorem run_storeCell {P : Program} {w : World} {b o : Nat} {v : Value} {c : Array Value} {t : TypeId} (hb : w.heap[b]? = some (.cells c t (0, 0))) (ho : o < c.size) (hv : oneV v = true) :
    (store ⟨b, o, none⟩ v).run P w = .ok () (World.put w b (.cells (c.setIfInBounds o v) t (0, 0))) := by
  have hc : w.cell? ⟨b, o, none⟩ = some c[o] := by rw [cell_mk, hb, cellIn_cells]; simp [ho]
  have hfz : w.frozen? ⟨b, o, none⟩ = false := by simp [World.frozen?, hb]
  have hst : (store ⟨b, o, none⟩ v).run P w = .ok () (w.setCell ⟨b, o, none⟩ v) := by
    simp only [store]
    cases v <;> first | (simp [Sem.run, hc, hfz]; done) | cases hv
  rw [hst]
  congr 1
  unfold World.setCell World.put
  congr 1
  have hlt := (Array.getElem?_eq_some_iff.1 hb).1
  apply Array.ext_getElem?
  intro i
  rw [Array.getElem?_modify, Array.getElem?_setIfInBounds]
  by_cases e : b = i
  · subst e
    have hg := (Array.getElem?_eq_some_iff.1 hb).2
    simp [hlt, hg]
  · simp [e]
theorem put_put {w : World} {b : Nat} {x y : Obj} : World.put (World.put w b x) b y = World.put w b y := by
  simp [World.put]
theorem put_self {w : World} {b : Nat} {x : Obj} (h : w.heap[b]? = some x) : World.put w b x = w := by
  unfold World.put
  have : w.heap.setIfInBounds b x = w.heap := by
    apply Array.ext_getElem?
    intro i
    rw [Array.getElem?_setIfInBounds]
    split
    · rename_i e; subst e
      rw [if_pos (Array.getElem?_eq_some_iff.1 h).1, h]
    · rfl
  rw [this]
theorem run_storeCells {P : Program} {b o : Nat} {t : TypeId} : ∀ (vs : List Value) (i : Nat) (c : Array Value) (w : World), w.heap[b]? = some (.cells c t (0, 0)) → o + i + vs.length ≤ c.size → (∀ v ∈ vs, oneV v = true) →
    (storeCells ⟨b, o, none⟩ vs i).run P w = .ok () (World.put w b (.cells (putL c (o + i) vs) t (0, 0)))
  | [], i, c, w, hb, _, _ => by
    have : putL c (o + i) [] = c := by simp [putL]
    rw [this, put_self hb]
    simp [storeCells]
  | v :: vs, i, c, w, hb, hle, h1 => by
    simp only [List.length_cons] at hle
    have hadd : (⟨b, o, none⟩ : Addr).add i = ⟨b, o + i, none⟩ := by unfold Addr.add; split <;> simp_all
    have h0 := run_storeCell (P := P) (v := v) hb (show o + i < c.size by omega) (h1 v (by simp))
    have hlt := (Array.getElem?_eq_some_iff.1 hb).1
    have ih := run_storeCells (P := P) (b := b) (o := o) (t := t) vs (i + 1) (c.setIfInBounds (o + i) v) (World.put w b (.cells (c.setIfInBounds (o + i) v) t (0, 0))) (put_same (by rw [hb]; rfl)) (by simp; omega) (fun v hv => h1 v (by simp [hv]))
    simp only [storeCells, Sem.run_bind, hadd, h0, Result.andThen_ok]
    rw [ih, put_put, show o + (i + 1) = o + i + 1 by omega, putL_cons (by omega)]
theorem run_storeN {P : Program} {w : World} {t b o : Nat} {v : Value} {vs : List Value} {c : Array Value} {t' : TypeId} (hs : (P.info? t).map (·.size) = some vs.length) (hv : v.cells = vs.toArray) (h1 : ∀ v ∈ vs, oneV v = true)
    (hb : w.heap[b]? = some (.cells c t' (0, 0))) (hle : o + vs.length ≤ c.size) :
    (Instr.storeAt t (.pointer (some ⟨b, o, none⟩)) v).run P w = .ok () (World.put w b (.cells (putL c o vs) t' (0, 0))) := by
  obtain ⟨inf, hi', hn⟩ := Option.map_eq_some_iff.1 hs
  have e0 : Instr.storeAt t (.pointer (some ⟨b, o, none⟩)) v = storeVar t ⟨b, o, none⟩ v := rfl
  have e1 : (sizeOf t).run P w = .ok vs.length w := by simp [sizeOf, typeInfo, hi', hn, go_sem]
  have e2 := run_storeCells (P := P) (b := b) (o := o) vs 0 c w hb (by omega) h1
  rw [e0]
  unfold storeVar
  rw [hv]
  simp only [Sem.run_bind, e1, Result.andThen_ok]
  simp only [List.size_toArray, ne_eq, not_true_eq_false, if_false]
  simpa using e2
theorem run_alloc {P : Program} {w : World} {t : Nat} {z old : Value} (hz : (P.info? t).map (·.zero) = some (some z)) : (Instr.alloc t true old).run P w = .ok (.pointer (some ⟨w.heap.size, 0, none⟩)) (World.add w (.cells z.cells t)) := by
  obtain ⟨inf, hi', hn⟩ := Option.map_eq_some_iff.1 hz
  simp [Instr.alloc, zeroValue, typeInfo, hi', hn, newVar, newRow, newObj, Sem.run, World.add, go_sem]
theorem uv_alloc {P : Program} {R : Ending → World → Prop} {w : World} {t : Nat} {z old : Value} {k : Value → World → Prop} (hz : (P.info? t).map (·.zero) = some (some z)) :
    uv P R (Instr.alloc t true old) w k = k (.pointer (some ⟨w.heap.size, 0, none⟩)) (World.add w (.cells z.cells t)) := uv_eq (run_alloc hz)
theorem put_add {w : World} {x y : Obj} : World.put (World.add w x) w.heap.size y = World.add w y := by
  unfold World.put World.add
  congr 1
  apply Array.toList_inj.1
  simp [List.set_append_right]
/-- A new variable, at once set. -/
theorem uv_allocS {P : Program} {R : Ending → World → Prop} {w : World} {t : Nat} {z old v : Value} {vs : List Value} {k : Value → World → Prop} (hz : (P.info? t).map (·.zero) = some (some z)) (hs : (P.info? t).map (·.size) = some vs.length) (hzs : z.cells.size = vs.length) (hv : v.cells = vs.toArray) (h1 : ∀ v ∈ vs, oneV v = true) :
    uv P R (Instr.alloc t true old) w (fun p w => uu P R (Instr.storeAt t p v) w (k p)) = k (.pointer (some ⟨w.heap.size, 0, none⟩)) (World.add w (.cells vs.toArray t)) := by
  rw [uv_alloc hz]
  have := run_storeN (P := P) (w := World.add w (.cells z.cells t)) (t := t) (b := w.heap.size) (o := 0) hs hv h1 add_new (by omega)
  rw [uu_eq this]
  congr 1
  have e : putL z.cells 0 vs = vs.toArray := by
    unfold putL
    simp [← hzs]
  rw [e]
  exact put_add

/-! ### Slicing and indexing -/
theorem addr_add {b o i : Nat} : (⟨b, o, none⟩ : Addr).add i = ⟨b, o + i, none⟩ := by unfold Addr.add; split <;> simp_all
theorem run_indexAt {P : Program} {w : World} {t e sz g off n c : Nat} {q : IntKind} {i : Int} (ht : P.underlying t = some (.slice e)) (hs : (P.info? e).map (·.size) = some sz) (h0 : 0 ≤ i) (h1 : i < n) :
    (Instr.indexAt t (.slice (some ⟨g, off, none⟩) n c) (.int q i)).run P w = .ok (.pointer (some ⟨g, off + i.toNat * sz, none⟩)) w := by
  obtain ⟨inf, hi', hn⟩ := Option.map_eq_some_iff.1 hs
  simp [Instr.indexAt, asIntOf, run_underlying ht, h0, h1, sizeOf, typeInfo, hi', hn, addr_add, go_sem]
theorem run_slice_lo {P : Program} {w : World} {t e sz n c : Nat} {a : Option Addr} {q : IntKind} {i : Int} (ht : P.underlying t = some (.slice e)) (hs : (P.info? e).map (·.size) = some sz) (h0 : 0 ≤ i) (h1 : i ≤ n) :
    (Instr.sliceAt t (.slice a n c) (some (.int q i)) none none).run P w = .ok (.slice (if c = i.toNat then a else a.map (·.add (i.toNat * sz))) (n - i.toNat) (c - i.toNat)) w := by
  obtain ⟨inf, hi', hn⟩ := Option.map_eq_some_iff.1 hs
  simp [Instr.sliceAt, Instr.slice, Instr.sliceBounds, Instr.sliceBound, asIntOf, run_underlying ht, h0, h1, sizeOf, typeInfo, hi', hn, go_sem]
theorem addr_add0 {a : Addr} : a.add 0 = a := by obtain ⟨b, o, s⟩ := a; cases s <;> simp [Addr.add]
theorem run_slice_hi {P : Program} {w : World} {t e sz n c : Nat} {a : Option Addr} {q : IntKind} {i : Int} (ht : P.underlying t = some (.slice e)) (hs : (P.info? e).map (·.size) = some sz) (h0 : 0 ≤ i) (h1 : i ≤ c) :
    (Instr.sliceAt t (.slice a n c) none (some (.int q i)) none).run P w = .ok (.slice a i.toNat c) w := by
  obtain ⟨inf, hi', hn⟩ := Option.map_eq_some_iff.1 hs
  have : (a.map (·.add 0)) = a := by cases a <;> simp [addr_add0]
  simp [Instr.sliceAt, Instr.slice, Instr.sliceBounds, Instr.sliceBound, asIntOf, run_underlying ht, h0, h1, sizeOf, typeInfo, hi', hn, go_sem, this]

/-! ### Rows -/
/-- The block of a slice. -/
def rowB : Value → Option Nat
  | .slice (some a) _ _ => some a.block
  | _ => none
/-- A slice of n elements, of sz cells each, that lie as xs in a block of its own. -/
def Row (w : World) (e sz : Nat) (v : Value) (n : Nat) (xs : List Value) : Prop :=
  xs.length = n * sz ∧ ((v = .slice none 0 0 ∧ n = 0) ∨ ∃ g off cap cur, v = .slice (some ⟨g, off, none⟩) n cap ∧ w.heap[g]? = some (.cells cur e (0, 0)) ∧ n ≤ cap ∧ cap ≤ maxLen ∧ off + cap * sz ≤ cur.size ∧ (cur.toList.drop off).take (n * sz) = xs)
theorem Row.nil {w : World} {e sz : Nat} : Row w e sz (.slice none 0 0) 0 [] := ⟨by simp, .inl ⟨rfl, rfl⟩⟩
theorem Row.congr {w w' : World} {e sz n : Nat} {v : Value} {xs : List Value} (h : Row w e sz v n xs) (hk : ∀ g, rowB v = some g → w'.heap[g]? = w.heap[g]?) : Row w' e sz v n xs := by
  obtain ⟨h1, h2⟩ := h
  refine ⟨h1, h2.imp id ?_⟩
  rintro ⟨g, off, cap, cur, rfl, hh, h3⟩
  exact ⟨g, off, cap, cur, rfl, by rw [hk g rfl]; exact hh, h3⟩
theorem Row.lt {w : World} {e sz n : Nat} {v : Value} {xs : List Value} (h : Row w e sz v n xs) {g : Nat} (hg : rowB v = some g) : g < w.heap.size := by
  rcases h.2 with ⟨rfl, _⟩ | ⟨g', off, cap, cur, rfl, hh, h3⟩
  · cases hg
  · cases hg; exact lt_of_at hh
theorem Row.keep {S : Nat → Prop} {w w' : World} {e sz n : Nat} {v : Value} {xs : List Value} (h : Row w e sz v n xs) (hk : Keep S w w') (hn : ∀ g, rowB v = some g → ¬ S g) : Row w' e sz v n xs :=
  h.congr fun g hg => hk.keep g (h.lt hg) (hn g hg)
theorem Row.bound {w : World} {e sz n : Nat} {v : Value} {xs : List Value} (h : Row w e sz v n xs) : n ≤ maxLen := by
  rcases h.2 with ⟨rfl, rfl⟩ | ⟨g, off, cap, cur, rfl, hh, hnc, hcm, _⟩
  · exact Nat.zero_le _
  · omega
theorem Row.len {w : World} {e sz n : Nat} {v : Value} {xs : List Value} (h : Row w e sz v n xs) : ∃ a c, v = .slice a n c := by
  rcases h.2 with ⟨rfl, rfl⟩ | ⟨g, off, cap, cur, rfl, _⟩ <;> exact ⟨_, _, rfl⟩
theorem Row.of_owns {w : World} {base e sz n : Nat} {v : Value} {xs : List Value} (h : w.ownsRow base e sz v n xs) : Row w e sz v n xs := by
  obtain ⟨h1, h2⟩ := h
  refine ⟨h1, h2.imp id ?_⟩
  rintro ⟨g, cap, cur, rfl, hb, hh, hnc, hcm, hcs, ht⟩
  exact ⟨g, 0, cap, cur, rfl, hh, hnc, hcm, by omega, by simpa using ht⟩
/-- Element number i, in its place. -/
theorem Row.elem {w : World} {t e sz n i : Nat} {v : Value} {xs : List Value} {P : Program} {q : IntKind} (h : Row w e sz v n xs) (hi : i < n) (ht : P.underlying t = some (.slice e)) (hs : (P.info? e).map (·.size) = some sz) :
    ∃ g o, rowB v = some g ∧ (∀ w1, (Instr.indexAt t v (.int q i)).run P w1 = .ok (.pointer (some ⟨g, o, none⟩)) w1) ∧ cellsIn (w.heap[g]?) o sz = some ((xs.drop (i * sz)).take sz).toArray := by
  rcases h.2 with ⟨rfl, rfl⟩ | ⟨g, off, cap, cur, rfl, hh, hnc, hcm, hcs, htk⟩
  · omega
  · refine ⟨g, off + i * sz, rfl, fun w1 => ?_, ?_⟩
    · have := run_indexAt (P := P) (w := w1) (g := g) (off := off) (n := n) (c := cap) (q := q) (i := (i : Int)) ht hs (by omega) (by omega)
      simpa using this
    · have hle : (i + 1) * sz ≤ n * sz := Nat.mul_le_mul_right _ hi
      have hle2 : n * sz ≤ cap * sz := Nat.mul_le_mul_right _ hnc
      rw [Nat.add_mul, Nat.one_mul] at hle
      rw [hh, cellsIn_cells, if_pos (by omega)]
      congr 1
      apply Array.toList_inj.1
      simp only [Array.toList_extract, List.extract_eq_take_drop]
      rw [← htk, List.drop_take, List.take_take, List.drop_drop]
      congr 1
      omega
theorem cellIn_of_cells {o : Option Obj} {a n j : Nat} {cs : Array Value} (h : cellsIn o a n = some cs) (hj : j < n) : cellIn o (a + j) = cs[j]? := by
  unfold cellsIn at h
  split at h
  · rename_i c t f
    split at h
    · cases h
      rw [cellIn_cells, Array.getElem?_extract, if_pos (by omega)]
    · cases h
  · cases h
/-- Behind l. -/
theorem Row.drop {w : World} {t e sz n l : Nat} {v : Value} {xs : List Value} {P : Program} {q : IntKind} (h : Row w e sz v n xs) (hl : l ≤ n) (ht : P.underlying t = some (.slice e)) (hs : (P.info? e).map (·.size) = some sz) :
    ∃ v', (∀ w1, (Instr.sliceAt t v (some (.int q l)) none none).run P w1 = .ok v' w1) ∧ Row w e sz v' (n - l) (xs.drop (l * sz)) ∧ rowB v' = rowB v := by
  obtain ⟨h1, h2⟩ := h
  have hlen : (xs.drop (l * sz)).length = (n - l) * sz := by rw [List.length_drop, h1, Nat.sub_mul]
  rcases h2 with ⟨rfl, rfl⟩ | ⟨g, off, cap, cur, rfl, hh, hnc, hcm, hcs, htk⟩
  · obtain rfl : l = 0 := by omega
    exact ⟨.slice none 0 0, fun w1 => by simpa using run_slice_lo (P := P) (w := w1) (n := 0) (c := 0) (a := none) (q := q) (i := ((0 : Nat) : Int)) ht hs (by omega) (by omega), ⟨hlen, .inl ⟨rfl, by simp⟩⟩, rfl⟩
  · have hr := fun w1 => run_slice_lo (P := P) (w := w1) (n := n) (c := cap) (a := some ⟨g, off, none⟩) (q := q) (i := (l : Int)) ht hs (by omega) (by omega)
    simp only [Int.toNat_natCast, Option.map_some, addr_add] at hr
    by_cases hc : cap = l
    · rw [if_pos hc] at hr
      exact ⟨_, hr, ⟨hlen, .inr ⟨g, off, cap - l, cur, rfl, hh, by omega, by omega, by
        have : (cap - l) * sz = 0 := by rw [hc]; simp
        have := Nat.zero_le (cap * sz); omega, by
        have : (n - l) * sz = 0 := by rw [show n - l = 0 by omega]; simp
        rw [this, List.take_zero]; exact (List.eq_nil_of_length_eq_zero (by rw [hlen, this])).symm⟩⟩, rfl⟩
    · rw [if_neg hc] at hr
      have hm : l * sz ≤ cap * sz := Nat.mul_le_mul_right _ (by omega)
      refine ⟨_, hr, ⟨hlen, .inr ⟨g, off + l * sz, cap - l, cur, rfl, hh, by omega, by omega, by rw [Nat.sub_mul]; omega, ?_⟩⟩, rfl⟩
      rw [← htk, List.drop_take, List.drop_drop, Nat.sub_mul]
/-- The first l. -/
theorem Row.take {w : World} {t e sz n l : Nat} {v : Value} {xs : List Value} {P : Program} {q : IntKind} (h : Row w e sz v n xs) (hl : l ≤ n) (ht : P.underlying t = some (.slice e)) (hs : (P.info? e).map (·.size) = some sz) :
    ∃ v', (∀ w1, (Instr.sliceAt t v none (some (.int q l)) none).run P w1 = .ok v' w1) ∧ Row w e sz v' l (xs.take (l * sz)) ∧ rowB v' = rowB v := by
  obtain ⟨h1, h2⟩ := h
  have hm : l * sz ≤ n * sz := Nat.mul_le_mul_right _ hl
  have hlen : (xs.take (l * sz)).length = l * sz := by rw [List.length_take, h1]; omega
  rcases h2 with ⟨rfl, rfl⟩ | ⟨g, off, cap, cur, rfl, hh, hnc, hcm, hcs, htk⟩
  · obtain rfl : l = 0 := by omega
    exact ⟨.slice none 0 0, fun w1 => by simpa using run_slice_hi (P := P) (w := w1) (n := 0) (c := 0) (a := none) (q := q) (i := ((0 : Nat) : Int)) ht hs (by omega) (by omega), ⟨hlen, .inl ⟨rfl, by simp⟩⟩, rfl⟩
  · have hr := fun w1 => run_slice_hi (P := P) (w := w1) (n := n) (c := cap) (a := some ⟨g, off, none⟩) (q := q) (i := (l : Int)) ht hs (by omega) (by omega)
    simp only [Int.toNat_natCast] at hr
    refine ⟨_, hr, ⟨hlen, .inr ⟨g, off, cap, cur, rfl, hh, by omega, hcm, hcs, ?_⟩⟩, rfl⟩
    rw [← htk, List.take_take, Nat.min_eq_left hm]

/-! ### What rows are made of -/
theorem Row.fresh {w : World} {e sz n : Nat} {cs : List Value} (h : cs.length = n * sz) (hn : n ≤ maxLen) : Row (World.add w (.cells cs.toArray e)) e sz (.slice (some ⟨w.heap.size, 0, none⟩) n n) n cs :=
  ⟨h, .inr ⟨_, 0, n, _, rfl, add_new, Nat.le_refl _, hn, by simp [h], by simp [← h]⟩⟩
theorem oneCell_of {v : Value} (h : oneV v = true) : v.oneCell' = true := by cases v <;> first | rfl | cases h
theorem Row.cells {w : World} {e sz n : Nat} {a : Addr} {c : Nat} {xs : List Value} (h : Row w e sz (.slice (some a) n c) n xs) (j : Nat) (u : Value) (hj : xs[j]? = some u) : w.cell? (a.add j) = some u := by
  rcases h.2 with ⟨h1, _⟩ | ⟨g, off, cap, cur, h1, hh, hnc, hcm, hcs, htk⟩
  · cases h1
  · cases h1
    rw [addr_add, cell_mk, hh, cellIn_cells]
    have hlt := (List.getElem?_eq_some_iff.1 hj).1
    rw [← htk, List.getElem?_take] at hj
    split at hj
    · rw [List.getElem?_drop] at hj; simpa using hj
    · cases hj

section
variable {P : Program} {w : World} {t ty e sz bytes n m : Nat} {i : TypeInfo} {z v src : Value} {xs news : List Value}
theorem run_append_none (ht : P.underlying t = some (.slice e)) (hi : P.info? e = some i) (h : Row w e sz v n xs) : (Builtin.append_ #[t, t] ty #[v, .slice none 0 0]).run P w = .ok v w := by
  rcases h.2 with ⟨rfl, _⟩ | ⟨g, off, cap, cur, rfl, hh, hnc, _⟩
  · simp [Builtin.append_, run_underlying ht, sizeOf, typeInfo, hi, Builtin.lenOf, Builtin.firstCells]
  · simp [Builtin.append_, run_underlying ht, sizeOf, typeInfo, hi, Builtin.lenOf, Builtin.firstCells, hnc, storeCells]
/-- 'append' of a row to a row. -/
theorem run_appendR (ht : P.underlying t = some (.slice e)) (hi : P.info? e = some i) (hz : i.zero = some z) (hsz : i.size = sz) (hby : i.bytes = bytes) (hzs : z.cells.size = sz) (h0 : 0 < sz)
    (h : Row w e sz v n xs) (hs : Row w e sz src m news) (h1 : ∀ u ∈ news, oneV u = true) (h63 : n + m ≤ maxLen) (hbytes : (n + m) * bytes ≤ 140737488355328) :
    ∃ v' w', (Builtin.append_ #[t, t] ty #[v, src]).run P w = .ok v' w' ∧ Row w' e sz v' (n + m) (xs ++ news) ∧ Keep (fun b => rowB v = some b) w w' ∧ (rowB v' = rowB v ∨ ∃ g, rowB v' = some g ∧ w.heap.size ≤ g) := by
  have h1' : ∀ u ∈ news, u.oneCell' = true := fun u hu => oneCell_of (h1 u hu)
  rcases hs.2 with ⟨rfl, rfl⟩ | ⟨gs, os, caps, curs, rfl, hhs, _⟩
  · have : news = [] := List.eq_nil_of_length_eq_zero (by simpa using hs.1)
    subst this
    exact ⟨v, w, run_append_none ht hi h, by simpa using h, Keep.refl _ w, .inl rfl⟩
  · have hc := hs.cells
    have hgrown : ∀ {row : Option Nat} {w' : World}, w.grownBy w' row → (∀ b, row = some b → rowB v = some b) → Keep (fun b => rowB v = some b) w w' := fun {row w'} hg hr =>
      ⟨hg.os, hg.tape, hg.output, hg.size, fun b hb hn => hg.block b hb (fun e => hn (hr b e.symm))⟩
    rcases h.2 with ⟨rfl, rfl⟩ | ⟨g, off, cap, cur, rfl, hh, hnc, hcm, hcs, htk⟩
    · have hx : xs = [] := List.eq_nil_of_length_eq_zero (by simpa using h.1)
      subst hx
      obtain ⟨v', w', hr, ho, hg, _, hat⟩ := run_append_own_at (P := P) w w.heap.size t ty e i z sz bytes ht hi hz hsz hby hzs h0 (.slice none 0 0) 0 [] (World.ownsRow_nil w _ e sz) ⟨gs, os, none⟩ m caps news hs.1 hc h1' h63 hbytes (Nat.le_refl _)
      refine ⟨v', w', hr, Row.of_owns ho, hgrown hg (by simp [Value.ownBlock]), ?_⟩
      rcases ho.2 with ⟨rfl, _⟩ | ⟨g, cap, cur, rfl, hb, _⟩
      · exact .inl rfl
      · exact .inr ⟨g, rfl, hb⟩
    · by_cases hroom : n + m ≤ cap
      · subst hsz
        have hm : (n + m) * i.size ≤ cap * i.size := Nat.mul_le_mul_right _ hroom
        rw [Nat.add_mul] at hm
        have hfc := run_firstCells_some (P := P) w i.size m ⟨gs, os, none⟩ m caps news hs.1 hc
        have hst := run_storeCells (P := P) (b := g) (o := off + n * i.size) news 0 cur w hh (by rw [hs.1]; omega) h1
        simp only [Nat.add_zero] at hst
        refine ⟨.slice (some ⟨g, off, none⟩) (n + m) cap, World.put w g (.cells (putL cur (off + n * i.size) news) e (0, 0)), ?_, ?_, ?_, .inl rfl⟩
        · simp [Builtin.append_, run_underlying ht, sizeOf, typeInfo, hi, Builtin.lenOf, hroom, hfc, addr_add, hst]
        · refine ⟨by rw [List.length_append, h.1, hs.1, Nat.add_mul], .inr ⟨g, off, cap, _, rfl, put_same (by rw [hh]; rfl), hroom, hcm, ?_, ?_⟩⟩
          · rw [putL_size (by rw [hs.1]; omega)]; exact hcs
          · unfold putL
            have hl : cur.toList.take (off + n * i.size) = cur.toList.take off ++ xs := by rw [List.take_add, htk]
            have ho : (cur.toList.take off).length = off := by rw [List.length_take, Array.length_toList]; omega
            simp only [hl, List.append_assoc]
            rw [List.drop_append_of_le_length (by omega), List.drop_eq_nil_of_le (by omega), List.nil_append, ← List.append_assoc]
            rw [List.take_append_of_le_length (by rw [List.length_append, h.1, hs.1, Nat.add_mul]; exact Nat.le_refl _), List.take_of_length_le (by rw [List.length_append, h.1, hs.1, Nat.add_mul]; exact Nat.le_refl _)]
        · exact (Keep.refl _ w).put (fun _ => rfl)
      · obtain ⟨v', w', hr, ho, hg⟩ := run_append_arg_grows (P := P) w t ty e i z sz bytes ht hi hz hsz hby hzs h0 ⟨g, off, none⟩ n cap xs h.1 h.cells ⟨gs, os, none⟩ m caps news hs.1 hc (by omega) h63 hbytes
        refine ⟨v', w', hr, Row.of_owns ho, hgrown hg (by simp), ?_⟩
        rcases ho.2 with ⟨rfl, hn0⟩ | ⟨g', cap', cur', rfl, hb, _⟩
        · exact absurd (by omega : n + m ≤ cap) hroom
        · exact .inr ⟨g', rfl, hb⟩
end

/-! ### Parts of rows, and copies into them -/
def dropV (sz : Nat) (v : Value) (l : Nat) : Value := match v with | .slice a n c => .slice (if c = l then a else a.map (·.add (l * sz))) (n - l) (c - l) | v => v
def takeV (v : Value) (l : Nat) : Value := match v with | .slice a _ c => .slice a l c | v => v
def capV (v : Value) : Nat := match v with | .slice _ _ c => c | _ => 0
theorem rowB_drop {sz l : Nat} {v : Value} : rowB (dropV sz v l) = rowB v := by
  unfold dropV
  split
  · split
    · rename_i a n c _; cases a <;> rfl
    · rename_i a n c _; cases a <;> simp [rowB, Addr.add]; split <;> rfl
  · rfl
theorem rowB_take {l : Nat} {v : Value} : rowB (takeV v l) = rowB v := by
  unfold takeV
  split
  · rename_i a n c; cases a <;> rfl
  · rfl
theorem Row.n_cap {w : World} {e sz n : Nat} {v : Value} {xs : List Value} (h : Row w e sz v n xs) : n ≤ capV v ∧ capV v ≤ maxLen := by
  rcases h.2 with ⟨rfl, rfl⟩ | ⟨g, off, cap, cur, rfl, hh, hnc, hcm, _⟩
  · exact ⟨Nat.le_refl _, Nat.zero_le _⟩
  · exact ⟨hnc, hcm⟩
theorem Row.run_drop {w : World} {t e sz n l : Nat} {v : Value} {xs : List Value} {P : Program} {q : IntKind} (h : Row w e sz v n xs) (hl : l ≤ n) (ht : P.underlying t = some (.slice e)) (hs : (P.info? e).map (·.size) = some sz) (w1 : World) :
    (Instr.sliceAt t v (some (.int q l)) none none).run P w1 = .ok (dropV sz v l) w1 := by
  obtain ⟨a, c, rfl⟩ := h.len
  have := run_slice_lo (P := P) (w := w1) (n := n) (c := c) (a := a) (q := q) (i := (l : Int)) ht hs (by omega) (by omega)
  simpa [dropV] using this
theorem Row.drp {w : World} {e sz n l : Nat} {v : Value} {xs : List Value} (h : Row w e sz v n xs) (hl : l ≤ n) : Row w e sz (dropV sz v l) (n - l) (xs.drop (l * sz)) := by
  obtain ⟨h1, h2⟩ := h
  have hlen : (xs.drop (l * sz)).length = (n - l) * sz := by rw [List.length_drop, h1, Nat.sub_mul]
  rcases h2 with ⟨rfl, rfl⟩ | ⟨g, off, cap, cur, rfl, hh, hnc, hcm, hcs, htk⟩
  · obtain rfl : l = 0 := by omega
    exact ⟨hlen, .inl ⟨rfl, rfl⟩⟩
  · by_cases hc : cap = l
    · refine ⟨hlen, .inr ⟨g, off, cap - l, cur, by simp [dropV, hc], hh, by omega, by omega, ?_, ?_⟩⟩
      · have : (cap - l) * sz = 0 := by rw [hc]; simp
        have := Nat.zero_le (cap * sz); omega
      · have : (n - l) * sz = 0 := by rw [show n - l = 0 by omega]; simp
        rw [this, List.take_zero]; exact (List.eq_nil_of_length_eq_zero (by rw [hlen, this])).symm
    · have hm : l * sz ≤ cap * sz := Nat.mul_le_mul_right _ (by omega)
      refine ⟨hlen, .inr ⟨g, off + l * sz, cap - l, cur, by simp [dropV, hc, addr_add], hh, by omega, by omega, by rw [Nat.sub_mul]; omega, ?_⟩⟩
      rw [← htk, List.drop_take, List.drop_drop, Nat.sub_mul]
theorem Row.run_take {w : World} {t e sz n l : Nat} {v : Value} {xs : List Value} {P : Program} {q : IntKind} (h : Row w e sz v n xs) (hl : l ≤ capV v) (ht : P.underlying t = some (.slice e)) (hs : (P.info? e).map (·.size) = some sz) (w1 : World) :
    (Instr.sliceAt t v none (some (.int q l)) none).run P w1 = .ok (takeV v l) w1 := by
  obtain ⟨a, c, rfl⟩ := h.len
  have := run_slice_hi (P := P) (w := w1) (n := n) (c := c) (a := a) (q := q) (i := (l : Int)) ht hs (by omega) (by simp only [capV] at hl; omega)
  simpa [takeV] using this
theorem Row.tak {w : World} {e sz n l : Nat} {v : Value} {xs : List Value} (h : Row w e sz v n xs) (hl : l ≤ n) : Row w e sz (takeV v l) l (xs.take (l * sz)) := by
  obtain ⟨h1, h2⟩ := h
  have hm : l * sz ≤ n * sz := Nat.mul_le_mul_right _ hl
  have hlen : (xs.take (l * sz)).length = l * sz := by rw [List.length_take, h1]; omega
  rcases h2 with ⟨rfl, rfl⟩ | ⟨g, off, cap, cur, rfl, hh, hnc, hcm, hcs, htk⟩
  · obtain rfl : l = 0 := by omega
    exact ⟨hlen, .inl ⟨rfl, rfl⟩⟩
  · refine ⟨hlen, .inr ⟨g, off, cap, cur, rfl, hh, by omega, hcm, hcs, ?_⟩⟩
    rw [← htk, List.take_take, Nat.min_eq_left hm]
theorem Row.ext {w : World} {e sz n l : Nat} {v : Value} {xs : List Value} (h : Row w e sz v n xs) (hl : n ≤ l) (hc : l ≤ capV v) : ∃ ys, Row w e sz (takeV v l) l (xs ++ ys) := by
  obtain ⟨h1, h2⟩ := h
  rcases h2 with ⟨rfl, rfl⟩ | ⟨g, off, cap, cur, rfl, hh, hnc, hcm, hcs, htk⟩
  · simp only [capV] at hc
    obtain rfl : l = 0 := by omega
    exact ⟨[], by simpa using h1, .inl ⟨rfl, rfl⟩⟩
  · simp only [capV] at hc
    have hm : l * sz ≤ cap * sz := Nat.mul_le_mul_right _ hc
    have hm2 : n * sz ≤ l * sz := Nat.mul_le_mul_right _ hl
    refine ⟨((cur.toList.drop off).take (l * sz)).drop (n * sz), ?_, .inr ⟨g, off, cap, cur, rfl, hh, hc, hcm, hcs, ?_⟩⟩
    · rw [List.length_append, h1, List.length_drop, List.length_take, List.length_drop, Array.length_toList]; omega
    · have : xs = ((cur.toList.drop off).take (l * sz)).take (n * sz) := by rw [List.take_take, Nat.min_eq_left hm2, htk]
      conv => rhs; lhs; rw [this]
      rw [List.take_append_drop]

section
variable {P : Program} {w : World} {t t' ty e e' sz n m l : Nat} {i : TypeInfo} {z v src : Value} {xs ys : List Value}
theorem run_firstR (h : Row w e' sz src m ys) {k : Nat} (hk : k ≤ m) : (Builtin.firstCells sz k src).run P w = .ok (ys.take (k * sz)).toArray w := by
  have hm : k * sz ≤ m * sz := Nat.mul_le_mul_right _ hk
  rcases h.2 with ⟨rfl, rfl⟩ | ⟨g, off, cap, cur, rfl, hh, _⟩
  · have : ys = [] := List.eq_nil_of_length_eq_zero (by simpa using h.1)
    subst this
    simp [Builtin.firstCells]
  · refine run_firstCells_some (P := P) w sz k ⟨g, off, none⟩ m cap _ (by rw [List.length_take, h.1]; omega) fun j u hj => ?_
    refine h.cells j u ?_
    rw [List.getElem?_take] at hj
    split at hj
    · exact hj
    · cases hj
/-- 'copy' into a row from number l on. -/
theorem run_copyR (ht : P.underlying t = some (.slice e)) (hs : (P.info? e).map (·.size) = some sz) (h : Row w e sz v n xs) (hl : l ≤ n) (hsr : Row w e' sz src m ys) (h1 : ∀ u ∈ ys.take (min m (n - l) * sz), oneV u = true) :
    ∃ w', (Builtin.copy_ #[t, t'] ty #[dropV sz v l, src]).run P w = .ok (goInt (min m (n - l) : Nat)) w' ∧ Row w' e sz v n (xs.take (l * sz) ++ ys.take (min m (n - l) * sz) ++ xs.drop ((l + min m (n - l)) * sz)) ∧ Keep (fun b => rowB v = some b) w w' := by
  obtain ⟨inf, hi', hn⟩ := Option.map_eq_some_iff.1 hs
  have hsize : (sizeOf e).run P w = .ok sz w := by simp [sizeOf, typeInfo, hi', hn, go_sem]
  generalize hk : min m (n - l) = k at h1 ⊢
  have hkm : k ≤ m := by omega
  have hkn : l + k ≤ n := by omega
  have hfc := run_firstR (P := P) hsr hkm
  have hlen0 : (Builtin.lenOf src).run P w = .ok m w := by
    obtain ⟨a, c, rfl⟩ := hsr.len
    simp [Builtin.lenOf]
  have hyl : (ys.take (k * sz)).length = k * sz := by
    have : k * sz ≤ m * sz := Nat.mul_le_mul_right _ hkm
    rw [List.length_take, hsr.1]; omega
  have hxl : (xs.take (l * sz)).length = l * sz := by
    have : l * sz ≤ n * sz := Nat.mul_le_mul_right _ hl
    rw [List.length_take, h.1]; omega
  have hkl : (l + k) * sz ≤ n * sz := Nat.mul_le_mul_right _ hkn
  rw [Nat.add_mul] at hkl
  have hnl : (xs.take (l * sz) ++ ys.take (k * sz) ++ xs.drop ((l + k) * sz)).length = n * sz := by
    rw [List.length_append, List.length_append, hxl, hyl, List.length_drop, h.1, Nat.add_mul]; omega
  rcases h.2 with ⟨rfl, rfl⟩ | ⟨g, off, cap, cur, rfl, hh, hnc, hcm, hcs, htk⟩
  · obtain rfl : l = 0 := by omega
    obtain rfl : k = 0 := by omega
    refine ⟨w, ?_, ⟨hnl, .inl ⟨rfl, rfl⟩⟩, Keep.refl _ w⟩
    have hm0 : min m 0 = 0 := by omega
    simp only [Nat.zero_mul, List.take_zero] at hfc
    simp [Builtin.copy_, run_underlying ht, hlen0, dropV, hsize, hfc, Nat.min, hm0]
  · have hmin : Nat.min m (n - l) = k := hk
    by_cases hc : cap = l
    · have hk0 : k = 0 := by omega
      subst hk0
      simp only [Nat.zero_mul, List.take_zero] at hfc
      refine ⟨w, ?_, ?_, Keep.refl _ w⟩
      · simp only [Builtin.copy_, dropV, if_pos hc]
        simp [run_underlying ht, hlen0, hmin, hsize, hfc, storeCells]
      · simp only [Nat.zero_mul, List.take_zero, List.append_nil, Nat.add_zero, List.take_append_drop]
        exact h
    · have hcl : l * sz ≤ cap * sz := Nat.mul_le_mul_right _ (by omega)
      have hck : n * sz ≤ cap * sz := Nat.mul_le_mul_right _ hnc
      have hst := run_storeCells (P := P) (b := g) (o := off + l * sz) (ys.take (k * sz)) 0 cur w hh (by rw [hyl]; omega) h1
      simp only [Nat.add_zero] at hst
      refine ⟨World.put w g (.cells (putL cur (off + l * sz) (ys.take (k * sz))) e (0, 0)), ?_, ⟨hnl, .inr ⟨g, off, cap, _, rfl, put_same (by rw [hh]; rfl), hnc, hcm, ?_, ?_⟩⟩, (Keep.refl _ w).put (fun _ => rfl)⟩
      · simp only [Builtin.copy_, dropV, if_neg hc]
        simp [run_underlying ht, hlen0, hmin, hsize, hfc, addr_add, hst]
      · rw [putL_size (by rw [hyl]; omega)]; exact hcs
      · unfold putL
        have hoff : (cur.toList.take off).length = off := by rw [List.length_take, Array.length_toList]; omega
        have e1 : cur.toList.take (off + l * sz) = cur.toList.take off ++ xs.take (l * sz) := by
          rw [List.take_add, ← htk, List.take_take, Nat.min_eq_left (by omega)]
        have e2 : cur.toList.drop (off + l * sz + (ys.take (k * sz)).length) = xs.drop ((l + k) * sz) ++ cur.toList.drop (off + n * sz) := by
          have : cur.toList.drop (off + l * sz + (ys.take (k * sz)).length) = (cur.toList.drop off).drop ((l + k) * sz) := by rw [List.drop_drop, hyl, Nat.add_mul]; congr 1; omega
          rw [this]
          have h3 : cur.toList.drop off = xs ++ cur.toList.drop (off + n * sz) := by
            rw [← htk, ← List.drop_drop, List.take_append_drop]
          rw [h3, List.drop_append_of_le_length (by rw [h.1, Nat.add_mul]; omega)]
        simp only [e1, e2, List.append_assoc]
        rw [List.drop_append_of_le_length (by omega), List.drop_eq_nil_of_le (by omega), List.nil_append]
        simp only [← List.append_assoc]
        rw [List.take_append_of_le_length (by omega), List.take_of_length_le (by omega)]
/-- 'append(s, make(..)..)' that grows. -/
theorem run_append_zeros {tn bytes : Nat} {kn : IntKind} {g off cap : Nat} (ht : P.underlying t = some (.slice e)) (htn : P.underlying tn = some (.int kn)) (hi : P.info? e = some i) (hz : i.zero = some z) (hsz : i.size = sz) (hby : i.bytes = bytes) (hzs : z.cells.size = sz) (h0 : 0 < sz)
    (h : Row w e sz (.slice (some ⟨g, off, none⟩) n cap) n xs) (hg : cap < n + m) (h63 : n + m ≤ maxLen) (hbytes : (n + m) * bytes ≤ 140737488355328) :
    ∃ v' w' zs, (Builtin.append_ #[t, tn] ty #[.slice (some ⟨g, off, none⟩) n cap, .int .i64 m]).run P w = .ok v' w' ∧ Row w' e sz v' (n + m) (xs ++ zs) ∧ Keep0 w w' ∧ rowB v' = some w.heap.size := by
  subst hsz
  subst hby
  have hsmall : n + m ≤ 9223372036854775807 := by simp only [maxLen] at h63; omega
  have hn : ¬ (n + m ≤ cap) := by omega
  have hw : IntKind.i64.wrap (m : Int) = m := by rw [IntKind.wrap_i64]; omega
  have h63' : ¬ (9223372036854775807 < ((n : Int) + (m : Int))) := by omega
  have hfit := growslice_fits (show cap < n + m by omega) hbytes
  have h48' : ¬ (281474976710656 < Builtin.nextslicecap (n + m) cap * i.bytes) := by omega
  have hmb : m * i.bytes ≤ (n + m) * i.bytes := Nat.mul_le_mul_right _ (by omega)
  have h48i : ¬ (281474976710656 < (m : Int) * (i.bytes : Int)) := by
    rw [← Int.natCast_mul]
    omega
  have hneg : ¬ ((m : Int) < 0) := by omega
  have hfo := run_firstR (P := P) (w := w.drew) (h : Row w.drew e i.size (.slice (some ⟨g, off, none⟩) n cap) n xs) (Nat.le_refl n)
  rw [List.take_of_length_le (by rw [h.1]; exact Nat.le_refl _)] at hfo
  have hge := grownCap_ge w (n + m) cap e
  have hcm : grownCap w (n + m) cap e ≤ maxLen := grownCap_le_maxLen w (n + m) cap e h63
  by_cases hm0 : m = 0
  · exact absurd (by have := h.n_cap.1; simp only [capV] at this; omega : n + m ≤ cap) hn
  have hms : ¬ (m * i.size = 0) := Nat.mul_ne_zero hm0 (by omega)
  refine ⟨.slice (some ⟨w.heap.size, 0, none⟩) (n + m) (grownCap w (n + m) cap e), w.drew.alloc (.cells (xs.toArray ++ Builtin.zeroCells z.cells m ++ Builtin.zeroCells z.cells (grownCap w (n + m) cap e - (n + m))) e), (Builtin.zeroCells z.cells m).toList, ?_, ?_, ?_, rfl⟩
  · simp [Builtin.append_, run_underlying ht, run_underlying htn, sizeOf, typeInfo, zeroValue, hi, hz, asInt, asIntOf, hw, hn, hneg, hms, hm0, h63', h48', h48i, Question.forced, hfo, newRow, grownCap]
  · refine ⟨?_, .inr ⟨w.heap.size, 0, _, _, rfl, heap_alloc_new w.drew _, hge, hcm, ?_, ?_⟩⟩
    · rw [List.length_append, h.1, Array.length_toList, size_zeroCells, hzs, Nat.add_mul]
    · simp only [Array.size_append, List.size_toArray, size_zeroCells, hzs, h.1, ← Nat.add_mul]
      rw [show n + m + (grownCap w (n + m) cap e - (n + m)) = grownCap w (n + m) cap e by omega]; omega
    · simp only [Array.toList_append, List.drop_zero]
      rw [List.take_append_of_le_length (by rw [List.length_append, h.1, Array.length_toList, size_zeroCells, hzs, Nat.add_mul]; exact Nat.le_refl _), List.take_of_length_le (by rw [List.length_append, h.1, Array.length_toList, size_zeroCells, hzs, Nat.add_mul]; exact Nat.le_refl _)]
  · exact ⟨rfl, rfl, rfl, by simp, fun k hk _ => heap_alloc_old w.drew _ hk⟩
end

/-! ### The same, for the readings -/
def apB (P : Program) (t e sz bytes : Nat) : Bool :=
  match P.underlying t, P.info? e with
  | some (.slice e'), some i => Nat.beq e' e && (match i.zero with | some z => Nat.beq i.size sz && Nat.beq i.bytes bytes && Nat.beq z.cells.size sz | none => false)
  | _, _ => false
theorem apB_spec {P : Program} {t e sz bytes : Nat} (h : apB P t e sz bytes = true) : P.underlying t = some (.slice e) ∧ ∃ i z, P.info? e = some i ∧ i.zero = some z ∧ i.size = sz ∧ i.bytes = bytes ∧ z.cells.size = sz := by
  unfold apB at h
  split at h
  · rename_i e' i h1 h2
    simp only [Bool.and_eq_true] at h
    obtain ⟨he, h⟩ := h
    split at h
    · rename_i z hz
      simp only [Bool.and_eq_true] at h
      rw [Nat.eq_of_beq_eq_true he] at h1
      exact ⟨h1, i, z, h2, hz, Nat.eq_of_beq_eq_true h.1.1, Nat.eq_of_beq_eq_true h.1.2, Nat.eq_of_beq_eq_true h.2⟩
    · cases h
  · cases h
section
variable {P : Program} {R : Ending → World → Prop} {w : World} {t t' ty e e' sz bytes n m l : Nat} {cs : Array Bool} {v src : Value} {xs ys : List Value} {k : Value → World → Prop}
theorem un_appendR (ha : apB P t e sz bytes = true) (h0 : 0 < sz) (h : Row w e sz v n xs) (hs : Row w e sz src m ys) (h1 : ∀ u ∈ ys, oneV u = true) (h63 : n + m ≤ maxLen) (hbytes : (n + m) * bytes ≤ 140737488355328)
    (hk : ∀ v' w', Row w' e sz v' (n + m) (xs ++ ys) → Keep (fun b => rowB v = some b) w w' → (rowB v' = rowB v ∨ ∃ g, rowB v' = some g ∧ w.heap.size ≤ g) → k v' w') : un P R (builtin .append #[t, t] ty cs #[v, src]) w k := by
  obtain ⟨ht, i, z, hi, hz, h2, h3, h4⟩ := apB_spec ha
  obtain ⟨v', w', hr, h5, h6, h7⟩ := run_appendR (P := P) (ty := ty) ht hi hz h2 h3 h4 h0 h hs h1 h63 hbytes
  rw [un_eq (run_builtin .append Builtin.append_ (fun _ _ _ _ => rfl) hr)]
  exact hk v' w' h5 h6 h7
theorem un_appendZ {tn : Nat} {kn : IntKind} (ha : apB P t e sz bytes = true) (htn : P.underlying tn = some (.int kn)) (h0 : 0 < sz) (h : Row w e sz v n xs) (hg : capV v < n + m) (hn : v ≠ .slice none 0 0) (h63 : n + m ≤ maxLen) (hbytes : (n + m) * bytes ≤ 140737488355328)
    (hk : ∀ v' w' zs, Row w' e sz v' (n + m) (xs ++ zs) → Keep0 w w' → rowB v' = some w.heap.size → k v' w') : un P R (builtin .append #[t, tn] ty cs #[v, .int .i64 m]) w k := by
  obtain ⟨ht, i, z, hi, hz, h2, h3, h4⟩ := apB_spec ha
  rcases h.2 with ⟨rfl, _⟩ | ⟨g, off, cap, cur, rfl, _⟩
  · exact absurd rfl hn
  · obtain ⟨v', w', zs, hr, h5, h6, h7⟩ := run_append_zeros (P := P) (ty := ty) ht htn hi hz h2 h3 h4 h0 h hg h63 hbytes
    rw [un_eq (run_builtin .append Builtin.append_ (fun _ _ _ _ => rfl) hr)]
    exact hk v' w' zs h5 h6 h7
theorem un_copyR (ha : apB P t e sz bytes = true) (h : Row w e sz v n xs) (hl : l ≤ n) (hsr : Row w e' sz src m ys) (h1 : ∀ u ∈ ys.take (min m (n - l) * sz), oneV u = true)
    (hk : ∀ x w', Row w' e sz v n (xs.take (l * sz) ++ ys.take (min m (n - l) * sz) ++ xs.drop ((l + min m (n - l)) * sz)) → Keep (fun b => rowB v = some b) w w' → k x w') : un P R (builtin .copy #[t, t'] ty cs #[dropV sz v l, src]) w k := by
  obtain ⟨ht, i, z, hi, hz, h2, h3, h4⟩ := apB_spec ha
  obtain ⟨w', hr, h5, h6⟩ := run_copyR (P := P) (t' := t') (ty := ty) ht (by rw [hi]; exact congrArg some h2) h hl hsr h1
  rw [un_eq (run_builtin .copy Builtin.copy_ (fun _ _ _ _ => rfl) hr)]
  exact hk _ w' h5 h6
theorem un_capR (ht : P.underlying t = some (.slice e)) (h : Row w e sz v n xs) : un P R (builtin .cap #[t] ty cs #[v]) w k = k (.int .i64 (capV v)) w := by
  obtain ⟨a, c, rfl⟩ := h.len
  exact un_eq (run_builtin .cap Builtin.cap_ (fun _ _ _ _ => rfl) (by simp [Builtin.cap_, underlying, ht, goInt, capV, go_sem]))
theorem un_lenR (ht : P.underlying t = some (.slice e)) (h : Row w e sz v n xs) : un P R (builtin .len #[t] ty cs #[v]) w k = k (.int .i64 n) w := by
  obtain ⟨a, c, rfl⟩ := h.len
  exact un_eq (run_builtin .len Builtin.len_ (fun _ _ _ _ => rfl) (by simp [Builtin.len_, underlying, ht, goInt, go_sem]))
/-- 'clear' of a row's end. -/
theorem un_clearR (ha : apB P t e sz bytes = true) (h : Row w e sz v n xs) (hl : l ≤ n) (hz1 : ∀ i z, P.info? e = some i → i.zero = some z → ∀ u ∈ (Builtin.zeroCells z.cells (n - l)).toList, oneV u = true)
    (hk : ∀ x w' zs, Row w' e sz v n (xs.take (l * sz) ++ zs) → Keep (fun b => rowB v = some b) w w' → k x w') : un P R (builtin .clear #[t] ty cs #[dropV sz v l]) w k := by
  obtain ⟨ht, i, z, hi, hz, h2, h3, h4⟩ := apB_spec ha
  have hl0 : (xs.take (l * sz)).length = l * sz := by
    have : l * sz ≤ n * sz := Nat.mul_le_mul_right _ hl
    rw [List.length_take, h.1]; omega
  by_cases hnl : n = l
  · subst hnl
    have hr : (Builtin.clear_ #[t] ty #[dropV sz v n]).run P w = .ok (.tuple #[]) w := by
      obtain ⟨a, c, rfl⟩ := h.len
      simp only [Builtin.clear_, dropV, Nat.sub_self]
      cases hh : (if c = n then a else a.map (·.add (n * sz))) <;> simp [run_underlying ht]
    rw [un_eq (run_builtin .clear Builtin.clear_ (fun _ _ _ _ => rfl) hr)]
    refine hk _ w (xs.drop (n * sz)) ?_ (Keep.refl _ w)
    rw [List.take_append_drop]; exact h
  · rcases h.2 with ⟨rfl, rfl⟩ | ⟨g, off, cap, cur, rfl, hh, hnc, hcm, hcs, htk⟩
    · omega
    · have hc : cap ≠ l := by omega
      have hcl : l * sz ≤ cap * sz := Nat.mul_le_mul_right _ (by omega)
      have hck : n * sz ≤ cap * sz := Nat.mul_le_mul_right _ hnc
      have hln : l * sz ≤ n * sz := Nat.mul_le_mul_right _ hl
      have hzl : (Builtin.zeroCells z.cells (n - l)).toList.length = (n - l) * sz := by rw [Array.length_toList, size_zeroCells, h4]
      have hnls : (n - l) * sz = n * sz - l * sz := Nat.sub_mul ..
      have hst := run_storeCells (P := P) (b := g) (o := off + l * sz) (Builtin.zeroCells z.cells (n - l)).toList 0 cur w hh (by rw [hzl]; omega) (hz1 i z hi hz)
      simp only [Nat.add_zero] at hst
      obtain ⟨d, hd⟩ : ∃ d, n - l = d + 1 := ⟨n - l - 1, by omega⟩
      have hr : (Builtin.clear_ #[t] ty #[dropV sz (.slice (some ⟨g, off, none⟩) n cap) l]).run P w = .ok (.tuple #[]) (World.put w g (.cells (putL cur (off + l * sz) (Builtin.zeroCells z.cells (n - l)).toList) e (0, 0))) := by
        simp only [Builtin.clear_, dropV, if_neg hc, Option.map_some, addr_add]
        rw [hd] at hst ⊢
        simp [run_underlying ht, zeroValue, typeInfo, hi, hz, hst]
      rw [un_eq (run_builtin .clear Builtin.clear_ (fun _ _ _ _ => rfl) hr)]
      refine hk _ _ (Builtin.zeroCells z.cells (n - l)).toList ⟨?_, .inr ⟨g, off, cap, _, rfl, put_same (by rw [hh]; rfl), hnc, hcm, ?_, ?_⟩⟩ ((Keep.refl _ w).put (fun _ => rfl))
      · rw [List.length_append, hl0, hzl]; omega
      · rw [putL_size (by rw [hzl]; omega)]; exact hcs
      · unfold putL
        have hoff : (cur.toList.take off).length = off := by rw [List.length_take, Array.length_toList]; omega
        have e1 : cur.toList.take (off + l * sz) = cur.toList.take off ++ xs.take (l * sz) := by
          rw [List.take_add, ← htk, List.take_take, Nat.min_eq_left (by omega)]
        simp only [e1, List.append_assoc]
        rw [List.drop_append_of_le_length (by omega), List.drop_eq_nil_of_le (by omega), List.nil_append]
        simp only [← List.append_assoc]
        rw [List.take_append_of_le_length (by rw [List.length_append, hl0, hzl]; omega), List.take_of_length_le (by rw [List.length_append, hl0, hzl]; omega)]
end

section
variable {P : Program} {w : World} {t e sz n i : Nat} {q : IntKind} {v val : Value} {xs ys : List Value}
/-- A store at number i of a row. -/
theorem Row.store (h : Row w e sz v n xs) (hi : i < n) (ht : P.underlying t = some (.slice e)) (hs : (P.info? e).map (·.size) = some sz) (hy : ys.length = sz) (h1 : ∀ u ∈ ys, oneV u = true) (hv : val.cells = ys.toArray) :
    ∃ p, (∀ w1, (Instr.indexAt t v (.int q i)).run P w1 = .ok p w1) ∧ ∃ w', (Instr.storeAt e p val).run P w = .ok () w' ∧ Row w' e sz v n (xs.take (i * sz) ++ ys ++ xs.drop ((i + 1) * sz)) ∧ Keep (fun b => rowB v = some b) w w' := by
  rcases h.2 with ⟨rfl, rfl⟩ | ⟨g, off, cap, cur, rfl, hh, hnc, hcm, hcs, htk⟩
  · omega
  · have hle : (i + 1) * sz ≤ n * sz := Nat.mul_le_mul_right _ hi
    have hle2 : n * sz ≤ cap * sz := Nat.mul_le_mul_right _ hnc
    rw [Nat.add_mul, Nat.one_mul] at hle
    have hst := run_storeN (P := P) (w := w) (t := e) (b := g) (o := off + i * sz) (v := val) (vs := ys) (by rw [hy]; exact hs) hv h1 hh (by omega)
    refine ⟨.pointer (some ⟨g, off + i * sz, none⟩), fun w1 => ?_, _, hst, ⟨?_, .inr ⟨g, off, cap, _, rfl, put_same (by rw [hh]; rfl), hnc, hcm, ?_, ?_⟩⟩, (Keep.refl _ w).put (fun _ => rfl)⟩
    · have := run_indexAt (P := P) (w := w1) (g := g) (off := off) (n := n) (c := cap) (q := q) (i := (i : Int)) ht hs (by omega) (by omega)
      simpa using this
    · rw [List.length_append, List.length_append, List.length_take, List.length_drop, h.1, hy, Nat.add_mul, Nat.one_mul]; omega
    · rw [putL_size (by omega)]; exact hcs
    · unfold putL
      have hoff : (cur.toList.take off).length = off := by rw [List.length_take, Array.length_toList]; omega
      have e1 : cur.toList.take (off + i * sz) = cur.toList.take off ++ xs.take (i * sz) := by
        rw [List.take_add, ← htk, List.take_take, Nat.min_eq_left (by omega)]
      have e2 : cur.toList.drop (off + i * sz + ys.length) = xs.drop ((i + 1) * sz) ++ cur.toList.drop (off + n * sz) := by
        have : cur.toList.drop (off + i * sz + ys.length) = (cur.toList.drop off).drop ((i + 1) * sz) := by rw [List.drop_drop, hy, Nat.add_mul, Nat.one_mul]; congr 1; omega
        rw [this]
        have h3 : cur.toList.drop off = xs ++ cur.toList.drop (off + n * sz) := by
          rw [← htk, ← List.drop_drop, List.take_append_drop]
        rw [h3, List.drop_append_of_le_length (by rw [h.1, Nat.add_mul, Nat.one_mul]; omega)]
      have hxl : (xs.take (i * sz) ++ ys ++ xs.drop ((i + 1) * sz)).length = n * sz := by
        rw [List.length_append, List.length_append, List.length_take, List.length_drop, h.1, hy, Nat.add_mul, Nat.one_mul]; omega
      simp only [e1, e2, List.append_assoc]
      rw [List.drop_append_of_le_length (by omega), List.drop_eq_nil_of_le (by omega), List.nil_append]
      simp only [← List.append_assoc]
      rw [List.take_append_of_le_length (by omega), List.take_of_length_le (by omega)]
end
end Go.Sx
