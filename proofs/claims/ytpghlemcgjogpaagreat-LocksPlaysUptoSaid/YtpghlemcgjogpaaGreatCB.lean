/- What the readers of the table come to: New, Mode, can. -/
import Derived.Test.YtpghlemcgjogpaaGreatFB
import Derived.Test.YtpghlemcgjogpaaGreatCA
import Derived.Test.YtpghlemcgjogpaaGreatTB
set_option linter.unusedVariables false
set_option linter.unusedSimpArgs false
set_option maxRecDepth 100000
namespace Go.Proofs.YtpghlemcgjogpaaGreat
open Go.Sx

theorem new_c (w : World) (R : Ending → World → Prop)
    (h : ∀ w', TabAt w' { bt := w.heap.size + 2, bT := w.heap.size, bW := w.heap.size + 1, things := [], waits := [] } → Keep0 w w' → R (.returned (ptr (w.heap.size + 2))) w') : Calls Tryz.prog 5 #[] w R := by
  apply F5_calls
  have hb : ∀ (a b : Nat) (w : World), (Instr.build 51 #[(0, .map (some a)), (1, .map (some b))]).run Tryz.prog w = .ok (.agg #[.map (some a), .map (some b)]) w := fun a b w => by kernel_rfl
  simp only [F5_s1_t, F5_s1, ↓uL.1, uv_eq (hb _ _ _), hadd_size, Value.cells]
  refine h _ ⟨?_, ?_, ?_, by simp, by simp, by simp, by simp, by simp, by simp⟩ (((Keep.refl _ w).add.add).add)
  · have := add_new (w := World.add (World.add w (.map #[] 0)) (.map #[] 0)) (o := .cells #[.map (some w.heap.size), .map (some (w.heap.size + 1))] 51)
    simpa only [hadd_size] using this
  · have h1 : (World.add w (.map #[] 0)).heap[w.heap.size]? = some (.map #[] 0) := add_new
    rw [add_old (by rw [add_old (by rw [h1]; rfl), h1]; rfl), add_old (by rw [h1]; rfl), h1]
    exact MapK.empty _
  · have h1 := add_new (w := World.add w (.map #[] 0)) (o := .map #[] 0)
    rw [hadd_size] at h1
    rw [add_old (by rw [h1]; rfl), h1]
    exact MapK.empty _

def modeT (T : Tab) (t : Int) (r : ByteArray) : Int := match fndT T.things r with | some x => modeOf x.hv t | none => 0
theorem mode_c (T : Tab) (t : Int) (r : ByteArray) (w : World) (ht : TabAt w T) (R : Ending → World → Prop) (h : R (.returned (.int .i64 (modeT T t r))) w) : Calls Tryz.prog 15 #[ptr T.bt, .int .i64 t, .string r] w R := by
  apply F15_calls
  unfold modeT at h
  simp only [F15_s1, F15_s1_t, ↓uL.1, tL.1, cellIn_cells, frzIn_00, setIn_cells, cellsIn_cells, List.getElem?_toArray, List.getElem?_cons_zero, List.getElem?_cons_succ, Option.isSome_some, Option.getD_some, Nat.zero_add, Nat.add_zero, List.setIfInBounds_toArray, List.set_cons_zero, List.set_cons_succ, put_same, add_new, add_old, oneV, Value.cells, List.size_toArray, List.length_cons, List.length_nil, List.extract_toArray, List.extract_eq_take_drop, Nat.reduceAdd, Nat.reduceSub, Nat.reduceLeDiff, if_true, List.drop_zero, List.take_succ_cons, List.take_zero, List.drop_succ_cons, drew_heap, ht.cell, uv_lookS ht.mapT und50 zer56, aget_things]
  cases hx : fndT T.things r with
  | none =>
    simp only [Option.map_none, Option.getD_none, ↓uL.1, tL.1, Option.isSome_none, F15_s2, F15_s3, F15_s3_t]
    simpa [hx] using h
  | some x =>
    have hX := ht.ths _ (fndT_mem hx)
    simp only [Option.map_some, ↓uL.1, tL.1, cellIn_cells, frzIn_00, setIn_cells, cellsIn_cells, List.getElem?_toArray, List.getElem?_cons_zero, List.getElem?_cons_succ, Option.isSome_some, Option.getD_some, Nat.zero_add, Nat.add_zero, List.setIfInBounds_toArray, List.set_cons_zero, List.set_cons_succ, put_same, add_new, add_old, oneV, Value.cells, List.size_toArray, List.length_cons, List.length_nil, List.extract_toArray, List.extract_eq_take_drop, Nat.reduceAdd, Nat.reduceSub, Nat.reduceLeDiff, if_true, List.drop_zero, List.take_succ_cons, List.take_zero, List.drop_succ_cons, drew_heap, F15_s2, F15_s4, F15_s4_t, hX.cell, uv_lookI hX.map und35 zer3, aget_hv]
    simpa [hx] using h

/-- Can a wish be granted? -/
def canB (l : List (Int × Int)) (t m : Int) : Bool := l.all fun p => p.1 == t || tg p.2 m
theorem canB_erase {l : List (Int × Int)} {t m : Int} {i : Nat} {p : Int × Int} (h : l[i]? = some p) : canB l t m = ((p.1 == t || tg p.2 m) && canB (l.eraseIdx i) t m) := by
  induction l generalizing i with
  | nil => simp at h
  | cons a l ih =>
    cases i with
    | zero => simp only [List.getElem?_cons_zero, Option.some.injEq] at h; subst h; simp [canB]
    | succ i =>
      simp only [List.getElem?_cons_succ] at h
      have := ih h
      simp only [canB, List.all_cons, List.eraseIdx_cons_succ] at this ⊢
      rw [this]
      ac_rfl
theorem can_c (x : Th) (t m : Int) (c : Bool) (w : World) (hx : ThAt w x) (R : Ending → World → Prop) (h : ∀ w', Keep0 w w' → R (.returned (.bool (canB x.hv t m))) w') :
    Calls Tryz.prog 19 #[ptr x.bx, .agg #[.int .i64 t, .int .i64 m, .bool c]] w R := by
  apply F19_calls
  have hlx := lt_of_at hx.cell
  have hlh := MapK_lt hx.map
  have hcell : (World.add w (.cells #[.int .i64 t, .int .i64 m, .bool c] 61)).heap[x.bx]? = some (.cells #[.map (some x.bh), x.qv] 58 (0, 0)) := by rw [add_old (by rw [hx.cell]; rfl), hx.cell]
  simp only [F19_s1, F19_s1_t, ↓uL.1, tL.1, cellIn_cells, frzIn_00, setIn_cells, cellsIn_cells, List.getElem?_toArray, List.getElem?_cons_zero, List.getElem?_cons_succ, Option.isSome_some, Option.getD_some, Nat.zero_add, Nat.add_zero, List.setIfInBounds_toArray, List.set_cons_zero, List.set_cons_succ, put_same, add_new, add_old, oneV, Value.cells, List.size_toArray, List.length_cons, List.length_nil, List.extract_toArray, List.extract_eq_take_drop, Nat.reduceAdd, Nat.reduceSub, Nat.reduceLeDiff, if_true, List.drop_zero, List.take_succ_cons, List.take_zero, List.drop_succ_cons, drew_heap, hcell]
  have hmap : MapI undI ((World.add w (.cells #[.int .i64 t, .int .i64 m, .bool c] 61)).heap[x.bh]?) (hvV x.hv) := by
    have := hx.map
    obtain ⟨es, cl, hb, _⟩ := this
    rw [add_old (by rw [hb]; rfl)]
    exact hx.map
  obtain ⟨o, hr, hit⟩ := run_rangeK (keyI undI) und35 hmap
  simp only [uv_eq hr, hadd_size] at hit ⊢
  generalize hw1 : World.add (World.add w (.cells #[.int .i64 t, .int .i64 m, .bool c] 61)) o = w1 at hit
  have hbox : w1.heap[w.heap.size]? = some (.cells #[.int .i64 t, .int .i64 m, .bool c] 61 (0, 0)) := by
    rw [← hw1, add_old (by rw [add_new]; rfl), add_new]
  have hk1 : Keep0 w w1 := by rw [← hw1]; exact (Keep.refl _ w).add.add
  have hsz : w1.heap.size = w.heap.size + 2 := by rw [← hw1, hadd_size, hadd_size]
  clear hw1 hr hcell hmap
  simp only [F19_s4]
  refine ⟨fun w' => ∃ todo, IterK (keyI undI) w' (w.heap.size + 1) x.bh (hvV todo) ∧ Keep0 w w' ∧ w.heap.size + 2 ≤ w'.heap.size ∧ w'.heap[w.heap.size]? = some (.cells #[.int .i64 t, .int .i64 m, .bool c] 61 (0, 0)) ∧ canB todo t m = canB x.hv t m,
    fun w' => leftK w' (w.heap.size + 1) x.bh, ⟨x.hv, hit, hk1, by omega, hbox, rfl⟩, ?_⟩
  rintro w2 ⟨todo, hit2, hk2, hs2, hb2, hc2⟩
  have hl2 := hit2.left
  simp only [hvV, List.length_map] at hl2
  simp only [F19_s5, F19_s5_t]
  by_cases hnil : todo = []
  · subst hnil
    simp only [uv_eq (run_next_over _ hit2), ↓uL.1, tL.1, cellIn_cells, frzIn_00, setIn_cells, cellsIn_cells, List.getElem?_toArray, List.getElem?_cons_zero, List.getElem?_cons_succ, Option.isSome_some, Option.getD_some, Nat.zero_add, Nat.add_zero, List.setIfInBounds_toArray, List.set_cons_zero, List.set_cons_succ, put_same, add_new, add_old, oneV, Value.cells, List.size_toArray, List.length_cons, List.length_nil, List.extract_toArray, List.extract_eq_take_drop, Nat.reduceAdd, Nat.reduceSub, Nat.reduceLeDiff, if_true, List.drop_zero, List.take_succ_cons, List.take_zero, List.drop_succ_cons, drew_heap, F19_s6, F19_s3, F19_s3_t]
    rw [← hc2] at h
    exact h _ hk2
  · obtain ⟨i, pv, o, w0, hi, hw0, hrun, hit3, hcur⟩ := run_next_some (keyI undI) (ty := 0) (by simp [hvV, hnil]) (by omega) hit2
    obtain ⟨p, hp, rfl⟩ : ∃ p : Int × Int, todo[i]? = some p ∧ pv = (p.1, .int .i64 p.2) := by
      simp only [hvV, List.getElem?_map, Option.map_eq_some_iff] at hi
      obtain ⟨p, h1, h2⟩ := hi
      exact ⟨p, h1, h2.symm⟩
    have hce := canB_erase (t := t) (m := m) hp
    simp only [uv_eq hrun, ↓uL.1, tL.1, cellIn_cells, frzIn_00, setIn_cells, cellsIn_cells, List.getElem?_toArray, List.getElem?_cons_zero, List.getElem?_cons_succ, Option.isSome_some, Option.getD_some, Nat.zero_add, Nat.add_zero, List.setIfInBounds_toArray, List.set_cons_zero, List.set_cons_succ, put_same, add_new, add_old, oneV, Value.cells, List.size_toArray, List.length_cons, List.length_nil, List.extract_toArray, List.extract_eq_take_drop, Nat.reduceAdd, Nat.reduceSub, Nat.reduceLeDiff, if_true, List.drop_zero, List.take_succ_cons, List.take_zero, List.drop_succ_cons, drew_heap, F19_s6, F19_s8, F19_s8_t, uv_eq (run_entryK _ hcur)]
    have hk0 : Keep0 w w0 := by rcases hw0 with rfl | rfl; exact hk2; exact hk2.drew
    have hh0 : w0.heap = w2.heap := by rcases hw0 with rfl | rfl <;> rfl
    have hk3 : Keep0 w (World.put w0 (w.heap.size + 1) o) := hk0.put (fun hlt => by omega)
    have hb3 : (World.put w0 (w.heap.size + 1) o).heap[w.heap.size]? = some (.cells #[.int .i64 t, .int .i64 m, .bool c] 61 (0, 0)) := by rw [put_ne (by omega), hh0, hb2]
    have hs3 : w.heap.size + 2 ≤ (World.put w0 (w.heap.size + 1) o).heap.size := by rw [hput_size, hh0]; exact hs2
    generalize World.put w0 (w.heap.size + 1) o = w3 at *
    have hit4 : IterK (keyI undI) w3 (w.heap.size + 1) x.bh (hvV (todo.eraseIdx i)) := by simpa only [hvV, map_eraseIdx'] using hit3
    have hl4 := hit4.left
    have hlt : i < todo.length := (List.getElem?_eq_some_iff.1 hp).1
    simp only [hvV, List.length_map, List.length_eraseIdx, hlt, if_true] at hl4
    simp only [hb3, ↓uL.1, tL.1, cellIn_cells, frzIn_00, setIn_cells, cellsIn_cells, List.getElem?_toArray, List.getElem?_cons_zero, List.getElem?_cons_succ, Option.isSome_some, Option.getD_some, Nat.zero_add, Nat.add_zero, List.setIfInBounds_toArray, List.set_cons_zero, List.set_cons_succ, put_same, add_new, add_old, oneV, Value.cells, List.size_toArray, List.length_cons, List.length_nil, List.extract_toArray, List.extract_eq_take_drop, Nat.reduceAdd, Nat.reduceSub, Nat.reduceLeDiff, if_true, List.drop_zero, List.take_succ_cons, List.take_zero, List.drop_succ_cons, drew_heap, keyI_vk]
    cases hne : (p.1 != t)
    · simp only [↓uL.1, Bool.false_eq_true, if_false, F19_s9]
      refine ⟨⟨todo.eraseIdx i, hit4, hk3, hs3, hb3, ?_⟩, by omega⟩
      have : (p.1 == t) = true := by simpa using hne
      rw [← hc2, hce, this]; rfl
    · simp only [hb3, ↓uL.1, tL.1, cellIn_cells, frzIn_00, setIn_cells, cellsIn_cells, List.getElem?_toArray, List.getElem?_cons_zero, List.getElem?_cons_succ, Option.isSome_some, Option.getD_some, Nat.zero_add, Nat.add_zero, List.setIfInBounds_toArray, List.set_cons_zero, List.set_cons_succ, put_same, add_new, add_old, oneV, Value.cells, List.size_toArray, List.length_cons, List.length_nil, List.extract_toArray, List.extract_eq_take_drop, Nat.reduceAdd, Nat.reduceSub, Nat.reduceLeDiff, if_true, List.drop_zero, List.take_succ_cons, List.take_zero, List.drop_succ_cons, drew_heap]
      refine un_enter (enters Tryz.func40 (by kernel_rfl) (by kernel_rfl) _ _) (together_c _ _ _ _ ?_)
      have hpt : (p.1 == t) = false := by simpa using hne
      rw [hpt, Bool.false_or] at hce
      simp only [↓uL.1, if_true, F19_s9]
      cases htg : tg p.2 m
      · simp only [Bool.not_false, ↓uL.1, F19_s10, F19_s10_t]
        rw [← hc2, hce, htg] at h
        exact h _ hk3
      · simp only [Bool.not_true, ↓uL.1]
        refine ⟨⟨todo.eraseIdx i, hit4, hk3, hs3, hb3, ?_⟩, by omega⟩
        rw [← hc2, hce, htg]; rfl
end Go.Proofs.YtpghlemcgjogpaaGreat
