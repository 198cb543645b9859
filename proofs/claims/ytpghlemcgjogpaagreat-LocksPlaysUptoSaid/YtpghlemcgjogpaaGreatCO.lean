/- Edges: the locks' part of a round. -/
import Derived.Test.YtpghlemcgjogpaaGreatCN
set_option linter.unusedVariables false
set_option linter.unusedSimpArgs false
set_option linter.unnecessarySimpa false
set_option maxRecDepth 100000
namespace Go.Proofs.YtpghlemcgjogpaaGreat
open Go.Sx

theorem row_not_iter {w : World} {e sz n : Nat} {v : Value} {xs : List Value} (h : Row w e sz v n xs) {κ : Type} [DecidableEq κ] {P : Program} {kt : TypeId} {K : KeyK P kt κ} {r b : Nat} {todo : List (κ × Value)} (hi : IterK K w r b todo) : ¬ rowB v = some r := fun hv => by
  obtain ⟨c, hc⟩ := row_block h hv
  obtain ⟨es, cl, seen, _, hr, _⟩ := hi
  rw [hr] at hc; cases hc
theorem row_not_map {w : World} {e sz n : Nat} {v : Value} {xs : List Value} (h : Row w e sz v n xs) {κ : Type} [DecidableEq κ] {P : Program} {kt : TypeId} {K : KeyK P kt κ} {r b : Nat} {todo : List (κ × Value)} (hi : IterK K w r b todo) : ¬ rowB v = some b := fun hv => by
  obtain ⟨c, hc⟩ := row_block h hv
  obtain ⟨es, cl, seen, hb, _, _⟩ := hi
  rw [hb] at hc; cases hc
theorem row_not_ty {w : World} {e sz n : Nat} {v : Value} {xs : List Value} (h : Row w e sz v n xs) {c : Nat} {cs : Array Value} {ty : Nat} (hc : w.heap[c]? = some (.cells cs ty (0, 0))) (hne : e ≠ ty) : ¬ rowB v = some c := fun hv => by
  obtain ⟨c', hc'⟩ := row_block h hv
  rw [hc] at hc'
  simp only [Option.some.injEq, Obj.cells.injEq] at hc'
  exact hne hc'.2.1.symm

theorem edgesH_c (T : Tab) (r : ByteArray) (x : Th) (t : Int) (i : Nat) (y : Wi) (w0 w : World) (ht0 : TabAt w0 T) (hx : fndT T.things r = some x) (hy : x.q[i]? = some y) (hix : (x.q.findIdx? fun y => y.txn == t) = some i) (hq : x.q.length ≤ 1048576) (hhv : x.hv.length ≤ 1048576)
    (hk0 : Keep (fun b => w0.heap.size ≤ b) w0 w) (c r2 : Nat) (hcl : w0.heap.size ≤ c) (hr2l : w0.heap.size ≤ r2) (hr2w : r2 < w.heap.size) (hc : w.heap[c]? = some (.cells #[.int .i64 t] 3 (0, 0))) (hit : IterK (keyI undI) w r2 x.bh (hvV x.hv))
    (v2 v15 : Value) (l : List Ed) (hr : RowE w v2 l) (hf : ∀ g, rowB v2 = some g → w0.heap.size ≤ g) (hl : l.length ≤ 3298533000000) (R : Ending → World → Prop) (rec4 : Value → World → Prop)
    (h : ∀ v' w' l', RowE w' v' l' → l'.Perm (l ++ edAt (x.hv, x.q) t) → (∀ g, rowB v' = some g → w0.heap.size ≤ g) → Keep (fun b => rowB v2 = some b ∨ b = r2 ∨ w.heap.size ≤ b) w w' → rec4 v' w') :
    F12_s18 R rec4 (ptr T.bt) v2 (ptr c) (ptr x.bx) (.int .i64 i) v15 (ptr r2) w := by
  have hlt := (List.getElem?_eq_some_iff.1 hy).1
  have hne2 : r2 ≠ x.bh := fun e => by
    have := (ht0.ths _ (pget_mem hx)).lt (.inr (.inl rfl))
    simp only [] at this
    omega
  have hcr2 : c ≠ r2 := fun e => by
    obtain ⟨es, cl, seen, _, hr, _⟩ := hit
    rw [← e, hc] at hr; cases hr
  have hsz0 := hk0.size
  have hedx : edAt (x.hv, x.q) t = edHv t y.mode x.hv ++ edQ t (x.q.take i) := by simp [edAt, hix, hy]
  rw [hedx] at h
  simp only [F12_s18]
  refine ⟨fun v2' w' => ∃ (todo : List (Int × Int)) (l' : List Ed), IterK (keyI undI) w' r2 x.bh (hvV todo) ∧ RowE w' v2' l' ∧ (l' ++ edHv t y.mode todo).Perm (l ++ edHv t y.mode x.hv) ∧ (∀ g, rowB v2' = some g → w0.heap.size ≤ g) ∧ Keep (fun b => rowB v2 = some b ∨ b = r2 ∨ w.heap.size ≤ b) w w' ∧ (∀ g, rowB v2' = some g → rowB v2 = some g ∨ w.heap.size ≤ g) ∧ w'.heap[c]? = some (.cells #[.int .i64 t] 3 (0, 0)) ∧ l'.length + todo.length ≤ l.length + x.hv.length,
    fun _ w' => leftK w' r2 x.bh, ⟨x.hv, l, hit, hr, List.Perm.refl _, hf, Keep.refl _ w, fun g hg => .inl hg, hc, Nat.le_refl _⟩, ?_⟩
  rintro v2' w1 ⟨todo, l', hit1, hr1, hp1, hf1, hk1, hv1, hc1, hlen1⟩
  have hl1 := hit1.left
  simp only [hvV, List.length_map] at hl1
  have hs1 := hk1.size
  have hk01 : Keep (fun b => w0.heap.size ≤ b) w0 w1 := hk0.trans hk1 (fun b _ hb => by
    rcases hb with hb | rfl | hb
    · exact hf b hb
    · exact hr2l
    · omega)
  simp only [F12_s19, F12_s19_t]
  by_cases hnil : todo = []
  · subst hnil
    simp only [uv_eq (run_next_over _ hit1), ↓uL.1, tL.1, cellIn_cells, frzIn_00, setIn_cells, cellsIn_cells, List.getElem?_toArray, List.getElem?_cons_zero, List.getElem?_cons_succ, Option.isSome_some, Option.getD_some, Nat.zero_add, Nat.add_zero, List.setIfInBounds_toArray, List.set_cons_zero, List.set_cons_succ, put_same, add_new, add_old, oneV, Value.cells, List.size_toArray, List.length_cons, List.length_nil, List.extract_toArray, List.extract_eq_take_drop, Nat.reduceAdd, Nat.reduceSub, Nat.reduceLeDiff, if_true, List.drop_zero, List.take_succ_cons, List.take_zero, List.drop_succ_cons, drew_heap, F12_s20]
    have hp0 : l'.Perm (l ++ edHv t y.mode x.hv) := by simpa [edHv] using hp1
    refine edgesQ_c T r x t i w0 w1 ht0 hx (by omega) hq hk01 c hcl hc1 v2' v15 l' hr1 hf1 (by simp only [List.length_nil] at hlen1; omega) R rec4 fun v' w2 h2 hf2 hk2 => ?_
    refine h v' w2 _ h2 ((hp0.append_right _).trans (List.Perm.of_eq (List.append_assoc ..))) hf2 (hk1.trans hk2 (fun b _ hb => by
      rcases hb with hb | hb
      · exact (hv1 b hb).elim .inl (fun h => .inr (.inr h))
      · exact .inr (.inr (by omega))))
  · obtain ⟨j, pv, o, wd, hj, hwd, hrun, hit2, hcur⟩ := run_next_some (keyI undI) (ty := 0) (by simp [hvV, hnil]) hne2 hit1
    obtain ⟨p, hp, rfl⟩ : ∃ p : Int × Int, todo[j]? = some p ∧ pv = (p.1, .int .i64 p.2) := by
      simp only [hvV, List.getElem?_map, Option.map_eq_some_iff] at hj
      obtain ⟨p, h1, h2⟩ := hj
      exact ⟨p, h1, h2.symm⟩
    have hpe := edHv_erase (t := t) (md := y.mode) hp
    simp only [uv_eq hrun, ↓uL.1, tL.1, cellIn_cells, frzIn_00, setIn_cells, cellsIn_cells, List.getElem?_toArray, List.getElem?_cons_zero, List.getElem?_cons_succ, Option.isSome_some, Option.getD_some, Nat.zero_add, Nat.add_zero, List.setIfInBounds_toArray, List.set_cons_zero, List.set_cons_succ, put_same, add_new, add_old, oneV, Value.cells, List.size_toArray, List.length_cons, List.length_nil, List.extract_toArray, List.extract_eq_take_drop, Nat.reduceAdd, Nat.reduceSub, Nat.reduceLeDiff, if_true, List.drop_zero, List.take_succ_cons, List.take_zero, List.drop_succ_cons, drew_heap, F12_s20, F12_s22, F12_s22_t, uv_eq (run_entryK _ hcur)]
    have hkd : Keep (fun b => rowB v2 = some b ∨ b = r2 ∨ w.heap.size ≤ b) w wd := by rcases hwd with rfl | rfl; exact hk1; exact hk1.drew
    have hhd : wd.heap = w1.heap := by rcases hwd with rfl | rfl <;> rfl
    have hk2 : Keep (fun b => rowB v2 = some b ∨ b = r2 ∨ w.heap.size ≤ b) w (World.put wd r2 o) := hkd.put (fun _ => .inr (.inl rfl))
    have hk02 : Keep (fun b => w0.heap.size ≤ b) w0 (World.put wd r2 o) := by
      refine hk0.trans hk2 (fun b _ hb => ?_)
      rcases hb with hb | rfl | hb
      · exact hf b hb
      · exact hr2l
      · omega
    have hc2 : (World.put wd r2 o).heap[c]? = some (.cells #[.int .i64 t] 3 (0, 0)) := by rw [put_ne (fun e => hcr2 e.symm), hhd]; exact hc1
    have hr2' : RowE (World.put wd r2 o) v2' l' := hr1.congr fun g hg => by
      rw [put_ne (fun e => row_not_iter hr1 hit1 (by rw [e]; exact hg)), hhd]
    have hs2 : w.heap.size ≤ (World.put wd r2 o).heap.size := hk2.size
    generalize World.put wd r2 o = w2 at *
    have hit3 : IterK (keyI undI) w2 r2 x.bh (hvV (todo.eraseIdx j)) := by simpa only [hvV, map_eraseIdx'] using hit2
    have hjl : j < todo.length := (List.getElem?_eq_some_iff.1 hp).1
    have hel : (todo.eraseIdx j).length = todo.length - 1 := by rw [List.length_eraseIdx, if_pos hjl]
    have hl3 := hit3.left
    simp only [hvV, List.length_map, hel] at hl3
    have ht2 := ht0.keep0 (keep_fresh hk02)
    have hX : ThAt w2 x := ht2.ths _ (pget_mem hx)
    obtain ⟨g, oo, hg, hixx, hcl'⟩ := hX.row.elem (P := Tryz.prog) (q := .i64) (i := i) hlt und57 siz62
    rw [wcells_at hy] at hcl'
    have hmd : cellIn (w2.heap[g]?) (oo + 1) = some (.int .i64 y.mode) := by
      have := cellIn_of_cells (j := 1) hcl' (by omega)
      simpa [Wi.cells] using this
    -- what is done when the edge is laid or left
    have skip : (p.1 != t && !tg p.2 y.mode) = false → (l' ++ edHv t y.mode (todo.eraseIdx j)).Perm (l ++ edHv t y.mode x.hv) := fun hb => by
      rw [hb] at hpe
      exact ((hpe.symm.append_left l').trans hp1)
    simp only [hc2, ↓uL.1, tL.1, cellIn_cells, frzIn_00, setIn_cells, cellsIn_cells, List.getElem?_toArray, List.getElem?_cons_zero, List.getElem?_cons_succ, Option.isSome_some, Option.getD_some, Nat.zero_add, Nat.add_zero, List.setIfInBounds_toArray, List.set_cons_zero, List.set_cons_succ, put_same, add_new, add_old, oneV, Value.cells, List.size_toArray, List.length_cons, List.length_nil, List.extract_toArray, List.extract_eq_take_drop, Nat.reduceAdd, Nat.reduceSub, Nat.reduceLeDiff, if_true, List.drop_zero, List.take_succ_cons, List.take_zero, List.drop_succ_cons, drew_heap, keyI_vk]
    cases hne : (p.1 != t)
    · simp only [↓uL.1, Bool.false_eq_true, if_false, F12_s23]
      exact ⟨⟨todo.eraseIdx j, l', hit3, hr2', skip (by rw [hne]; rfl), hf1, hk2, hv1, hc2, by omega⟩, by omega⟩
    · simp only [↓uL.1, hX.cell, tL.1, cellIn_cells, frzIn_00, setIn_cells, cellsIn_cells, List.getElem?_toArray, List.getElem?_cons_zero, List.getElem?_cons_succ, Option.isSome_some, Option.getD_some, Nat.zero_add, Nat.add_zero, List.setIfInBounds_toArray, List.set_cons_zero, List.set_cons_succ, put_same, add_new, add_old, oneV, Value.cells, List.size_toArray, List.length_cons, List.length_nil, List.extract_toArray, List.extract_eq_take_drop, Nat.reduceAdd, Nat.reduceSub, Nat.reduceLeDiff, if_true, List.drop_zero, List.take_succ_cons, List.take_zero, List.drop_succ_cons, drew_heap, uv_eq (hixx _), uv_load1 (by kernel_rfl : plainT Tryz.prog 3 = true) (by rw [hmd]; rfl : (cellIn (w2.heap[g]?) (oo + 1)).isSome = true), hmd]
      refine un_enter (enters Tryz.func40 (by kernel_rfl) (by kernel_rfl) _ _) (together_c _ _ _ _ ?_)
      simp only [↓uL.1, if_true, F12_s23]
      cases htg : tg p.2 y.mode
      · simp only [Bool.not_false, ↓uL.1, F12_s24, F12_s24_t, hc2, tL.1, cellIn_cells, frzIn_00, setIn_cells, cellsIn_cells, List.getElem?_toArray, List.getElem?_cons_zero, List.getElem?_cons_succ, Option.isSome_some, Option.getD_some, Nat.zero_add, Nat.add_zero, List.setIfInBounds_toArray, List.set_cons_zero, List.set_cons_succ, put_same, add_new, add_old, oneV, Value.cells, List.size_toArray, List.length_cons, List.length_nil, List.extract_toArray, List.extract_eq_take_drop, Nat.reduceAdd, Nat.reduceSub, Nat.reduceLeDiff, if_true, List.drop_zero, List.take_succ_cons, List.take_zero, List.drop_succ_cons, drew_heap, uv_eq (bldE _ _ _)]
        refine un_appE (x := ⟨t, p.1⟩) hr2' (by omega) fun v' w3 h3 hf3 hk3 => ?_
        have hs3 := hk3.size
        refine ⟨⟨todo.eraseIdx j, l' ++ [⟨t, p.1⟩], IterK.keep (keyI undI) hit3 (hk3.keep _ (MapK_lt hX.map) (row_not_map hr2' hit3)) (hk3.keep _ (by omega) (row_not_iter hr2' hit3)), h3, ?_, ?_, hk2.trans hk3 (fun b _ hb => (hv1 b hb).elim .inl (fun h => .inr (.inr h))), ?_, hk3.at hc2 (row_not_ty hr2' hc2 (by decide)), by simp only [List.length_append, List.length_cons, List.length_nil]; omega⟩, ?_⟩
        · have hb : (p.1 != t && !tg p.2 y.mode) = true := by rw [hne, htg]; rfl
          rw [hb] at hpe
          simp only [if_true] at hpe
          rw [List.append_assoc]
          exact (hpe.symm.append_left l').trans hp1
        · intro g hg
          rcases hf3 with e | ⟨g', e, hg'⟩
          · rw [e] at hg; exact hf1 g hg
          · rw [e] at hg; cases hg; omega
        · intro g hg
          rcases hf3 with e | ⟨g', e, hg'⟩
          · rw [e] at hg; exact hv1 g hg
          · rw [e] at hg; cases hg; exact .inr (by omega)
        · have hit4 := IterK.keep (keyI undI) hit3 (hk3.keep _ (MapK_lt hX.map) (row_not_map hr2' hit3)) (hk3.keep _ (by omega) (row_not_iter hr2' hit3))
          have hl4 := hit4.left
          simp only [hvV, List.length_map, hel] at hl4
          omega
      · simp only [Bool.not_true, ↓uL.1]
        exact ⟨⟨todo.eraseIdx j, l', hit3, hr2', skip (by rw [htg]; simp), hf1, hk2, hv1, hc2, by omega⟩, by omega⟩
end Go.Proofs.YtpghlemcgjogpaaGreat
