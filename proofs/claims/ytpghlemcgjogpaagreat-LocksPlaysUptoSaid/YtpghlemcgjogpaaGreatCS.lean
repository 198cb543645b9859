/- The first example of the document: it speaks. -/
import Derived.Test.YtpghlemcgjogpaaGreatCR
set_option linter.unusedVariables false
set_option linter.unusedSimpArgs false
set_option linter.unnecessarySimpa false
set_option maxRecDepth 100000
namespace Go.Proofs.YtpghlemcgjogpaaGreat
open Go.Sx

theorem smallOf {A : Abs} (h : ∃ hv q W, A = ⟨[(sA, hv, q)], W⟩ ∧ hv.length ≤ 1 ∧ (∀ e ∈ hv, (Lit.int .i64 e.1).wf = true) ∧ q.length ≤ 2) : Small A := by
  obtain ⟨hv, q, W, rfl, h1, h2, h3⟩ := h
  refine ⟨by simp, ?_, by simp, ?_, ?_, ?_, ?_⟩
  · intro p hp
    obtain rfl : p = (sA, hv, q) := by simpa using hp
    show sA.size ≤ maxLen
    decide
  · intro p hp
    obtain rfl : p = (sA, hv, q) := by simpa using hp
    simp only; omega
  · intro p hp
    obtain rfl : p = (sA, hv, q) := by simpa using hp
    match hv, h1 with
    | [], _ => simp
    | [x], _ => simp
  · intro p hp
    obtain rfl : p = (sA, hv, q) := by simpa using hp
    exact h2
  · intro p hp
    obtain rfl : p = (sA, hv, q) := by simpa using hp
    simp only; omega
theorem wf1 : (Lit.int .i64 1).wf = true := by decide
theorem wf2 : (Lit.int .i64 2).wf = true := by decide
theorem wf3 : (Lit.int .i64 3).wf = true := by decide
theorem small3 : Small A3 := smallOf ⟨_, _, _, rfl, by decide, (by intro e he; obtain rfl : e = (1, 3) := (by simpa using he); exact wf1), by decide⟩
theorem small4 : Small A4 := smallOf ⟨_, _, _, rfl, by decide, (by intro e he; obtain rfl : e = (2, 6) := (by simpa using he); exact wf2), by decide⟩
theorem small5 : Small A5 := smallOf ⟨_, _, _, rfl, by decide, (by intro e he; obtain rfl : e = (3, 3) := (by simpa using he); exact wf3), by decide⟩
theorem waits3 : Waits A3 := by
  intro p hp
  have : p = (2, sA) ∨ p = (3, sA) := by simpa [A3] using hp
  rcases this with rfl | rfl
  · exact ⟨([(1, 3)], [⟨2, 6, false⟩, ⟨3, 3, false⟩]), by kernel_rfl, 0, by kernel_rfl⟩
  · exact ⟨([(1, 3)], [⟨2, 6, false⟩, ⟨3, 3, false⟩]), by kernel_rfl, 1, by kernel_rfl⟩
theorem qbig {T : Tab} {N : Nat} (h : ∀ p ∈ T.abs.things, p.2.2.length ≤ N) : ∀ p ∈ T.things, p.2.q.length ≤ N := fun p hp => h (p.1, p.2.hv, p.2.q) (List.mem_map.2 ⟨p, hp, rfl⟩)
theorem wlen (T : Tab) : T.waits.length = T.abs.waits.length := by simp [Tab.abs, absW]
theorem mode5 (T : Tab) (h : T.abs = A5) : modeT T 3 sA = 3 := by
  unfold modeT
  have e : pget T.abs.things sA = (fndT T.things sA).map fun x => (x.hv, x.q) := absT_get T.things sA
  rw [h] at e
  cases hx : fndT T.things sA with
  | none =>
    rw [hx] at e
    have e2 : pget A5.things sA = some ([(3, 3)], []) := by kernel_rfl
    rw [e2] at e
    cases e
  | some x =>
    rw [hx] at e
    have e2 : pget A5.things sA = some ([(3, 3)], []) := by kernel_rfl
    rw [e2] at e
    simp only [Option.map_some, Option.some.injEq, Prod.mk.injEq] at e
    simp only []
    rw [← e.1]; rfl

theorem speaks_c (w : World) (R : Ending → World → Prop) (h : ∀ w', Keep0 w w' → R (.returned (.bool true)) w') : Calls Tryz.prog 4 #[] w R := by
  apply F4_calls
  simp only [F4_s1, F4_s1_t]
  refine un_enter (enters Tryz.func5 (by kernel_rfl) (by kernel_rfl) _ _) (new_c w _ fun w1 ht hk1 => ?_)
  generalize hT : ({ bt := w.heap.size + 2, bT := w.heap.size, bW := w.heap.size + 1, things := [], waits := [] } : Tab) = T at ht
  have hbt : T.bt = w.heap.size + 2 := by rw [← hT]
  have habs : T.abs = A0 := by rw [← hT]; rfl
  have hfoot : ∀ b, T.foot b → w.heap.size ≤ b := by
    rw [← hT]
    rintro b (rfl | rfl | rfl | ⟨p, hp, _⟩ | ⟨p, hp, _⟩)
    · exact Nat.le_add_right _ _
    · exact Nat.le_refl _
    · exact Nat.le_add_right _ _
    · cases hp
    · cases hp
  rw [← hbt]
  simp only [↓uL.1, tL.1, Option.isNone_some, Bool.false_eq_true, if_false]
  -- the four questions
  refine un_enter (enters Tryz.func6 (by kernel_rfl) (by kernel_rfl) _ _) (ask_c T sA 1 3 w1 ht (qbig (by rw [habs]; simp [A0])) _ fun w2 T2 hA2 => ?_)
  rw [habs, ask01] at hA2
  rw [habs, ask01, ← hA2.bt]
  simp only [↓uL.1, bne_self_eq_false, Bool.false_eq_true, if_false]
  refine un_enter (enters Tryz.func6 (by kernel_rfl) (by kernel_rfl) _ _) (ask_c T2 sA 2 6 w2 hA2.at' (qbig (by rw [hA2.abs]; simp [A1])) _ fun w3 T3 hA3 => ?_)
  rw [hA2.abs, ask12] at hA3
  rw [hA2.abs, ask12, ← hA3.bt]
  simp only [↓uL.1, bne_self_eq_false, Bool.false_eq_true, if_false]
  refine un_enter (enters Tryz.func6 (by kernel_rfl) (by kernel_rfl) _ _) (ask_c T3 sA 3 3 w3 hA3.at' (qbig (by rw [hA3.abs]; simp [A2])) _ fun w4 T4 hA4 => ?_)
  rw [hA3.abs, ask23] at hA4
  rw [hA3.abs, ask23, ← hA4.bt]
  simp only [↓uL.1, bne_self_eq_false, Bool.false_eq_true, if_false]
  refine un_enter (enters Tryz.func6 (by kernel_rfl) (by kernel_rfl) _ _) (ask_c T4 sB 3 3 w4 hA4.at' (qbig (by rw [hA4.abs]; simp [A3])) _ fun w5 T5 hA5 => ?_)
  rw [hA4.abs, ask33] at hA5
  rw [hA4.abs, ask33, ← hA5.bt]
  have hA : After T w1 w5 T5 A3 := ((hA2.trans hA3).trans hA4).trans hA5
  clear hA2 hA3 hA4 hA5
  simp only [↓uL.1, bne_self_eq_false, Bool.false_eq_true, if_false, F4_s2, F4_s3, F4_s3_t]
  -- edges, the wish, the queue
  refine un_enter (enters Tryz.func12 (by kernel_rfl) (by kernel_rfl) _ _) (edges_c T5 w5 hA.at' (by rw [hA.abs]; exact small3) (by rw [hA.abs]; exact waits3) (by rw [wlen, hA.abs]; decide) _ fun ve w6 hre hfe hk6 => ?_)
  rw [hA.abs] at hre
  have hB6 := hA.trans (hA.abs ▸ After.of0 hA.at' hk6)
  refine un_enter (enters Tryz.func13 (by kernel_rfl) (by kernel_rfl) _ _) (wish_c T5 2 w6 hB6.at' (qbig (by rw [hB6.abs]; simp [A3])) _ fun w7 hk7 => ?_)
  have hB7 := hB6.trans (hB6.abs ▸ After.of0 hB6.at' hk7)
  rw [hA.abs, wish3]
  have hre7 := hre.keep hk7 (fun _ _ => id)
  simp only [↓uL.1, tL.1, cellIn_cells, frzIn_00, setIn_cells, cellsIn_cells, List.getElem?_toArray, List.getElem?_cons_zero, List.getElem?_cons_succ, Option.isSome_some, Option.getD_some, Nat.zero_add, Nat.add_zero, List.setIfInBounds_toArray, List.set_cons_zero, List.set_cons_succ, put_same, add_new, add_old, oneV, Value.cells, List.size_toArray, List.length_cons, List.length_nil, List.extract_toArray, List.extract_eq_take_drop, Nat.reduceAdd, Nat.reduceSub, Nat.reduceLeDiff, if_true, List.drop_zero, List.take_succ_cons, List.take_zero, List.drop_succ_cons, drew_heap]
  rw [uv_allocS (vs := Lk.cells ⟨2, sA, 6⟩) zer37 siz37 rfl rfl (by intro u hu; exact lcells_one [⟨2, sA, 6⟩] u (by simpa [lcells] using hu))]
  have hka : Keep0 w7 (World.add w7 (.cells (Lk.cells ⟨2, sA, 6⟩).toArray 42)) := (Keep.refl _ w7).add
  have hbox : (World.add w7 (.cells (Lk.cells ⟨2, sA, 6⟩).toArray 42)).heap[w7.heap.size]? = some (.cells (Lk.cells ⟨2, sA, 6⟩).toArray 42 (0, 0)) := add_new
  generalize World.add w7 (.cells (Lk.cells ⟨2, sA, 6⟩).toArray 42) = w8 at *
  have hB8 := hB7.trans (hB7.abs ▸ After.of0 hB7.at' hka)
  have hre8 := hre7.keep hka (fun _ _ => id)
  refine un_enter (enters Tryz.func14 (by kernel_rfl) (by kernel_rfl) _ _) (queue_c T5 sA w8 hB8.at' (qbig (by rw [hB8.abs]; simp [A3])) _ fun vq w9 hrq hfq hk9 => ?_)
  rw [hB8.abs] at hrq
  have hB9 := hB8.trans (hB8.abs ▸ After.of0 hB8.at' hk9)
  have hre9 := hre8.keep hk9 (fun _ _ => id)
  have hbox9 := hk9.at hbox id
  have hbox9' : w9.heap[w7.heap.size]? = some (.cells #[.int .i64 2, .string sA, .int .i64 6] 42 (0, 0)) := hbox9
  have hbl : (Instr.build 42 #[(0, .int .i64 2), (1, .string sA), (2, .int .i64 6)]).run Tryz.prog w9 = .ok (.agg #[.int .i64 2, .string sA, .int .i64 6]) w9 := by kernel_rfl
  have heq : ∀ o o', (binS .eql 42 o o' (.agg #[.int .i64 2, .string sA, .int .i64 6]) (.agg #[.int .i64 2, .string sA, .int .i64 6])).run Tryz.prog w9 = .ok (.bool true) w9 := fun o o' => by kernel_rfl
  have e2 : (((2 : Nat) : Int) == 2) = true := by decide
  simp only [un_lenR und38 hre9, edges3, e2, ↓uL.1, tL.1, cellIn_cells, frzIn_00, setIn_cells, cellsIn_cells, List.getElem?_toArray, List.getElem?_cons_zero, List.getElem?_cons_succ, Option.isSome_some, Option.getD_some, Nat.zero_add, Nat.add_zero, List.setIfInBounds_toArray, List.set_cons_zero, List.set_cons_succ, put_same, add_new, add_old, oneV, Value.cells, List.size_toArray, List.length_cons, List.length_nil, List.extract_toArray, List.extract_eq_take_drop, Nat.reduceAdd, Nat.reduceSub, Nat.reduceLeDiff, if_true, List.drop_zero, List.take_succ_cons, List.take_zero, List.drop_succ_cons, drew_heap, hbox9', uv_eq hbl, uv_eq (heq _ _), un_lenR und32 hrq, queue3]
  -- 1 drops, 2 drops
  refine un_enter (enters Tryz.func9 (by kernel_rfl) (by kernel_rfl) _ _) (drop_c T5 1 w9 hB9.at' (by rw [hB9.abs]; exact small3) _ fun vd w10 T10 ht10 hb10 ha10 hf10 hk10 hrd hfd => ?_)
  rw [hB9.abs, drop34] at ha10 hrd
  have hB10 : After T w1 w10 T10 A4 := hB9.trans ⟨ht10, hb10, ha10, hk10, fun b hb => .inl (hf10 b hb)⟩
  simp only [uv_eq (bsl1 _ _), if_true]
  have hkb : Keep0 w10 (World.add w10 (.cells #[.int .i64 2] 3)) := (Keep.refl _ w10).add
  have hr1 : RowI (World.add w10 (.cells #[.int .i64 2] 3)) (.slice (some ⟨w10.heap.size, 0, none⟩) 1 1) [2] := Row.fresh (cs := [.int .i64 2]) rfl (by decide)
  have hrd' : RowI (World.add w10 (.cells #[.int .i64 2] 3)) vd [2] := hrd.keep hkb (fun _ _ => id)
  have hB11 := hB10.trans (hB10.abs ▸ After.of0 hB10.at' hkb)
  refine un_enter (enters Tryz.func8 (by kernel_rfl) (by kernel_rfl) _ _) (sameInts_c vd _ [2] [2] _ hrd' hr1 _ fun w12 hk12 => ?_)
  have hB12 := hB11.trans (hB11.abs ▸ After.of0 hB11.at' hk12)
  have e3 : decide (([2] : List Int) = [2]) = true := by decide
  rw [← hb10]
  simp only [e3, decide_true, ↓uL.1, if_true]
  refine un_enter (enters Tryz.func9 (by kernel_rfl) (by kernel_rfl) _ _) (drop_c T10 2 w12 hB12.at' (by rw [hB12.abs]; exact small4) _ fun vd2 w13 T13 ht13 hb13 ha13 hf13 hk13 hrd2 hfd2 => ?_)
  rw [hB12.abs, drop45] at ha13 hrd2
  have hB13 : After T w1 w13 T13 A5 := hB12.trans ⟨ht13, hb13, ha13, hk13, fun b hb => .inl (hf13 b hb)⟩
  simp only [uv_eq (bsl1 _ _), if_true]
  have hkc : Keep0 w13 (World.add w13 (.cells #[.int .i64 3] 3)) := (Keep.refl _ w13).add
  have hr3 : RowI (World.add w13 (.cells #[.int .i64 3] 3)) (.slice (some ⟨w13.heap.size, 0, none⟩) 1 1) [3] := Row.fresh (cs := [.int .i64 3]) rfl (by decide)
  have hrd3 : RowI (World.add w13 (.cells #[.int .i64 3] 3)) vd2 [3] := hrd2.keep hkc (fun _ _ => id)
  have hB14 := hB13.trans (hB13.abs ▸ After.of0 hB13.at' hkc)
  refine un_enter (enters Tryz.func8 (by kernel_rfl) (by kernel_rfl) _ _) (sameInts_c vd2 _ [3] [3] _ hrd3 hr3 _ fun w15 hk15 => ?_)
  have hB15 := hB14.trans (hB14.abs ▸ After.of0 hB14.at' hk15)
  have e4 : decide (([3] : List Int) = [3]) = true := by decide
  rw [← hb13]
  simp only [e4, decide_true, ↓uL.1, if_true]
  refine un_enter (enters Tryz.func15 (by kernel_rfl) (by kernel_rfl) _ _) (mode_c T13 3 sA w15 hB15.at' _ ?_)
  rw [mode5 T13 hB15.abs]
  simp only [↓uL.1, BEq.rfl, if_true]
  refine un_enter (enters Tryz.func16 (by kernel_rfl) (by kernel_rfl) _ _) (locks_c T13 w15 hB15.at' (by rw [hB15.abs]; exact small5) _ fun vl w16 hrl hfl hk16 => ?_)
  rw [hB15.abs] at hrl
  have e5 : (((1 : Nat) : Int) == 1) = true := by decide
  simp only [un_lenR und32 hrl, locks5, e5, ↓uL.1, if_true]
  refine h w16 ?_
  have hk := (hB15.keep.trans hk16 (fun _ _ h => h.elim))
  exact (hk1.trans (hk.mono fun b _ hb => hb) (fun b hb hf => by have := hfoot b hf; omega))
end Go.Proofs.YtpghlemcgjogpaaGreat
