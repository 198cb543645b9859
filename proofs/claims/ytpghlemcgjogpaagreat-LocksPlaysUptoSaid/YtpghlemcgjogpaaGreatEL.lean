/- LocksPlays: the walk. -/
import Derived.Test.YtpghlemcgjogpaaGreatEK
set_option linter.unusedVariables false
set_option linter.unusedSimpArgs false
set_option linter.unnecessarySimpa false
set_option maxRecDepth 100000
namespace Go.Proofs.YtpghlemcgjogpaaGreat
open Go.Sx

theorem bldT0 (w : World) : (Instr.build 30 #[]).run Tryz.prog w = .ok (.agg #[.slice none 0 0, .slice none 0 0]) w := by kernel_rfl
/-- A table that keeps what another one does. -/
theorem Run.keepS {T0 T : Tab} {w0 w w' : World} {S : List Int} {k : Nat} {F : Nat → Prop} (h : Run T0 w0 w T S k) (hk : Keep F w w') (h1 : ∀ b, T.foot b → ¬ F b) (h2 : ∀ b, F b → w0.heap.size ≤ b) : Run T0 w0 w' T S k :=
  ⟨h.tab.keep hk h1, h.bt, h.inv, h.sl, h.foot, h.keep.trans hk fun b hb hf => by have := h2 b hf; omega⟩
/-- The document's table behind a call on the other one, and the other way round. -/
theorem Both.second {T0 T T' : Tab} {bm : Nat} {w0 w w1 w2 : World} {M M' : MT} {S S' : List Int} {k k' : Nat} (h : Both T0 bm w0 w T M S k) (hr : Run T0 w0 w1 T' S' k') (hk : Keep T.foot w w1) (hf : ∀ b, T'.foot b → T.foot b ∨ w.heap.size ≤ b)
    (hA : MAfter M w1 w2 M') (hs : HSim T'.abs M'.H) (hw : WSim T'.abs M'.W) (hl : M'.H.length + M'.W.length ≤ k') : Both T0 bm w0 w2 T' M' S' k' := by
  have hap : ∀ b, T'.foot b → ¬ M.foot b := fun b hb hm => (hf b hb).elim (h.apart b hm) fun hx => by have := h.mt.lt hm; omega
  have hs1 := hk.size
  have hs0 := h.run.keep.size
  refine ⟨hr.keepS hA.keep hap h.ge, hA.at', hA.bm.trans h.bm, hs, hw, hl, fun b hb ht => ?_, fun b hb => ?_⟩
  · rcases hA.foot b hb with hb | hb
    · exact hap b ht hb
    · have := hr.tab.lt ht; omega
  · rcases hA.foot b hb with hb | hb
    · exact h.ge b hb
    · omega
theorem locksPlays_c (v0 : Value) (ops : List Op) (w : World) (ha : ArgO w v0 ops) (hn : ops.length ≤ 1048575) (hwf : ∀ o ∈ ops, o.ok) (R : Ending → World → Prop)
    (h : ∀ w', Keep0 w w' → R (.returned (.bool true)) w') : Calls Tryz.prog 3 #[v0] w R := by
  apply F3_calls
  simp only [F3_s1, F3_s1_t]
  refine un_enter (enters Tryz.func4 (by kernel_rfl) (by kernel_rfl) _ _) (speaks_c w _ fun wa hka => ?_)
  simp only [↓uL.1, Bool.not_true, F3_s2, F3_s3, F3_s3_t]
  refine un_enter (enters Tryz.func5 (by kernel_rfl) (by kernel_rfl) _ _) (new_c wa _ fun wb ht hkb => ?_)
  generalize hT : ({ bt := wa.heap.size + 2, bT := wa.heap.size, bW := wa.heap.size + 1, things := [], waits := [] } : Tab) = T0 at ht
  have hbt : T0.bt = wa.heap.size + 2 := by rw [← hT]
  have habs : T0.abs = ⟨[], []⟩ := by rw [← hT]; rfl
  have hsa := hka.size
  have hrun : Run T0 w wb T0 [] 0 := by
    refine ⟨ht, rfl, by rw [← hT]; exact Inv.empty, Nat.le_refl _, ?_, hka.trans hkb (fun _ _ h => h)⟩
    rw [← hT]
    rintro b (rfl | rfl | rfl | ⟨p, hp, _⟩ | ⟨p, hp, _⟩)
    · show w.heap.size ≤ wa.heap.size + 2; omega
    · exact hsa
    · show w.heap.size ≤ wa.heap.size + 1; omega
    · cases hp
    · cases hp
  rw [← hbt]
  simp only [↓uL.1, tL.1, Option.isNone_some, uv_eq (bldT0 _), Value.cells]
  have hkc : Keep0 wb (World.add wb (.cells #[.slice none 0 0, .slice none 0 0] 30)) := (Keep.refl _ wb).add
  have hbx : (World.add wb (.cells #[.slice none 0 0, .slice none 0 0] 30)).heap[wb.heap.size]? = some (.cells #[.slice none 0 0, .slice none 0 0] 30 (0, 0)) := add_new
  generalize World.add wb (.cells #[.slice none 0 0, .slice none 0 0] 30) = wc at hkc hbx
  have hboth : Both T0 wb.heap.size w wc T0 ⟨wb.heap.size, .slice none 0 0, .slice none 0 0, [], []⟩ [] 0 := by
    have hf : ∀ b, (⟨wb.heap.size, .slice none 0 0, .slice none 0 0, [], []⟩ : MT).foot b → b = wb.heap.size := fun b hb => by
      rcases hb with hb | hb | hb
      · exact hb
      · cases hb
      · cases hb
    refine ⟨hrun.keep0 hkc, ⟨hbx, Row.nil, Row.nil⟩, rfl, ⟨List.Pairwise.nil, fun l => ?_⟩, ⟨fun r => ?_, by simp⟩, Nat.le_refl _, fun b hb hT => ?_, fun b hb => ?_⟩
    · rw [habs]; simp [thF, pget]
    · rw [habs]; simp [qsel, thF, pget]
    · rw [hf b hb] at hT
      have := ht.lt hT; omega
    · rw [hf b hb]
      have := hkb.size; omega
  generalize wb.heap.size = bm at hboth ⊢
  simp only [F3_s4, ↓uL.1, F3_s5, F3_s5_t, ha.len, F3_s8]
  refine ⟨fun v16 w' => ∃ (i : Nat) (T : Tab) (M : MT) (S : List Int), v16 = .int .i64 i ∧ i ≤ ops.length ∧ Both T0 bm w w' T M S i, fun v16 _ => match v16 with | .int _ i => ops.length - i.toNat | _ => 0, ⟨0, T0, _, [], rfl, by omega, hboth⟩, ?_⟩
  rintro v16 w1 ⟨i, T, M, S, rfl, hi, hB⟩
  simp only [F3_s9, F3_s9_t, ↓uL.1, F3_s10]
  by_cases hlt : i < ops.length
  · have e1 : decide ((i : Int) < (ops.length : Int)) = true := by rw [decide_eq_true_eq]; omega
    have e4 : IntKind.i64.wrap ((i : Int) + 1) = ((i + 1 : Nat) : Int) := by rw [wrap_id (by omega) (by omega)]; omega
    obtain ⟨x, hx⟩ : ∃ x, ops[i]? = some x := ⟨ops[i], List.getElem?_eq_getElem hlt⟩
    have hxo := hwf x (List.mem_of_getElem? hx)
    simp only [e1, ↓uL.1, F3_s13, F3_s13_t]
    refine (ha.keep hB.run.keep).box hx fun b w2 hkb2 hb hcell => ?_
    have hB2 := hB.keep0 hkb2
    have hbT : ¬ T.foot b := fun hf => by have := hB.run.tab.lt hf; omega
    have hbM : ¬ M.foot b := fun hf => by have := hB.mt.lt hf; omega
    have rest : ∀ w3 T' M' S', Both T0 bm w w3 T' M' S' (i + 1) → w3.heap[b]? = some (.cells #[.int .i64 x.kind, .int .i64 x.txn, .int .i64 x.mode, .string x.res] 32 (0, 0)) → F3_s15 R (fun y0 w' => (∃ (i : Nat) (T : Tab) (M : MT) (S : List Int), y0 = .int .i64 i ∧ i ≤ ops.length ∧ Both T0 bm w w' T M S i) ∧ (match y0 with | .int _ i => ops.length - i.toNat | _ => 0) < (match (Value.int .i64 i) with | .int _ i => ops.length - i.toNat | _ => 0)) (ptr T0.bt) (ptr bm) (ptr b) v0 (.int .i64 ops.length) (.int .i64 i) w3 := by
      intro w3 T' M' S' hB3 hc3
      simp only [F3_s15, F3_s15_t, ↓uL.1, tL.1, cellIn_cells, frzIn_00, setIn_cells, cellsIn_cells, List.getElem?_toArray, List.getElem?_cons_zero, List.getElem?_cons_succ, Option.isSome_some, Option.getD_some, Nat.zero_add, Nat.add_zero, List.setIfInBounds_toArray, List.set_cons_zero, List.set_cons_succ, put_same, add_new, add_old, oneV, Value.cells, List.size_toArray, List.length_cons, List.length_nil, List.extract_toArray, List.extract_eq_take_drop, Nat.reduceAdd, Nat.reduceSub, Nat.reduceLeDiff, if_true, List.drop_zero, List.take_succ_cons, List.take_zero, List.drop_succ_cons, drew_heap, hc3]
      refine un_enter (enters Tryz.func11 (by kernel_rfl) (by kernel_rfl) _ _) (shown_c hB3 (by omega) x.txn x.res _ fun w4 hk4 => ?_)
      simp only [↓uL.1, Bool.not_true, F3_s16, F3_s12, F3_s12_t, e4]
      exact ⟨⟨i + 1, T', M', S', rfl, by omega, hB3.keep0 hk4⟩, by simp; omega⟩
    have hBd := hB2.keep0 (w' := w2.drew) (Keep.refl _ w2).drew
    simp only [↓uL.1, tL.1, cellIn_cells, frzIn_00, setIn_cells, cellsIn_cells, List.getElem?_toArray, List.getElem?_cons_zero, List.getElem?_cons_succ, Option.isSome_some, Option.getD_some, Nat.zero_add, Nat.add_zero, List.setIfInBounds_toArray, List.set_cons_zero, List.set_cons_succ, put_same, add_new, add_old, oneV, Value.cells, List.size_toArray, List.length_cons, List.length_nil, List.extract_toArray, List.extract_eq_take_drop, Nat.reduceAdd, Nat.reduceSub, Nat.reduceLeDiff, if_true, List.drop_zero, List.take_succ_cons, List.take_zero, List.drop_succ_cons, drew_heap, hcell, F3_s14]
    cases hc : decide (band x.kind 3 < 3)
    · simp only [↓uL.1, F3_s21, F3_s21_t]
      refine ⟨fun w' => w'.heap[b]? = some (.cells #[.int .i64 x.kind, .int .i64 x.txn, .int .i64 x.mode, .string x.res] 32 (0, 0)), hcell, HV_field (off := 1) (by kernel_rfl) (HV_load1 (v := .int .i64 x.txn) (by kernel_rfl) (fun w' hw => by rw [hw]; rfl) (HV_field (off := 1) (by kernel_rfl) (HV_load1 (v := .int .i64 x.txn) (by kernel_rfl) (fun w' hw => by rw [hw]; rfl) ?_)))⟩
      refine un_enter (enters Tryz.func9 (by kernel_rfl) (by kernel_rfl) _ _) (hBd.run.drop (by omega) x.txn _ fun v w3 T' hr3 ha3 hk3 hf3 hrow3 hfr3 => ?_)
      have hc3 := hk3.at (w := w2.drew) hcell hbT
      refine ⟨hc3, ?_⟩
      have hM3 : MTAt w3 M := hBd.mt.keep hk3 (fun b hb hf => hBd.apart b hb hf)
      rw [← hB.bm]
      obtain ⟨hd1, hd2, hd3⟩ := drop_sim hB.run.inv hB.hs hB.ws x.txn
      have hap3 : ∀ g, rowB v = some g → ¬ M.foot g := fun g hg hf => by have := hfr3 g hg; have := hBd.mt.lt hf; omega
      refine un_enter (enters Tryz.func10 (by kernel_rfl) (by kernel_rfl) _ _) (tDrop_c M i (by omega) hB.mg x.txn w3 hM3 _ fun v' w4 M4 hA4 hG4 hH4 hW4 hrow4 hfr4 => ?_)
      have hc4 := hA4.keep.at hc3 hbM
      refine ⟨hc4, ?_⟩
      rw [hd1] at hrow4
      have hrow3' := Row.keep hrow3 hA4.keep hap3
      have hB4 := hBd.second (hr3.mono (Nat.le_refl _)) hk3 (fun b hb => .inl (hf3 b hb)) hA4 (by rw [ha3, hH4]; exact hd2) (by rw [ha3, hW4]; exact hd3) hG4.len
      refine un_enter (enters Tryz.func8 (by kernel_rfl) (by kernel_rfl) _ _) (sameInts_c _ _ _ _ w4 hrow3' hrow4 _ fun w5 hk5 => ?_)
      have hc5 := hk5.at hc4 id
      refine ⟨hc5, HV_of (fun w' _ => run_not) ?_⟩
      rw [decide_eq_true (rfl : (dropF T.abs x.txn).1 = (dropF T.abs x.txn).1)]
      simp only [Bool.not_true, F3_s22, ↓uL.1]
      rw [hB.bm]
      exact rest w5 T' M4 _ ((hB4.keep0 hk5).mono (by omega)) hc5
    · simp only [↓uL.1, F3_s18, F3_s18_t]
      refine ⟨fun w' => w'.heap[b]? = some (.cells #[.int .i64 x.kind, .int .i64 x.txn, .int .i64 x.mode, .string x.res] 32 (0, 0)), hcell, HV_field (off := 1) (by kernel_rfl) (HV_load1 (v := .int .i64 x.txn) (by kernel_rfl) (fun w' hw => by rw [hw]; rfl) (HV_field (off := 3) (by kernel_rfl) (HV_load1 (v := .string x.res) (by kernel_rfl) (fun w' hw => by rw [hw]; rfl) (HV_field (off := 2) (by kernel_rfl) (HV_load1 (v := .int .i64 x.mode) (by kernel_rfl) (fun w' hw => by rw [hw]; rfl)
        (HV_field (off := 1) (by kernel_rfl) (HV_load1 (v := .int .i64 x.txn) (by kernel_rfl) (fun w' hw => by rw [hw]; rfl) (HV_field (off := 3) (by kernel_rfl) (HV_load1 (v := .string x.res) (by kernel_rfl) (fun w' hw => by rw [hw]; rfl) (HV_field (off := 2) (by kernel_rfl) (HV_load1 (v := .int .i64 x.mode) (by kernel_rfl) (fun w' hw => by rw [hw]; rfl) ?_)))))))))))⟩
      refine un_enter (enters Tryz.func6 (by kernel_rfl) (by kernel_rfl) _ _) (hBd.run.ask (by omega) x.txn x.res x.mode hxo.1 hxo.2 _ fun w3 T' hr3 ha3 hk3 hf3 => ?_)
      have hc3 := hk3.at (w := w2.drew) hcell hbT
      refine ⟨hc3, ?_⟩
      have hM3 : MTAt w3 M := hBd.mt.keep hk3 (fun b hb hf => hBd.apart b hb hf)
      rw [← hB.bm]
      obtain ⟨hd1, hd2, hd3⟩ := ask_sim hB.run.inv hB.hs hB.ws x.txn x.res x.mode
      refine un_enter (enters Tryz.func7 (by kernel_rfl) (by kernel_rfl) _ _) (tAsk_c M i (by omega) hB.mg x.txn x.res x.mode w3 hM3 _ fun w4 M4 hA4 hH4 hW4 _ _ hl4 => ?_)
      have hc4 := hA4.keep.at hc3 hbM
      refine ⟨hc4, HV_of (fun w' _ => run_neI) ?_⟩
      have hB4 := hBd.second hr3 hk3 hf3 hA4 (by rw [ha3, hH4]; exact hd2) (by rw [ha3, hW4]; exact hd3) hl4
      rw [hd1]
      have e6 : ((ask T.abs x.txn x.res x.mode).1 != (ask T.abs x.txn x.res x.mode).1) = false := by simp
      simp only [e6, F3_s19, ↓uL.1]
      rw [hB.bm]
      exact rest w4 T' M4 _ hB4 hc4
  · have e1 : decide ((i : Int) < (ops.length : Int)) = false := by rw [decide_eq_false_iff_not]; omega
    simp only [e1, ↓uL.1, F3_s7, F3_s7_t]
    refine un_enter (enters Tryz.func11 (by kernel_rfl) (by kernel_rfl) _ _) (shown_c hB (by omega) 0 ⟨#[]⟩ _ fun w4 hk4 => ?_)
    exact h w4 (hB.keep0 hk4).run.keep
end Go.Proofs.YtpghlemcgjogpaaGreat
