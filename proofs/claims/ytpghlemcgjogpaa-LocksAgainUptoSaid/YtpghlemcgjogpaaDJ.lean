/- LocksAgain: the walk. -/
import Derived.Test.YtpghlemcgjogpaaDI
import Derived.Test.YtpghlemcgjogpaaFDG
set_option linter.unusedVariables false
set_option linter.unusedSimpArgs false
set_option linter.unnecessarySimpa false
set_option maxRecDepth 100000
namespace Go.Proofs.Ytpghlemcgjogpaa
open Go.Sx

theorem run_tupI0 {P : Program} {w : World} {a b : Value} : (Instr.extract (.tuple #[a, b]) 0).run P w = .ok a w := by simp [Instr.extract]
theorem run_tupI1 {P : Program} {w : World} {a b : Value} : (Instr.extract (.tuple #[a, b]) 1).run P w = .ok b w := by simp [Instr.extract]
/-- The second half: all that are held are asked for again. -/
theorem againAll_c (T0 T : Tab) (w0 w : World) (S : List Int) (k : Nat) (hr : Run T0 w0 w T S k) (hk : k ≤ 1048576) (mode : Int) (R : Ending → World → Prop)
    (h : ∀ w', Keep0 w0 w' → R (.returned (.bool true)) w') : F6_s7 R (.int .i64 mode) (ptr T0.bt) w := by
  have hsm := hr.inv.small hk
  simp only [F6_s7, F6_s7_t]
  rw [← hr.bt]
  refine un_enter (enters Try.func13 (by kernel_rfl) (by kernel_rfl) _ _) (locks_c T w hr.tab hsm _ fun v8 wa hl8 hf8 hka => ?_)
  have hra := hr.keep0 hka
  refine un_enter (enters Try.func14 (by kernel_rfl) (by kernel_rfl) _ _) (edges_c T wa hra.tab hsm hr.inv.waits (by rw [wlen]; have := hr.inv.wn; omega) _ fun v9 wb he9 hf9 hkb => ?_)
  have hrb := hra.keep0 hkb
  have hl8b := hl8.keep hkb (fun _ _ => id)
  rw [hr.bt]
  have hsa := hka.size
  have hlt := fun b hb => hr.tab.lt (T := T) (b := b) hb
  have hsep8 : ∀ g, rowB v8 = some g → ¬ T.foot g := fun g hg hf => by have := hf8 g hg; have := hlt g hf; omega
  have hsep9 : ∀ g, rowB v9 = some g → ¬ T.foot g := fun g hg hf => by have := hf9 g hg; have := hlt g hf; omega
  have hbd := hl8b.bound
  have hmax2 : maxLen ≤ 9223372036854775807 := by decide
  simp only [un_lenR und32 hl8b, F6_s10]
  refine ⟨fun v48 w' => ∃ (j : Nat) (T' : Tab), v48 = .int .i64 j ∧ j ≤ (locksF T.abs).length ∧ Run T0 w0 w' T' S k ∧ T'.abs = T.abs ∧ RowL w' v8 (locksF T.abs) ∧ RowE w' v9 (edgesF T.abs) ∧ (∀ g, rowB v8 = some g → ¬ T'.foot g) ∧ (∀ g, rowB v9 = some g → ¬ T'.foot g),
    fun v48 _ => match v48 with | .int _ j => (locksF T.abs).length - j.toNat | _ => 0, ⟨0, T, rfl, by omega, hrb, rfl, hl8b, he9, hsep8, hsep9⟩, ?_⟩
  rintro v48 w1 ⟨j, T1, rfl, hj, hr1, ha1, h8, h9, hs8, hs9⟩
  simp only [F6_s11, F6_s11_t, ↓Bc_true, ↓Bc_false, ↓Gk_hit, ↓Gk_tf, ↓Gk_ft, ↓Gk_undef, ↓GH_hit, ↓GH_tf, ↓GH_ft, ↓un_nil, ↓uv_fieldAt, ↓uv_load1, ↓uv_loadN, ↓uu_store1, ↓uv_box, ↓uv_makeMap, ↓uv_eql, ↓uv_neq, ↓uv_lss, ↓uv_leq, ↓uv_gtr, ↓uv_geq, ↓uv_add, ↓uv_sub, ↓uv_not, ↓uv_pick, ↓uv_streq, ↓uv_strne, ↓uv_ptreq, ↓uv_ptrne, ↓uv_func, ↓uv_extract, ↓un_len, ↓uv_and, ↓uv_or, F6_s12]
  by_cases hlt' : j < (locksF T.abs).length
  · have e1 : decide ((j : Int) < ((locksF T.abs).length : Int)) = true := by rw [decide_eq_true_eq]; omega
    have e4 : IntKind.i64.wrap ((j : Int) + 1) = ((j + 1 : Nat) : Int) := by rw [wrap_id (by omega) (by omega)]; omega
    obtain ⟨y, hy⟩ : ∃ y, (locksF T.abs)[j]? = some y := ⟨(locksF T.abs)[j], List.getElem?_eq_getElem hlt'⟩
    have hyo := locks_of hr.inv (List.mem_of_getElem? hy)
    have hoM : okM y.mode := ⟨by have := hyo.pos; omega, hyo.pos.2⟩
    obtain ⟨g, o, hgb, hgl', ix, cl⟩ := RowL.read h8 hy
    have next : ∀ w3 T3, Run T0 w0 w3 T3 S k → T3.abs = T.abs → RowL w3 v8 (locksF T.abs) → RowE w3 v9 (edgesF T.abs) → (∀ g, rowB v8 = some g → ¬ T3.foot g) → (∀ g, rowB v9 = some g → ¬ T3.foot g) →
        F6_s14 R (fun y0 w' => (∃ (j : Nat) (T' : Tab), y0 = .int .i64 j ∧ j ≤ (locksF T.abs).length ∧ Run T0 w0 w' T' S k ∧ T'.abs = T.abs ∧ RowL w' v8 (locksF T.abs) ∧ RowE w' v9 (edgesF T.abs) ∧ (∀ g, rowB v8 = some g → ¬ T'.foot g) ∧ (∀ g, rowB v9 = some g → ¬ T'.foot g)) ∧
          (match y0 with | .int _ j => (locksF T.abs).length - j.toNat | _ => 0) < (match (Value.int .i64 j) with | .int _ j => (locksF T.abs).length - j.toNat | _ => 0)) (.int .i64 mode) (ptr T0.bt) v8 v9 v8 (.int .i64 (locksF T.abs).length) (.int .i64 j) w3 := by
      intro w3 T3 b1 b2 b3 b4 b5 b6
      simp only [F6_s14, F6_s14_t, ↓Bc_true, ↓Bc_false, ↓Gk_hit, ↓Gk_tf, ↓Gk_ft, ↓Gk_undef, ↓GH_hit, ↓GH_tf, ↓GH_ft, ↓un_nil, ↓uv_fieldAt, ↓uv_load1, ↓uv_loadN, ↓uu_store1, ↓uv_box, ↓uv_makeMap, ↓uv_eql, ↓uv_neq, ↓uv_lss, ↓uv_leq, ↓uv_gtr, ↓uv_geq, ↓uv_add, ↓uv_sub, ↓uv_not, ↓uv_pick, ↓uv_streq, ↓uv_strne, ↓uv_ptreq, ↓uv_ptrne, ↓uv_func, ↓uv_extract, ↓un_len, ↓uv_and, ↓uv_or, e4]
      exact ⟨⟨j + 1, T3, rfl, by omega, b1, b2, b3, b4, b5, b6⟩, by simp; omega⟩
    simp only [e1, ↓Bc_true, ↓Bc_false, ↓Gk_hit, ↓Gk_tf, ↓Gk_ft, ↓Gk_undef, ↓GH_hit, ↓GH_tf, ↓GH_ft, ↓un_nil, ↓uv_fieldAt, ↓uv_load1, ↓uv_loadN, ↓uu_store1, ↓uv_box, ↓uv_makeMap, ↓uv_eql, ↓uv_neq, ↓uv_lss, ↓uv_leq, ↓uv_gtr, ↓uv_geq, ↓uv_add, ↓uv_sub, ↓uv_not, ↓uv_pick, ↓uv_streq, ↓uv_strne, ↓uv_ptreq, ↓uv_ptrne, ↓uv_func, ↓uv_extract, ↓un_len, ↓uv_and, ↓uv_or, F6_s15, F6_s15_t, uv_eq (ix _), fld27_0, fld27_1, fld27_2, fld27_3, fld37_0, fld37_1, fld37_2, fld53_0, fld53_1, fld59_0, fld59_1, fld62_0, fld62_1, fld62_2, fld67_0, fld81_0, fld81_1, pln3, siz3, pln4, siz4, pln9, siz9, agg27, pln35, siz35, agg37, pln50, siz50, pln51, siz51, pln57, siz57, agg62, agg81, agg91, slc22, ptr24, slc29, slc32, slc38, ptr55, ptr56, slc57, slc68, cellIn_cells, frzIn_00, setIn_cells, cellsIn_cells, List.getElem?_toArray, List.getElem?_cons_zero, List.getElem?_cons_succ, Option.isSome_some, Option.getD_some, Nat.zero_add, Nat.add_zero, List.setIfInBounds_toArray, List.set_cons_zero, List.set_cons_succ, put_same, add_new, add_old, oneV, Value.cells, List.size_toArray, List.length_cons, List.length_nil, List.extract_toArray, List.extract_eq_take_drop, Nat.reduceAdd, Nat.reduceSub, Nat.reduceLeDiff, if_true, List.drop_zero, List.take_succ_cons, List.take_zero, List.drop_succ_cons, drew_heap, cl]
    rw [uv_allocS (vs := y.cells) zer37 siz37 rfl rfl (by intro u hu; exact lcells_one [y] u (by simpa [lcells] using hu))]
    have hkc : Keep0 w1 (World.add w1 (.cells y.cells.toArray 37)) := (Keep.refl _ w1).add
    have hbox : (World.add w1 (.cells y.cells.toArray 37)).heap[w1.heap.size]? = some (.cells #[.int .i64 y.txn, .string y.res, .int .i64 y.mode] 37 (0, 0)) := add_new
    generalize World.add w1 (.cells y.cells.toArray 37) = w2 at hkc hbox ⊢
    have hr2 := hr1.keep0 hkc
    simp only [hbox, ↓Bc_true, ↓Bc_false, ↓Gk_hit, ↓Gk_tf, ↓Gk_ft, ↓Gk_undef, ↓GH_hit, ↓GH_tf, ↓GH_ft, ↓un_nil, ↓uv_fieldAt, ↓uv_load1, ↓uv_loadN, ↓uu_store1, ↓uv_box, ↓uv_makeMap, ↓uv_eql, ↓uv_neq, ↓uv_lss, ↓uv_leq, ↓uv_gtr, ↓uv_geq, ↓uv_add, ↓uv_sub, ↓uv_not, ↓uv_pick, ↓uv_streq, ↓uv_strne, ↓uv_ptreq, ↓uv_ptrne, ↓uv_func, ↓uv_extract, ↓un_len, ↓uv_and, ↓uv_or, fld27_0, fld27_1, fld27_2, fld27_3, fld37_0, fld37_1, fld37_2, fld53_0, fld53_1, fld59_0, fld59_1, fld62_0, fld62_1, fld62_2, fld67_0, fld81_0, fld81_1, pln3, siz3, pln4, siz4, pln9, siz9, agg27, pln35, siz35, agg37, pln50, siz50, pln51, siz51, pln57, siz57, agg62, agg81, agg91, slc22, ptr24, slc29, slc32, slc38, ptr55, ptr56, slc57, slc68, cellIn_cells, frzIn_00, setIn_cells, cellsIn_cells, List.getElem?_toArray, List.getElem?_cons_zero, List.getElem?_cons_succ, Option.isSome_some, Option.getD_some, Nat.zero_add, Nat.add_zero, List.setIfInBounds_toArray, List.set_cons_zero, List.set_cons_succ, put_same, add_new, add_old, oneV, Value.cells, List.size_toArray, List.length_cons, List.length_nil, List.extract_toArray, List.extract_eq_take_drop, Nat.reduceAdd, Nat.reduceSub, Nat.reduceLeDiff, if_true, List.drop_zero, List.take_succ_cons, List.take_zero, List.drop_succ_cons, drew_heap]
    rw [← hr2.bt]
    refine un_enter (enters Try.func17 (by kernel_rfl) (by kernel_rfl) _ _) (wish_c T1 y.txn w2 hr2.tab (inv_qbig hr2.inv hk) _ fun w3 hk3 => ?_)
    rw [hr2.bt]
    have hr3 := hr2.keep0 hk3
    have hbox3 := hk3.at hbox id
    simp only [uv_eq run_tupI0, uv_eq run_tupI1]
    rw [uv_allocS (vs := (wishF T1.abs y.txn).1.cells) zer37 siz37 rfl rfl (by intro u hu; exact lcells_one [(wishF T1.abs y.txn).1] u (by simpa [lcells] using hu))]
    have hkd : Keep0 w3 (World.add w3 (.cells (wishF T1.abs y.txn).1.cells.toArray 37)) := (Keep.refl _ w3).add
    generalize World.add w3 (.cells (wishF T1.abs y.txn).1.cells.toArray 37) = w4 at hkd ⊢
    have hr4 := hr3.keep0 hkd
    have hbox4 := hkd.at hbox3 id
    have hk14 : Keep0 w1 w4 := (hkc.trans hk3 (fun _ _ h => h)).trans hkd (fun _ _ h => h)
    have h84 := h8.keep hk14 (fun _ _ => id)
    have h94 := h9.keep hk14 (fun _ _ => id)
    simp only [F6_s16]
    cases hw : (wishF T1.abs y.txn).2
    · have hnw := wish_none hr1.inv hw
      have hk1 : (pget T1.abs.things y.res).isSome = true := by rw [ha1]; exact hyo.key
      have hm1 : y.mode = modeF T1.abs y.txn y.res := by rw [ha1]; exact hyo.mode
      have hbn : ¬ T1.foot w1.heap.size := fun hf => by have := hr1.tab.lt hf; omega
      simp only [↓Bc_true, ↓Bc_false, ↓Gk_hit, ↓Gk_tf, ↓Gk_ft, ↓Gk_undef, ↓GH_hit, ↓GH_tf, ↓GH_ft, ↓un_nil, ↓uv_fieldAt, ↓uv_load1, ↓uv_loadN, ↓uu_store1, ↓uv_box, ↓uv_makeMap, ↓uv_eql, ↓uv_neq, ↓uv_lss, ↓uv_leq, ↓uv_gtr, ↓uv_geq, ↓uv_add, ↓uv_sub, ↓uv_not, ↓uv_pick, ↓uv_streq, ↓uv_strne, ↓uv_ptreq, ↓uv_ptrne, ↓uv_func, ↓uv_extract, ↓un_len, ↓uv_and, ↓uv_or, F6_s17, F6_s17_t, fld27_0, fld27_1, fld27_2, fld27_3, fld37_0, fld37_1, fld37_2, fld53_0, fld53_1, fld59_0, fld59_1, fld62_0, fld62_1, fld62_2, fld67_0, fld81_0, fld81_1, pln3, siz3, pln4, siz4, pln9, siz9, agg27, pln35, siz35, agg37, pln50, siz50, pln51, siz51, pln57, siz57, agg62, agg81, agg91, slc22, ptr24, slc29, slc32, slc38, ptr55, ptr56, slc57, slc68, cellIn_cells, frzIn_00, setIn_cells, cellsIn_cells, List.getElem?_toArray, List.getElem?_cons_zero, List.getElem?_cons_succ, Option.isSome_some, Option.getD_some, Nat.zero_add, Nat.add_zero, List.setIfInBounds_toArray, List.set_cons_zero, List.set_cons_succ, put_same, add_new, add_old, oneV, Value.cells, List.size_toArray, List.length_cons, List.length_nil, List.extract_toArray, List.extract_eq_take_drop, Nat.reduceAdd, Nat.reduceSub, Nat.reduceLeDiff, if_true, List.drop_zero, List.take_succ_cons, List.take_zero, List.drop_succ_cons, drew_heap, hbox4]
      refine un_enter (enters Try.func10 (by kernel_rfl) (by kernel_rfl) _ _) (hr4.again hk y.txn y.res y.mode (ask_again hr1.inv hnw hyo.pos hk1 (by rw [← hm1]; exact jn_self hoM)) _ fun w5 T5 hr5 ha5 hk5 hf5 => ?_)
      have hbox5 := hk5.at hbox4 hbn
      have h85 := h84.keep hk5 (fun g hg hf => hs8 g hg hf)
      have h95 := h94.keep hk5 (fun g hg hf => hs9 g hg hf)
      have hs85 : ∀ g, rowB v8 = some g → ¬ T5.foot g := fun g hg hf => (hf5 g hf).elim (hs8 g hg) (fun hh => by have := h84.lt hg; omega)
      have hs95 : ∀ g, rowB v9 = some g → ¬ T5.foot g := fun g hg hf => (hf5 g hf).elim (hs9 g hg) (fun hh => by have := Row.lt h94 hg; omega)
      have ha5' : T5.abs = T.abs := by rw [ha5]; exact ha1
      have e6 : ((1 : Int) != 1) = false := rfl
      simp only [↓Bc_true, ↓Bc_false, ↓Gk_hit, ↓Gk_tf, ↓Gk_ft, ↓Gk_undef, ↓GH_hit, ↓GH_tf, ↓GH_ft, ↓un_nil, ↓uv_fieldAt, ↓uv_load1, ↓uv_loadN, ↓uu_store1, ↓uv_box, ↓uv_makeMap, ↓uv_eql, ↓uv_neq, ↓uv_lss, ↓uv_leq, ↓uv_gtr, ↓uv_geq, ↓uv_add, ↓uv_sub, ↓uv_not, ↓uv_pick, ↓uv_streq, ↓uv_strne, ↓uv_ptreq, ↓uv_ptrne, ↓uv_func, ↓uv_extract, ↓un_len, ↓uv_and, ↓uv_or, e6, fld27_0, fld27_1, fld27_2, fld27_3, fld37_0, fld37_1, fld37_2, fld53_0, fld53_1, fld59_0, fld59_1, fld62_0, fld62_1, fld62_2, fld67_0, fld81_0, fld81_1, pln3, siz3, pln4, siz4, pln9, siz9, agg27, pln35, siz35, agg37, pln50, siz50, pln51, siz51, pln57, siz57, agg62, agg81, agg91, slc22, ptr24, slc29, slc32, slc38, ptr55, ptr56, slc57, slc68, cellIn_cells, frzIn_00, setIn_cells, cellsIn_cells, List.getElem?_toArray, List.getElem?_cons_zero, List.getElem?_cons_succ, Option.isSome_some, Option.getD_some, Nat.zero_add, Nat.add_zero, List.setIfInBounds_toArray, List.set_cons_zero, List.set_cons_succ, put_same, add_new, add_old, oneV, Value.cells, List.size_toArray, List.length_cons, List.length_nil, List.extract_toArray, List.extract_eq_take_drop, Nat.reduceAdd, Nat.reduceSub, Nat.reduceLeDiff, if_true, List.drop_zero, List.take_succ_cons, List.take_zero, List.drop_succ_cons, drew_heap, hbox5]
      refine un_enter (enters Try.func15 (by kernel_rfl) (by kernel_rfl) _ _) (rCovers_c y.mode mode _ _ fun w6 hk6 => ?_)
      have hr6 := hr5.keep0 hk6
      have hbox6 := hk6.at hbox5 id
      have h86 := h85.keep hk6 (fun _ _ => id)
      have h96 := h95.keep hk6 (fun _ _ => id)
      cases hcv : cvB y.mode mode
      · simp only [↓Bc_true, ↓Bc_false, ↓Gk_hit, ↓Gk_tf, ↓Gk_ft, ↓Gk_undef, ↓GH_hit, ↓GH_tf, ↓GH_ft, ↓un_nil, ↓uv_fieldAt, ↓uv_load1, ↓uv_loadN, ↓uu_store1, ↓uv_box, ↓uv_makeMap, ↓uv_eql, ↓uv_neq, ↓uv_lss, ↓uv_leq, ↓uv_gtr, ↓uv_geq, ↓uv_add, ↓uv_sub, ↓uv_not, ↓uv_pick, ↓uv_streq, ↓uv_strne, ↓uv_ptreq, ↓uv_ptrne, ↓uv_func, ↓uv_extract, ↓un_len, ↓uv_and, ↓uv_or, Bool.false_eq_true, if_false, F6_s18]
        exact next w6 T5 hr6 ha5' h86 h96 hs85 hs95
      · simp only [↓Bc_true, ↓Bc_false, ↓Gk_hit, ↓Gk_tf, ↓Gk_ft, ↓Gk_undef, ↓GH_hit, ↓GH_tf, ↓GH_ft, ↓un_nil, ↓uv_fieldAt, ↓uv_load1, ↓uv_loadN, ↓uu_store1, ↓uv_box, ↓uv_makeMap, ↓uv_eql, ↓uv_neq, ↓uv_lss, ↓uv_leq, ↓uv_gtr, ↓uv_geq, ↓uv_add, ↓uv_sub, ↓uv_not, ↓uv_pick, ↓uv_streq, ↓uv_strne, ↓uv_ptreq, ↓uv_ptrne, ↓uv_func, ↓uv_extract, ↓un_len, ↓uv_and, ↓uv_or]
        unfold cvB at hcv
        simp only [Bool.and_eq_true, decide_eq_true_eq, beq_iff_eq] at hcv
        obtain ⟨⟨_, hm6⟩, hjn⟩ := hcv
        cases hmp : decide (mode > 0)
        · simp only [↓Bc_true, ↓Bc_false, ↓Gk_hit, ↓Gk_tf, ↓Gk_ft, ↓Gk_undef, ↓GH_hit, ↓GH_tf, ↓GH_ft, ↓un_nil, ↓uv_fieldAt, ↓uv_load1, ↓uv_loadN, ↓uu_store1, ↓uv_box, ↓uv_makeMap, ↓uv_eql, ↓uv_neq, ↓uv_lss, ↓uv_leq, ↓uv_gtr, ↓uv_geq, ↓uv_add, ↓uv_sub, ↓uv_not, ↓uv_pick, ↓uv_streq, ↓uv_strne, ↓uv_ptreq, ↓uv_ptrne, ↓uv_func, ↓uv_extract, ↓un_len, ↓uv_and, ↓uv_or, Bool.false_eq_true, if_false, if_true, F6_s18]
          exact next w6 T5 hr6 ha5' h86 h96 hs85 hs95
        · have hmp' : mode > 0 := by simpa using hmp
          simp only [↓Bc_true, ↓Bc_false, ↓Gk_hit, ↓Gk_tf, ↓Gk_ft, ↓Gk_undef, ↓GH_hit, ↓GH_tf, ↓GH_ft, ↓un_nil, ↓uv_fieldAt, ↓uv_load1, ↓uv_loadN, ↓uu_store1, ↓uv_box, ↓uv_makeMap, ↓uv_eql, ↓uv_neq, ↓uv_lss, ↓uv_leq, ↓uv_gtr, ↓uv_geq, ↓uv_add, ↓uv_sub, ↓uv_not, ↓uv_pick, ↓uv_streq, ↓uv_strne, ↓uv_ptreq, ↓uv_ptrne, ↓uv_func, ↓uv_extract, ↓un_len, ↓uv_and, ↓uv_or, if_true, fld27_0, fld27_1, fld27_2, fld27_3, fld37_0, fld37_1, fld37_2, fld53_0, fld53_1, fld59_0, fld59_1, fld62_0, fld62_1, fld62_2, fld67_0, fld81_0, fld81_1, pln3, siz3, pln4, siz4, pln9, siz9, agg27, pln35, siz35, agg37, pln50, siz50, pln51, siz51, pln57, siz57, agg62, agg81, agg91, slc22, ptr24, slc29, slc32, slc38, ptr55, ptr56, slc57, slc68, cellIn_cells, frzIn_00, setIn_cells, cellsIn_cells, List.getElem?_toArray, List.getElem?_cons_zero, List.getElem?_cons_succ, Option.isSome_some, Option.getD_some, Nat.zero_add, Nat.add_zero, List.setIfInBounds_toArray, List.set_cons_zero, List.set_cons_succ, put_same, add_new, add_old, oneV, Value.cells, List.size_toArray, List.length_cons, List.length_nil, List.extract_toArray, List.extract_eq_take_drop, Nat.reduceAdd, Nat.reduceSub, Nat.reduceLeDiff, if_true, List.drop_zero, List.take_succ_cons, List.take_zero, List.drop_succ_cons, drew_heap, hbox6]
          have hnw5 : pget T5.abs.waits y.txn = none := by rw [ha5]; exact hnw
          have hk15 : (pget T5.abs.things y.res).isSome = true := by rw [ha5]; exact hk1
          have hm15 : y.mode = modeF T5.abs y.txn y.res := by rw [ha5]; exact hm1
          refine un_enter (enters Try.func10 (by kernel_rfl) (by kernel_rfl) _ _) (hr6.again hk y.txn y.res mode (ask_again hr5.inv hnw5 ⟨by omega, hm6.2⟩ hk15 (by rw [← hm15]; exact hjn)) _ fun w7 T7 hr7 ha7 hk7 hf7 => ?_)
          simp only [↓Bc_true, ↓Bc_false, ↓Gk_hit, ↓Gk_tf, ↓Gk_ft, ↓Gk_undef, ↓GH_hit, ↓GH_tf, ↓GH_ft, ↓un_nil, ↓uv_fieldAt, ↓uv_load1, ↓uv_loadN, ↓uu_store1, ↓uv_box, ↓uv_makeMap, ↓uv_eql, ↓uv_neq, ↓uv_lss, ↓uv_leq, ↓uv_gtr, ↓uv_geq, ↓uv_add, ↓uv_sub, ↓uv_not, ↓uv_pick, ↓uv_streq, ↓uv_strne, ↓uv_ptreq, ↓uv_ptrne, ↓uv_func, ↓uv_extract, ↓un_len, ↓uv_and, ↓uv_or, e6, Bool.false_eq_true, if_false, if_true, F6_s18]
          refine next w7 T7 hr7 (by rw [ha7]; exact ha5') (h86.keep hk7 (fun g hg hf => hs85 g hg hf)) (h96.keep hk7 (fun g hg hf => hs95 g hg hf)) ?_ ?_
          · exact fun g hg hf => (hf7 g hf).elim (hs85 g hg) (fun hh => by have := h86.lt hg; omega)
          · exact fun g hg hf => (hf7 g hf).elim (hs95 g hg) (fun hh => by have := Row.lt h96 hg; omega)
    · simp only [↓Bc_true, ↓Bc_false, ↓Gk_hit, ↓Gk_tf, ↓Gk_ft, ↓Gk_undef, ↓GH_hit, ↓GH_tf, ↓GH_ft, ↓un_nil, ↓uv_fieldAt, ↓uv_load1, ↓uv_loadN, ↓uu_store1, ↓uv_box, ↓uv_makeMap, ↓uv_eql, ↓uv_neq, ↓uv_lss, ↓uv_leq, ↓uv_gtr, ↓uv_geq, ↓uv_add, ↓uv_sub, ↓uv_not, ↓uv_pick, ↓uv_streq, ↓uv_strne, ↓uv_ptreq, ↓uv_ptrne, ↓uv_func, ↓uv_extract, ↓un_len, ↓uv_and, ↓uv_or]
      exact next w4 T1 hr4 ha1 h84 h94 hs8 hs9
  · have e1 : decide ((j : Int) < ((locksF T.abs).length : Int)) = false := by rw [decide_eq_false_iff_not]; omega
    simp only [e1, ↓Bc_true, ↓Bc_false, ↓Gk_hit, ↓Gk_tf, ↓Gk_ft, ↓Gk_undef, ↓GH_hit, ↓GH_tf, ↓GH_ft, ↓un_nil, ↓uv_fieldAt, ↓uv_load1, ↓uv_loadN, ↓uu_store1, ↓uv_box, ↓uv_makeMap, ↓uv_eql, ↓uv_neq, ↓uv_lss, ↓uv_leq, ↓uv_gtr, ↓uv_geq, ↓uv_add, ↓uv_sub, ↓uv_not, ↓uv_pick, ↓uv_streq, ↓uv_strne, ↓uv_ptreq, ↓uv_ptrne, ↓uv_func, ↓uv_extract, ↓un_len, ↓uv_and, ↓uv_or, F6_s9, F6_s9_t]
    rw [← hr1.bt]
    refine un_enter (enters Try.func13 (by kernel_rfl) (by kernel_rfl) _ _) (locks_c T1 w1 hr1.tab (hr1.inv.small hk) _ fun vl w2 hl2 hf2 hk2 => ?_)
    rw [ha1] at hl2
    refine un_enter (enters Try.func18 (by kernel_rfl) (by kernel_rfl) _ _) (sameLocks_c _ _ _ _ w2 hl2 (h8.keep hk2 (fun _ _ => id)) _ fun w3 hk3 => ?_)
    rw [decide_eq_true (rfl : locksF T.abs = locksF T.abs)]
    have hk13 : Keep0 w1 w3 := hk2.trans hk3 (fun _ _ h => h)
    have hr3 := hr1.keep0 hk13
    simp only [↓Bc_true, ↓Bc_false, ↓Gk_hit, ↓Gk_tf, ↓Gk_ft, ↓Gk_undef, ↓GH_hit, ↓GH_tf, ↓GH_ft, ↓un_nil, ↓uv_fieldAt, ↓uv_load1, ↓uv_loadN, ↓uu_store1, ↓uv_box, ↓uv_makeMap, ↓uv_eql, ↓uv_neq, ↓uv_lss, ↓uv_leq, ↓uv_gtr, ↓uv_geq, ↓uv_add, ↓uv_sub, ↓uv_not, ↓uv_pick, ↓uv_streq, ↓uv_strne, ↓uv_ptreq, ↓uv_ptrne, ↓uv_func, ↓uv_extract, ↓un_len, ↓uv_and, ↓uv_or]
    refine un_enter (enters Try.func14 (by kernel_rfl) (by kernel_rfl) _ _) (edges_c T1 w3 hr3.tab (hr1.inv.small hk) hr1.inv.waits (by rw [wlen]; have := hr1.inv.wn; omega) _ fun ve w4 he4 hf4 hk4 => ?_)
    rw [ha1] at he4
    simp only [↓Bc_true, ↓Bc_false, ↓Gk_hit, ↓Gk_tf, ↓Gk_ft, ↓Gk_undef, ↓GH_hit, ↓GH_tf, ↓GH_ft, ↓un_nil, ↓uv_fieldAt, ↓uv_load1, ↓uv_loadN, ↓uu_store1, ↓uv_box, ↓uv_makeMap, ↓uv_eql, ↓uv_neq, ↓uv_lss, ↓uv_leq, ↓uv_gtr, ↓uv_geq, ↓uv_add, ↓uv_sub, ↓uv_not, ↓uv_pick, ↓uv_streq, ↓uv_strne, ↓uv_ptreq, ↓uv_ptrne, ↓uv_func, ↓uv_extract, ↓un_len, ↓uv_and, ↓uv_or]
    refine un_enter (enters Try.func19 (by kernel_rfl) (by kernel_rfl) _ _) (sameEdges_c _ _ _ _ w4 he4 (h9.keep (hk13.trans hk4 (fun _ _ h => h)) (fun _ _ => id)) _ fun w5 hk5 => ?_)
    rw [decide_eq_true (rfl : edgesF T.abs = edgesF T.abs)]
    simp only [↓Bc_true, ↓Bc_false, ↓Gk_hit, ↓Gk_tf, ↓Gk_ft, ↓Gk_undef, ↓GH_hit, ↓GH_tf, ↓GH_ft, ↓un_nil, ↓uv_fieldAt, ↓uv_load1, ↓uv_loadN, ↓uu_store1, ↓uv_box, ↓uv_makeMap, ↓uv_eql, ↓uv_neq, ↓uv_lss, ↓uv_leq, ↓uv_gtr, ↓uv_geq, ↓uv_add, ↓uv_sub, ↓uv_not, ↓uv_pick, ↓uv_streq, ↓uv_strne, ↓uv_ptreq, ↓uv_ptrne, ↓uv_func, ↓uv_extract, ↓un_len, ↓uv_and, ↓uv_or, if_true]
    exact h w5 ((hr3.keep0 hk4).keep0 hk5).keep
theorem locksAgain_c (v0 : Value) (mode : Int) (ops : List Op) (w : World) (ha : ArgO w v0 ops) (hn : ops.length ≤ 1048575) (hwf : ∀ o ∈ ops, o.ok) (R : Ending → World → Prop)
    (h : ∀ w', Keep0 w w' → R (.returned (.bool true)) w') : Calls Try.prog 6 #[v0, .int .i64 mode] w R := by
  apply F6_calls
  simp only [F6_s1, F6_s1_t]
  refine un_enter (enters Try.func8 (by kernel_rfl) (by kernel_rfl) _ _) (speaks_c w _ fun wa hka => ?_)
  simp only [↓Bc_true, ↓Bc_false, ↓Gk_hit, ↓Gk_tf, ↓Gk_ft, ↓Gk_undef, ↓GH_hit, ↓GH_tf, ↓GH_ft, ↓un_nil, ↓uv_fieldAt, ↓uv_load1, ↓uv_loadN, ↓uu_store1, ↓uv_box, ↓uv_makeMap, ↓uv_eql, ↓uv_neq, ↓uv_lss, ↓uv_leq, ↓uv_gtr, ↓uv_geq, ↓uv_add, ↓uv_sub, ↓uv_not, ↓uv_pick, ↓uv_streq, ↓uv_strne, ↓uv_ptreq, ↓uv_ptrne, ↓uv_func, ↓uv_extract, ↓un_len, ↓uv_and, ↓uv_or, Bool.not_true, F6_s2, F6_s3, F6_s3_t]
  refine un_enter (enters Try.func9 (by kernel_rfl) (by kernel_rfl) _ _) (new_c wa _ fun wb ht hkb => ?_)
  generalize hT : ({ bt := wa.heap.size + 2, bT := wa.heap.size, bW := wa.heap.size + 1, things := [], waits := [] } : Tab) = T0 at ht
  have hbt : T0.bt = wa.heap.size + 2 := by rw [← hT]
  have hsa := hka.size
  have hrun : Run T0 w wb T0 [] 0 := by
    refine ⟨ht, rfl, by rw [← hT]; exact Inv.empty, Nat.le_refl _, ?_, hka.trans hkb (fun _ _ h => h)⟩
    rw [← hT]
    rintro b (rfl | rfl | rfl | ⟨p, hp, _⟩ | ⟨p, hp, _⟩)
    · show w.heap.size ≤ wa.heap.size + 2; omega
    · exact hsa
    · show w.heap.size ≤ wa.heap.size + 1; omega
    · cases hp
    · cases hp
  rw [← hbt]
  simp only [↓Bc_true, ↓Bc_false, ↓Gk_hit, ↓Gk_tf, ↓Gk_ft, ↓Gk_undef, ↓GH_hit, ↓GH_tf, ↓GH_ft, ↓un_nil, ↓uv_fieldAt, ↓uv_load1, ↓uv_loadN, ↓uu_store1, ↓uv_box, ↓uv_makeMap, ↓uv_eql, ↓uv_neq, ↓uv_lss, ↓uv_leq, ↓uv_gtr, ↓uv_geq, ↓uv_add, ↓uv_sub, ↓uv_not, ↓uv_pick, ↓uv_streq, ↓uv_strne, ↓uv_ptreq, ↓uv_ptrne, ↓uv_func, ↓uv_extract, ↓un_len, ↓uv_and, ↓uv_or, fld27_0, fld27_1, fld27_2, fld27_3, fld37_0, fld37_1, fld37_2, fld53_0, fld53_1, fld59_0, fld59_1, fld62_0, fld62_1, fld62_2, fld67_0, fld81_0, fld81_1, pln3, siz3, pln4, siz4, pln9, siz9, agg27, pln35, siz35, agg37, pln50, siz50, pln51, siz51, pln57, siz57, agg62, agg81, agg91, slc22, ptr24, slc29, slc32, slc38, ptr55, ptr56, slc57, slc68, Option.isNone_some, F6_s4, F6_s5, F6_s5_t, ha.len, F6_s20]
  refine ⟨fun v13 w' => ∃ (i : Nat) (T : Tab) (S : List Int), v13 = .int .i64 i ∧ i ≤ ops.length ∧ Run T0 w w' T S i, fun v13 _ => match v13 with | .int _ i => ops.length - i.toNat | _ => 0, ⟨0, T0, [], rfl, by omega, hrun⟩, ?_⟩
  rintro v13 w1 ⟨i, T, S, rfl, hi, hr⟩
  simp only [F6_s21, F6_s21_t, ↓Bc_true, ↓Bc_false, ↓Gk_hit, ↓Gk_tf, ↓Gk_ft, ↓Gk_undef, ↓GH_hit, ↓GH_tf, ↓GH_ft, ↓un_nil, ↓uv_fieldAt, ↓uv_load1, ↓uv_loadN, ↓uu_store1, ↓uv_box, ↓uv_makeMap, ↓uv_eql, ↓uv_neq, ↓uv_lss, ↓uv_leq, ↓uv_gtr, ↓uv_geq, ↓uv_add, ↓uv_sub, ↓uv_not, ↓uv_pick, ↓uv_streq, ↓uv_strne, ↓uv_ptreq, ↓uv_ptrne, ↓uv_func, ↓uv_extract, ↓un_len, ↓uv_and, ↓uv_or, F6_s22]
  by_cases hlt : i < ops.length
  · have e1 : decide ((i : Int) < (ops.length : Int)) = true := by rw [decide_eq_true_eq]; omega
    have e4 : IntKind.i64.wrap ((i : Int) + 1) = ((i + 1 : Nat) : Int) := by rw [wrap_id (by omega) (by omega)]; omega
    obtain ⟨x, hx⟩ : ∃ x, ops[i]? = some x := ⟨ops[i], List.getElem?_eq_getElem hlt⟩
    have hxo := hwf x (List.mem_of_getElem? hx)
    simp only [e1, ↓Bc_true, ↓Bc_false, ↓Gk_hit, ↓Gk_tf, ↓Gk_ft, ↓Gk_undef, ↓GH_hit, ↓GH_tf, ↓GH_ft, ↓un_nil, ↓uv_fieldAt, ↓uv_load1, ↓uv_loadN, ↓uu_store1, ↓uv_box, ↓uv_makeMap, ↓uv_eql, ↓uv_neq, ↓uv_lss, ↓uv_leq, ↓uv_gtr, ↓uv_geq, ↓uv_add, ↓uv_sub, ↓uv_not, ↓uv_pick, ↓uv_streq, ↓uv_strne, ↓uv_ptreq, ↓uv_ptrne, ↓uv_func, ↓uv_extract, ↓un_len, ↓uv_and, ↓uv_or, F6_s25, F6_s25_t]
    refine (ha.keep hr.keep).box hx fun b w2 hkb2 hb hcell => ?_
    have hr2 := hr.keep0 hkb2
    simp only [↓Bc_true, ↓Bc_false, ↓Gk_hit, ↓Gk_tf, ↓Gk_ft, ↓Gk_undef, ↓GH_hit, ↓GH_tf, ↓GH_ft, ↓un_nil, ↓uv_fieldAt, ↓uv_load1, ↓uv_loadN, ↓uu_store1, ↓uv_box, ↓uv_makeMap, ↓uv_eql, ↓uv_neq, ↓uv_lss, ↓uv_leq, ↓uv_gtr, ↓uv_geq, ↓uv_add, ↓uv_sub, ↓uv_not, ↓uv_pick, ↓uv_streq, ↓uv_strne, ↓uv_ptreq, ↓uv_ptrne, ↓uv_func, ↓uv_extract, ↓un_len, ↓uv_and, ↓uv_or, fld27_0, fld27_1, fld27_2, fld27_3, fld37_0, fld37_1, fld37_2, fld53_0, fld53_1, fld59_0, fld59_1, fld62_0, fld62_1, fld62_2, fld67_0, fld81_0, fld81_1, pln3, siz3, pln4, siz4, pln9, siz9, agg27, pln35, siz35, agg37, pln50, siz50, pln51, siz51, pln57, siz57, agg62, agg81, agg91, slc22, ptr24, slc29, slc32, slc38, ptr55, ptr56, slc57, slc68, cellIn_cells, frzIn_00, setIn_cells, cellsIn_cells, List.getElem?_toArray, List.getElem?_cons_zero, List.getElem?_cons_succ, Option.isSome_some, Option.getD_some, Nat.zero_add, Nat.add_zero, List.setIfInBounds_toArray, List.set_cons_zero, List.set_cons_succ, put_same, add_new, add_old, oneV, Value.cells, List.size_toArray, List.length_cons, List.length_nil, List.extract_toArray, List.extract_eq_take_drop, Nat.reduceAdd, Nat.reduceSub, Nat.reduceLeDiff, if_true, List.drop_zero, List.take_succ_cons, List.take_zero, List.drop_succ_cons, drew_heap, hcell, F6_s26]
    cases hc : decide (band x.kind 3 < 3)
    · simp only [↓Bc_true, ↓Bc_false, ↓Gk_hit, ↓Gk_tf, ↓Gk_ft, ↓Gk_undef, ↓GH_hit, ↓GH_tf, ↓GH_ft, ↓un_nil, ↓uv_fieldAt, ↓uv_load1, ↓uv_loadN, ↓uu_store1, ↓uv_box, ↓uv_makeMap, ↓uv_eql, ↓uv_neq, ↓uv_lss, ↓uv_leq, ↓uv_gtr, ↓uv_geq, ↓uv_add, ↓uv_sub, ↓uv_not, ↓uv_pick, ↓uv_streq, ↓uv_strne, ↓uv_ptreq, ↓uv_ptrne, ↓uv_func, ↓uv_extract, ↓un_len, ↓uv_and, ↓uv_or, F6_s28, F6_s28_t, fld27_0, fld27_1, fld27_2, fld27_3, fld37_0, fld37_1, fld37_2, fld53_0, fld53_1, fld59_0, fld59_1, fld62_0, fld62_1, fld62_2, fld67_0, fld81_0, fld81_1, pln3, siz3, pln4, siz4, pln9, siz9, agg27, pln35, siz35, agg37, pln50, siz50, pln51, siz51, pln57, siz57, agg62, agg81, agg91, slc22, ptr24, slc29, slc32, slc38, ptr55, ptr56, slc57, slc68, cellIn_cells, frzIn_00, setIn_cells, cellsIn_cells, List.getElem?_toArray, List.getElem?_cons_zero, List.getElem?_cons_succ, Option.isSome_some, Option.getD_some, Nat.zero_add, Nat.add_zero, List.setIfInBounds_toArray, List.set_cons_zero, List.set_cons_succ, put_same, add_new, add_old, oneV, Value.cells, List.size_toArray, List.length_cons, List.length_nil, List.extract_toArray, List.extract_eq_take_drop, Nat.reduceAdd, Nat.reduceSub, Nat.reduceLeDiff, if_true, List.drop_zero, List.take_succ_cons, List.take_zero, List.drop_succ_cons, drew_heap, hcell]
      refine un_enter (enters Try.func11 (by kernel_rfl) (by kernel_rfl) _ _) (hr2.drop (by omega) x.txn _ fun v w3 T' hr3 _ _ _ _ _ => ?_)
      simp only [F6_s24, F6_s24_t, ↓Bc_true, ↓Bc_false, ↓Gk_hit, ↓Gk_tf, ↓Gk_ft, ↓Gk_undef, ↓GH_hit, ↓GH_tf, ↓GH_ft, ↓un_nil, ↓uv_fieldAt, ↓uv_load1, ↓uv_loadN, ↓uu_store1, ↓uv_box, ↓uv_makeMap, ↓uv_eql, ↓uv_neq, ↓uv_lss, ↓uv_leq, ↓uv_gtr, ↓uv_geq, ↓uv_add, ↓uv_sub, ↓uv_not, ↓uv_pick, ↓uv_streq, ↓uv_strne, ↓uv_ptreq, ↓uv_ptrne, ↓uv_func, ↓uv_extract, ↓un_len, ↓uv_and, ↓uv_or, e4]
      exact ⟨⟨i + 1, T', _, rfl, by omega, hr3.mono (by omega)⟩, by simp; omega⟩
    · simp only [↓Bc_true, ↓Bc_false, ↓Gk_hit, ↓Gk_tf, ↓Gk_ft, ↓Gk_undef, ↓GH_hit, ↓GH_tf, ↓GH_ft, ↓un_nil, ↓uv_fieldAt, ↓uv_load1, ↓uv_loadN, ↓uu_store1, ↓uv_box, ↓uv_makeMap, ↓uv_eql, ↓uv_neq, ↓uv_lss, ↓uv_leq, ↓uv_gtr, ↓uv_geq, ↓uv_add, ↓uv_sub, ↓uv_not, ↓uv_pick, ↓uv_streq, ↓uv_strne, ↓uv_ptreq, ↓uv_ptrne, ↓uv_func, ↓uv_extract, ↓un_len, ↓uv_and, ↓uv_or, F6_s27, F6_s27_t, fld27_0, fld27_1, fld27_2, fld27_3, fld37_0, fld37_1, fld37_2, fld53_0, fld53_1, fld59_0, fld59_1, fld62_0, fld62_1, fld62_2, fld67_0, fld81_0, fld81_1, pln3, siz3, pln4, siz4, pln9, siz9, agg27, pln35, siz35, agg37, pln50, siz50, pln51, siz51, pln57, siz57, agg62, agg81, agg91, slc22, ptr24, slc29, slc32, slc38, ptr55, ptr56, slc57, slc68, cellIn_cells, frzIn_00, setIn_cells, cellsIn_cells, List.getElem?_toArray, List.getElem?_cons_zero, List.getElem?_cons_succ, Option.isSome_some, Option.getD_some, Nat.zero_add, Nat.add_zero, List.setIfInBounds_toArray, List.set_cons_zero, List.set_cons_succ, put_same, add_new, add_old, oneV, Value.cells, List.size_toArray, List.length_cons, List.length_nil, List.extract_toArray, List.extract_eq_take_drop, Nat.reduceAdd, Nat.reduceSub, Nat.reduceLeDiff, if_true, List.drop_zero, List.take_succ_cons, List.take_zero, List.drop_succ_cons, drew_heap, hcell]
      refine un_enter (enters Try.func10 (by kernel_rfl) (by kernel_rfl) _ _) (hr2.ask (by omega) x.txn x.res x.mode hxo.1 hxo.2 _ fun w3 T' hr3 _ _ _ => ?_)
      simp only [F6_s24, F6_s24_t, ↓Bc_true, ↓Bc_false, ↓Gk_hit, ↓Gk_tf, ↓Gk_ft, ↓Gk_undef, ↓GH_hit, ↓GH_tf, ↓GH_ft, ↓un_nil, ↓uv_fieldAt, ↓uv_load1, ↓uv_loadN, ↓uu_store1, ↓uv_box, ↓uv_makeMap, ↓uv_eql, ↓uv_neq, ↓uv_lss, ↓uv_leq, ↓uv_gtr, ↓uv_geq, ↓uv_add, ↓uv_sub, ↓uv_not, ↓uv_pick, ↓uv_streq, ↓uv_strne, ↓uv_ptreq, ↓uv_ptrne, ↓uv_func, ↓uv_extract, ↓un_len, ↓uv_and, ↓uv_or, e4]
      exact ⟨⟨i + 1, T', _, rfl, by omega, hr3⟩, by simp; omega⟩
  · have e1 : decide ((i : Int) < (ops.length : Int)) = false := by rw [decide_eq_false_iff_not]; omega
    simp only [e1, ↓Bc_true, ↓Bc_false, ↓Gk_hit, ↓Gk_tf, ↓Gk_ft, ↓Gk_undef, ↓GH_hit, ↓GH_tf, ↓GH_ft, ↓un_nil, ↓uv_fieldAt, ↓uv_load1, ↓uv_loadN, ↓uu_store1, ↓uv_box, ↓uv_makeMap, ↓uv_eql, ↓uv_neq, ↓uv_lss, ↓uv_leq, ↓uv_gtr, ↓uv_geq, ↓uv_add, ↓uv_sub, ↓uv_not, ↓uv_pick, ↓uv_streq, ↓uv_strne, ↓uv_ptreq, ↓uv_ptrne, ↓uv_func, ↓uv_extract, ↓un_len, ↓uv_and, ↓uv_or]
    exact againAll_c T0 T w w1 S i hr (by omega) mode R h
end Go.Proofs.Ytpghlemcgjogpaa
