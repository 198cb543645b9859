/- LocksClean: the walk. -/
import Derived.Test.YtpghlemcgjogpaaDC
import Derived.Test.YtpghlemcgjogpaaFDD
set_option linter.unusedVariables false
set_option linter.unusedSimpArgs false
set_option linter.unnecessarySimpa false
set_option maxRecDepth 100000
namespace Go.Proofs.Ytpghlemcgjogpaa
open Go.Sx

theorem locksClean_c (v0 : Value) (ops : List Op) (w : World) (ha : ArgO w v0 ops) (hn : ops.length ≤ 1048575) (hwf : ∀ o ∈ ops, o.ok) (R : Ending → World → Prop)
    (h : ∀ w', Keep0 w w' → R (.returned (.bool true)) w') : Calls Try.prog 3 #[v0] w R := by
  apply F3_calls
  simp only [F3_s1, F3_s1_t]
  refine un_enter (enters Try.func8 (by kernel_rfl) (by kernel_rfl) _ _) (speaks_c w _ fun wa hka => ?_)
  simp only [↓Bc_true, ↓Bc_false, ↓Gk_hit, ↓Gk_tf, ↓Gk_ft, ↓Gk_undef, ↓GH_hit, ↓GH_tf, ↓GH_ft, ↓un_nil, ↓uv_fieldAt, ↓uv_load1, ↓uv_loadN, ↓uu_store1, ↓uv_box, ↓uv_makeMap, ↓uv_eql, ↓uv_neq, ↓uv_lss, ↓uv_leq, ↓uv_gtr, ↓uv_geq, ↓uv_add, ↓uv_sub, ↓uv_not, ↓uv_pick, ↓uv_streq, ↓uv_strne, ↓uv_ptreq, ↓uv_ptrne, ↓uv_func, ↓uv_extract, ↓un_len, ↓uv_and, ↓uv_or, Bool.not_true, F3_s2, F3_s3, F3_s3_t]
  refine un_enter (enters Try.func9 (by kernel_rfl) (by kernel_rfl) _ _) (new_c wa _ fun wb ht hkb => ?_)
  generalize hT : ({ bt := wa.heap.size + 2, bT := wa.heap.size, bW := wa.heap.size + 1, things := [], waits := [] } : Tab) = T0 at ht
  have hbt : T0.bt = wa.heap.size + 2 := by rw [← hT]
  have hsa := hka.size
  have hrun : Run T0 w wb T0 [] 0 := by
    refine ⟨ht, rfl, by rw [← hT]; exact Inv.empty, Nat.le_refl _, ?_, hka.trans hkb (fun _ _ h => h)⟩
    rw [← hT]
    rintro b (rfl | rfl | rfl | ⟨p, hp, _⟩ | ⟨p, hp, _⟩)
    · show w.heap.size ≤ wa.heap.size + 2; omega
    · exact hsa
    · show w.heap.size ≤ wa.heap.size + 1; omega
    · cases hp
    · cases hp
  rw [← hbt]
  simp only [↓Bc_true, ↓Bc_false, ↓Gk_hit, ↓Gk_tf, ↓Gk_ft, ↓Gk_undef, ↓GH_hit, ↓GH_tf, ↓GH_ft, ↓un_nil, ↓uv_fieldAt, ↓uv_load1, ↓uv_loadN, ↓uu_store1, ↓uv_box, ↓uv_makeMap, ↓uv_eql, ↓uv_neq, ↓uv_lss, ↓uv_leq, ↓uv_gtr, ↓uv_geq, ↓uv_add, ↓uv_sub, ↓uv_not, ↓uv_pick, ↓uv_streq, ↓uv_strne, ↓uv_ptreq, ↓uv_ptrne, ↓uv_func, ↓uv_extract, ↓un_len, ↓uv_and, ↓uv_or, fld27_0, fld27_1, fld27_2, fld27_3, fld37_0, fld37_1, fld37_2, fld53_0, fld53_1, fld59_0, fld59_1, fld62_0, fld62_1, fld62_2, fld67_0, fld81_0, fld81_1, pln3, siz3, pln4, siz4, pln9, siz9, agg27, pln35, siz35, agg37, pln50, siz50, pln51, siz51, pln57, siz57, agg62, agg81, agg91, slc22, ptr24, slc29, slc32, slc38, ptr55, ptr56, slc57, slc68, Option.isNone_some, F3_s4, F3_s5, F3_s5_t, ha.len, F3_s8]
  refine ⟨fun v13 w' => ∃ (i : Nat) (T : Tab) (S : List Int), v13 = .int .i64 i ∧ i ≤ ops.length ∧ Run T0 w w' T S i, fun v13 _ => match v13 with | .int _ i => ops.length - i.toNat | _ => 0, ⟨0, T0, [], rfl, by omega, hrun⟩, ?_⟩
  rintro v13 w1 ⟨i, T, S, rfl, hi, hr⟩
  simp only [F3_s9, F3_s9_t, ↓Bc_true, ↓Bc_false, ↓Gk_hit, ↓Gk_tf, ↓Gk_ft, ↓Gk_undef, ↓GH_hit, ↓GH_tf, ↓GH_ft, ↓un_nil, ↓uv_fieldAt, ↓uv_load1, ↓uv_loadN, ↓uu_store1, ↓uv_box, ↓uv_makeMap, ↓uv_eql, ↓uv_neq, ↓uv_lss, ↓uv_leq, ↓uv_gtr, ↓uv_geq, ↓uv_add, ↓uv_sub, ↓uv_not, ↓uv_pick, ↓uv_streq, ↓uv_strne, ↓uv_ptreq, ↓uv_ptrne, ↓uv_func, ↓uv_extract, ↓un_len, ↓uv_and, ↓uv_or, F3_s10]
  by_cases hlt : i < ops.length
  · have e1 : decide ((i : Int) < (ops.length : Int)) = true := by rw [decide_eq_true_eq]; omega
    have e4 : IntKind.i64.wrap ((i : Int) + 1) = ((i + 1 : Nat) : Int) := by rw [wrap_id (by omega) (by omega)]; omega
    obtain ⟨x, hx⟩ : ∃ x, ops[i]? = some x := ⟨ops[i], List.getElem?_eq_getElem hlt⟩
    have hxo := hwf x (List.mem_of_getElem? hx)
    have rest : ∀ w3 T' S', Run T0 w w3 T' S' (i + 1) → F3_s15 R (fun y0 w' => (∃ (i : Nat) (T : Tab) (S : List Int), y0 = .int .i64 i ∧ i ≤ ops.length ∧ Run T0 w w' T S i) ∧ (match y0 with | .int _ i => ops.length - i.toNat | _ => 0) < (match (Value.int .i64 i) with | .int _ i => ops.length - i.toNat | _ => 0)) (ptr T0.bt) v0 (.int .i64 ops.length) (.int .i64 i) w3 := by
      intro w3 T' S' hr3
      simp only [F3_s15, F3_s15_t]
      rw [← hr3.bt]
      refine un_enter (enters Try.func13 (by kernel_rfl) (by kernel_rfl) _ _) (locks_c T' w3 hr3.tab (hr3.inv.small (by omega)) _ fun vl w4 hrl hfl hk4 => ?_)
      refine un_enter (enters Try.func12 (by kernel_rfl) (by kernel_rfl) _ _) (clean_c vl _ w4 hrl (locks_clean hr3.inv) _ fun w5 hk5 => ?_)
      simp only [↓Bc_true, ↓Bc_false, ↓Gk_hit, ↓Gk_tf, ↓Gk_ft, ↓Gk_undef, ↓GH_hit, ↓GH_tf, ↓GH_ft, ↓un_nil, ↓uv_fieldAt, ↓uv_load1, ↓uv_loadN, ↓uu_store1, ↓uv_box, ↓uv_makeMap, ↓uv_eql, ↓uv_neq, ↓uv_lss, ↓uv_leq, ↓uv_gtr, ↓uv_geq, ↓uv_add, ↓uv_sub, ↓uv_not, ↓uv_pick, ↓uv_streq, ↓uv_strne, ↓uv_ptreq, ↓uv_ptrne, ↓uv_func, ↓uv_extract, ↓un_len, ↓uv_and, ↓uv_or, Bool.not_true, F3_s16, F3_s12, F3_s12_t, e4]
      exact ⟨⟨i + 1, T', S', rfl, by omega, (hr3.keep0 hk4).keep0 hk5⟩, by simp; omega⟩
    simp only [e1, ↓Bc_true, ↓Bc_false, ↓Gk_hit, ↓Gk_tf, ↓Gk_ft, ↓Gk_undef, ↓GH_hit, ↓GH_tf, ↓GH_ft, ↓un_nil, ↓uv_fieldAt, ↓uv_load1, ↓uv_loadN, ↓uu_store1, ↓uv_box, ↓uv_makeMap, ↓uv_eql, ↓uv_neq, ↓uv_lss, ↓uv_leq, ↓uv_gtr, ↓uv_geq, ↓uv_add, ↓uv_sub, ↓uv_not, ↓uv_pick, ↓uv_streq, ↓uv_strne, ↓uv_ptreq, ↓uv_ptrne, ↓uv_func, ↓uv_extract, ↓un_len, ↓uv_and, ↓uv_or, F3_s13, F3_s13_t]
    refine (ha.keep hr.keep).box hx fun b w2 hkb2 hb hcell => ?_
    have hr2 := hr.keep0 hkb2
    simp only [↓Bc_true, ↓Bc_false, ↓Gk_hit, ↓Gk_tf, ↓Gk_ft, ↓Gk_undef, ↓GH_hit, ↓GH_tf, ↓GH_ft, ↓un_nil, ↓uv_fieldAt, ↓uv_load1, ↓uv_loadN, ↓uu_store1, ↓uv_box, ↓uv_makeMap, ↓uv_eql, ↓uv_neq, ↓uv_lss, ↓uv_leq, ↓uv_gtr, ↓uv_geq, ↓uv_add, ↓uv_sub, ↓uv_not, ↓uv_pick, ↓uv_streq, ↓uv_strne, ↓uv_ptreq, ↓uv_ptrne, ↓uv_func, ↓uv_extract, ↓un_len, ↓uv_and, ↓uv_or, fld27_0, fld27_1, fld27_2, fld27_3, fld37_0, fld37_1, fld37_2, fld53_0, fld53_1, fld59_0, fld59_1, fld62_0, fld62_1, fld62_2, fld67_0, fld81_0, fld81_1, pln3, siz3, pln4, siz4, pln9, siz9, agg27, pln35, siz35, agg37, pln50, siz50, pln51, siz51, pln57, siz57, agg62, agg81, agg91, slc22, ptr24, slc29, slc32, slc38, ptr55, ptr56, slc57, slc68, cellIn_cells, frzIn_00, setIn_cells, cellsIn_cells, List.getElem?_toArray, List.getElem?_cons_zero, List.getElem?_cons_succ, Option.isSome_some, Option.getD_some, Nat.zero_add, Nat.add_zero, List.setIfInBounds_toArray, List.set_cons_zero, List.set_cons_succ, put_same, add_new, add_old, oneV, Value.cells, List.size_toArray, List.length_cons, List.length_nil, List.extract_toArray, List.extract_eq_take_drop, Nat.reduceAdd, Nat.reduceSub, Nat.reduceLeDiff, if_true, List.drop_zero, List.take_succ_cons, List.take_zero, List.drop_succ_cons, drew_heap, hcell, F3_s14]
    cases hc : decide (band x.kind 3 < 3)
    · simp only [↓Bc_true, ↓Bc_false, ↓Gk_hit, ↓Gk_tf, ↓Gk_ft, ↓Gk_undef, ↓GH_hit, ↓GH_tf, ↓GH_ft, ↓un_nil, ↓uv_fieldAt, ↓uv_load1, ↓uv_loadN, ↓uu_store1, ↓uv_box, ↓uv_makeMap, ↓uv_eql, ↓uv_neq, ↓uv_lss, ↓uv_leq, ↓uv_gtr, ↓uv_geq, ↓uv_add, ↓uv_sub, ↓uv_not, ↓uv_pick, ↓uv_streq, ↓uv_strne, ↓uv_ptreq, ↓uv_ptrne, ↓uv_func, ↓uv_extract, ↓un_len, ↓uv_and, ↓uv_or, F3_s19, F3_s19_t, fld27_0, fld27_1, fld27_2, fld27_3, fld37_0, fld37_1, fld37_2, fld53_0, fld53_1, fld59_0, fld59_1, fld62_0, fld62_1, fld62_2, fld67_0, fld81_0, fld81_1, pln3, siz3, pln4, siz4, pln9, siz9, agg27, pln35, siz35, agg37, pln50, siz50, pln51, siz51, pln57, siz57, agg62, agg81, agg91, slc22, ptr24, slc29, slc32, slc38, ptr55, ptr56, slc57, slc68, cellIn_cells, frzIn_00, setIn_cells, cellsIn_cells, List.getElem?_toArray, List.getElem?_cons_zero, List.getElem?_cons_succ, Option.isSome_some, Option.getD_some, Nat.zero_add, Nat.add_zero, List.setIfInBounds_toArray, List.set_cons_zero, List.set_cons_succ, put_same, add_new, add_old, oneV, Value.cells, List.size_toArray, List.length_cons, List.length_nil, List.extract_toArray, List.extract_eq_take_drop, Nat.reduceAdd, Nat.reduceSub, Nat.reduceLeDiff, if_true, List.drop_zero, List.take_succ_cons, List.take_zero, List.drop_succ_cons, drew_heap, hcell]
      refine un_enter (enters Try.func11 (by kernel_rfl) (by kernel_rfl) _ _) (hr2.drop (by omega) x.txn _ fun v w3 T' hr3 _ _ _ _ _ => ?_)
      exact rest w3 T' _ (hr3.mono (by omega))
    · simp only [↓Bc_true, ↓Bc_false, ↓Gk_hit, ↓Gk_tf, ↓Gk_ft, ↓Gk_undef, ↓GH_hit, ↓GH_tf, ↓GH_ft, ↓un_nil, ↓uv_fieldAt, ↓uv_load1, ↓uv_loadN, ↓uu_store1, ↓uv_box, ↓uv_makeMap, ↓uv_eql, ↓uv_neq, ↓uv_lss, ↓uv_leq, ↓uv_gtr, ↓uv_geq, ↓uv_add, ↓uv_sub, ↓uv_not, ↓uv_pick, ↓uv_streq, ↓uv_strne, ↓uv_ptreq, ↓uv_ptrne, ↓uv_func, ↓uv_extract, ↓un_len, ↓uv_and, ↓uv_or, F3_s18, F3_s18_t, fld27_0, fld27_1, fld27_2, fld27_3, fld37_0, fld37_1, fld37_2, fld53_0, fld53_1, fld59_0, fld59_1, fld62_0, fld62_1, fld62_2, fld67_0, fld81_0, fld81_1, pln3, siz3, pln4, siz4, pln9, siz9, agg27, pln35, siz35, agg37, pln50, siz50, pln51, siz51, pln57, siz57, agg62, agg81, agg91, slc22, ptr24, slc29, slc32, slc38, ptr55, ptr56, slc57, slc68, cellIn_cells, frzIn_00, setIn_cells, cellsIn_cells, List.getElem?_toArray, List.getElem?_cons_zero, List.getElem?_cons_succ, Option.isSome_some, Option.getD_some, Nat.zero_add, Nat.add_zero, List.setIfInBounds_toArray, List.set_cons_zero, List.set_cons_succ, put_same, add_new, add_old, oneV, Value.cells, List.size_toArray, List.length_cons, List.length_nil, List.extract_toArray, List.extract_eq_take_drop, Nat.reduceAdd, Nat.reduceSub, Nat.reduceLeDiff, if_true, List.drop_zero, List.take_succ_cons, List.take_zero, List.drop_succ_cons, drew_heap, hcell]
      refine un_enter (enters Try.func10 (by kernel_rfl) (by kernel_rfl) _ _) (hr2.ask (by omega) x.txn x.res x.mode hxo.1 hxo.2 _ fun w3 T' hr3 _ _ _ => ?_)
      exact rest w3 T' _ hr3
  · have e1 : decide ((i : Int) < (ops.length : Int)) = false := by rw [decide_eq_false_iff_not]; omega
    simp only [e1, ↓Bc_true, ↓Bc_false, ↓Gk_hit, ↓Gk_tf, ↓Gk_ft, ↓Gk_undef, ↓GH_hit, ↓GH_tf, ↓GH_ft, ↓un_nil, ↓uv_fieldAt, ↓uv_load1, ↓uv_loadN, ↓uu_store1, ↓uv_box, ↓uv_makeMap, ↓uv_eql, ↓uv_neq, ↓uv_lss, ↓uv_leq, ↓uv_gtr, ↓uv_geq, ↓uv_add, ↓uv_sub, ↓uv_not, ↓uv_pick, ↓uv_streq, ↓uv_strne, ↓uv_ptreq, ↓uv_ptrne, ↓uv_func, ↓uv_extract, ↓un_len, ↓uv_and, ↓uv_or, F3_s7, F3_s7_t]
    exact h w1 hr.keep
end Go.Proofs.Ytpghlemcgjogpaa
