/- LocksStrong: the walk. -/
import Derived.Test.YtpghlemcgjogpaaDC
import Derived.Test.YtpghlemcgjogpaaFDF
set_option linter.unusedVariables false
set_option linter.unusedSimpArgs false
set_option linter.unnecessarySimpa false
set_option maxRecDepth 100000
namespace Go.Proofs.Ytpghlemcgjogpaa
open Go.Sx

theorem modeT_abs (T : Tab) (t : Int) (r : ByteArray) : modeT T t r = modeF T.abs t r := by
  unfold modeT modeF thF
  have e : pget T.abs.things r = (fndT T.things r).map fun x => (x.hv, x.q) := absT_get T.things r
  rw [e]
  cases fndT T.things r <;> rfl
/-- What was granted is held. -/
def Got (A : Abs) (got : List Lk) : Prop := ∀ l ∈ got, (1 ≤ l.mode ∧ l.mode ≤ 6) ∧ jn l.mode (modeF A l.txn l.res) = modeF A l.txn l.res
theorem Got.cv {S : List Int} {k : Nat} {A : Abs} {got : List Lk} (hi : Inv S k A) (h : Got A got) {l : Lk} (hl : l ∈ got) : cvB (modeF A l.txn l.res) l.mode = true := by
  obtain ⟨h1, h2⟩ := h l hl
  have h3 := hi.mode l.txn l.res
  have h4 : okM l.mode := ⟨by omega, h1.2⟩
  unfold cvB
  rw [decide_eq_true (p := 0 ≤ _ ∧ _ ≤ 6) h3, decide_eq_true (p := 0 ≤ l.mode ∧ l.mode ≤ 6) h4, jn_comm h3 h4, h2]
  simp
theorem Got.ask {S : List Int} {k : Nat} {A : Abs} {got : List Lk} (hi : Inv S k A) (h : Got A got) {t : Int} {r : ByteArray} {m : Int} : Got (ask A t r m).2 got := fun l hl => by
  obtain ⟨h1, h2⟩ := h l hl
  have h4 : okM l.mode := ⟨by omega, h1.2⟩
  have h5 := ask_cov hi (t := t) (r := r) (m := m) l.txn l.res
  exact ⟨h1, jn_trans h4 (hi.mode _ _) h5.1 h2 h5.2⟩
theorem Got.drop {S : List Int} {k : Nat} {A : Abs} {got : List Lk} (hi : Inv S k A) (h : Got A got) (t : Int) : Got (dropF A t).2 (got.filter fun l => l.txn != t) := fun l hl => by
  obtain ⟨hl, hne⟩ := List.mem_filter.1 hl
  obtain ⟨h1, h2⟩ := h l hl
  have h4 : okM l.mode := ⟨by omega, h1.2⟩
  have h5 := (drop_inv hi t).cov l.txn (by simpa using hne) l.res
  exact ⟨h1, jn_trans h4 (hi.mode _ _) h5.1 h2 h5.2⟩
theorem bslL0 (w : World) : (Instr.buildSlice 32 0 #[]).run Try.prog w = .ok (.slice (some ⟨w.heap.size, 0, none⟩) 0 0) (World.add w (.cells #[] 37)) := by kernel_rfl
/-- The check behind each call. -/
theorem strongCheck_c (T0 T : Tab) (w0 w : World) (S : List Int) (k i : Nat) (hr : Run T0 w0 w T S k) (v4 v18 v19 : Value) (got : List Lk) (hg : RowL w v4 got) (hgot : Got T.abs got) (R : Ending → World → Prop) (rec8 : Value → Value → World → Prop)
    (h : ∀ w', Keep0 w w' → F5_s12 R rec8 (ptr T0.bt) v4 v18 v19 (.int .i64 i) w') : F5_s15 R rec8 (ptr T0.bt) v4 v18 v19 (.int .i64 i) w := by
  have hbd := hg.bound
  have hmax2 : maxLen ≤ 9223372036854775807 := by decide
  simp only [F5_s15, F5_s15_t, un_lenR und32 hg, F5_s17]
  refine ⟨fun v71 w' => ∃ j : Nat, v71 = .int .i64 j ∧ j ≤ got.length ∧ Keep0 w w', fun v71 _ => match v71 with | .int _ j => got.length - j.toNat | _ => 0, ⟨0, rfl, by omega, Keep.refl _ w⟩, ?_⟩
  rintro v71 w1 ⟨j, rfl, hj, hk1⟩
  have hg1 := hg.keep hk1 (fun _ _ => id)
  simp only [F5_s18, F5_s18_t, ↓Bc_true, ↓Bc_false, ↓Gk_hit, ↓Gk_tf, ↓Gk_ft, ↓Gk_undef, ↓GH_hit, ↓GH_tf, ↓GH_ft, ↓un_nil, ↓uv_fieldAt, ↓uv_load1, ↓uv_loadN, ↓uu_store1, ↓uv_box, ↓uv_makeMap, ↓uv_eql, ↓uv_neq, ↓uv_lss, ↓uv_leq, ↓uv_gtr, ↓uv_geq, ↓uv_add, ↓uv_sub, ↓uv_not, ↓uv_pick, ↓uv_streq, ↓uv_strne, ↓uv_ptreq, ↓uv_ptrne, ↓uv_func, ↓uv_extract, ↓un_len, ↓uv_and, ↓uv_or, F5_s19]
  by_cases hlt : j < got.length
  · have e1 : decide ((j : Int) < (got.length : Int)) = true := by rw [decide_eq_true_eq]; omega
    have e4 : IntKind.i64.wrap ((j : Int) + 1) = ((j + 1 : Nat) : Int) := by rw [wrap_id (by omega) (by omega)]; omega
    obtain ⟨y, hy⟩ : ∃ y, got[j]? = some y := ⟨got[j], List.getElem?_eq_getElem hlt⟩
    obtain ⟨g, o, hgb, hgl, ix, cl⟩ := RowL.read hg1 hy
    simp only [e1, ↓Bc_true, ↓Bc_false, ↓Gk_hit, ↓Gk_tf, ↓Gk_ft, ↓Gk_undef, ↓GH_hit, ↓GH_tf, ↓GH_ft, ↓un_nil, ↓uv_fieldAt, ↓uv_load1, ↓uv_loadN, ↓uu_store1, ↓uv_box, ↓uv_makeMap, ↓uv_eql, ↓uv_neq, ↓uv_lss, ↓uv_leq, ↓uv_gtr, ↓uv_geq, ↓uv_add, ↓uv_sub, ↓uv_not, ↓uv_pick, ↓uv_streq, ↓uv_strne, ↓uv_ptreq, ↓uv_ptrne, ↓uv_func, ↓uv_extract, ↓un_len, ↓uv_and, ↓uv_or, F5_s22, F5_s22_t, uv_eq (ix _), fld27_0, fld27_1, fld27_2, fld27_3, fld37_0, fld37_1, fld37_2, fld53_0, fld53_1, fld59_0, fld59_1, fld62_0, fld62_1, fld62_2, fld67_0, fld81_0, fld81_1, pln3, siz3, pln4, siz4, pln9, siz9, agg27, pln35, siz35, agg37, pln50, siz50, pln51, siz51, pln57, siz57, agg62, agg81, agg91, slc22, ptr24, slc29, slc32, slc38, ptr55, ptr56, slc57, slc68, cellIn_cells, frzIn_00, setIn_cells, cellsIn_cells, List.getElem?_toArray, List.getElem?_cons_zero, List.getElem?_cons_succ, Option.isSome_some, Option.getD_some, Nat.zero_add, Nat.add_zero, List.setIfInBounds_toArray, List.set_cons_zero, List.set_cons_succ, put_same, add_new, add_old, oneV, Value.cells, List.size_toArray, List.length_cons, List.length_nil, List.extract_toArray, List.extract_eq_take_drop, Nat.reduceAdd, Nat.reduceSub, Nat.reduceLeDiff, if_true, List.drop_zero, List.take_succ_cons, List.take_zero, List.drop_succ_cons, drew_heap, cl]
    rw [uv_allocS (vs := y.cells) zer37 siz37 rfl rfl (by intro u hu; exact lcells_one [y] u (by simpa [lcells] using hu))]
    have hkb : Keep0 w1 (World.add w1 (.cells y.cells.toArray 37)) := (Keep.refl _ w1).add
    have hbox : (World.add w1 (.cells y.cells.toArray 37)).heap[w1.heap.size]? = some (.cells y.cells.toArray 37 (0, 0)) := add_new
    generalize World.add w1 (.cells y.cells.toArray 37) = w2 at hkb hbox ⊢
    have hlt2 := lt_of_at hbox
    have hr2 := (hr.keep0 hk1).keep0 hkb
    have at' : ∀ {w' : World}, Keep0 w2 w' → w'.heap[w1.heap.size]? = some (.cells y.cells.toArray 37 (0, 0)) := fun hk => by rw [hk.keep _ hlt2 id]; exact hbox
    refine ⟨fun w' => Keep0 w2 w', (Keep.refl _ w2).drew, ?_⟩
    refine HV_field (off := 0) (by kernel_rfl) (HV_load1 (v := .int .i64 y.txn) (by kernel_rfl) (fun w' hw => by rw [at' hw]; rfl) (HV_field (off := 1) (by kernel_rfl) (HV_load1 (v := .string y.res) (by kernel_rfl) (fun w' hw => by rw [at' hw]; rfl) (HV_field (off := 2) (by kernel_rfl) (HV_load1 (v := .int .i64 y.mode) (by kernel_rfl) (fun w' hw => by rw [at' hw]; rfl) ?_)))))
    have hrd := hr2.keep0 (w' := w2.drew) (Keep.refl _ w2).drew
    rw [← hrd.bt]
    refine un_enter (enters Try.func16 (by kernel_rfl) (by kernel_rfl) _ _) (mode_c T y.txn y.res w2.drew hrd.tab _ ⟨(Keep.refl _ w2).drew, ?_⟩)
    refine un_enter (enters Try.func15 (by kernel_rfl) (by kernel_rfl) _ _) (rCovers_c _ _ _ _ fun w3 hk3 => ?_)
    have hk23 : Keep0 w2 w3 := ((Keep.refl (fun _ => False) w2).drew).trans hk3 (fun _ _ h => h)
    refine ⟨hk23, HV_of (fun w' _ => run_not) ?_⟩
    rw [modeT_abs, hgot.cv hr.inv (List.mem_of_getElem? hy)]
    simp only [Bool.not_true, F5_s23, ↓Bc_true, ↓Bc_false, ↓Gk_hit, ↓Gk_tf, ↓Gk_ft, ↓Gk_undef, ↓GH_hit, ↓GH_tf, ↓GH_ft, ↓un_nil, ↓uv_fieldAt, ↓uv_load1, ↓uv_loadN, ↓uu_store1, ↓uv_box, ↓uv_makeMap, ↓uv_eql, ↓uv_neq, ↓uv_lss, ↓uv_leq, ↓uv_gtr, ↓uv_geq, ↓uv_add, ↓uv_sub, ↓uv_not, ↓uv_pick, ↓uv_streq, ↓uv_strne, ↓uv_ptreq, ↓uv_ptrne, ↓uv_func, ↓uv_extract, ↓un_len, ↓uv_and, ↓uv_or, F5_s21, F5_s21_t, e4]
    exact ⟨⟨j + 1, rfl, by omega, (hk1.trans hkb (fun _ _ h => h)).trans hk23 (fun _ _ h => h)⟩, by simp; omega⟩
  · have e1 : decide ((j : Int) < (got.length : Int)) = false := by rw [decide_eq_false_iff_not]; omega
    simp only [e1, ↓Bc_true, ↓Bc_false, ↓Gk_hit, ↓Gk_tf, ↓Gk_ft, ↓Gk_undef, ↓GH_hit, ↓GH_tf, ↓GH_ft, ↓un_nil, ↓uv_fieldAt, ↓uv_load1, ↓uv_loadN, ↓uu_store1, ↓uv_box, ↓uv_makeMap, ↓uv_eql, ↓uv_neq, ↓uv_lss, ↓uv_leq, ↓uv_gtr, ↓uv_geq, ↓uv_add, ↓uv_sub, ↓uv_not, ↓uv_pick, ↓uv_streq, ↓uv_strne, ↓uv_ptreq, ↓uv_ptrne, ↓uv_func, ↓uv_extract, ↓un_len, ↓uv_and, ↓uv_or]
    exact h w1 hk1
/-- What is left of what was granted. -/
theorem strongLeft_c (w : World) (t : Int) (v3 v4 v18 v19 v20 : Value) (b : Nat) (k m : Int) (r : ByteArray) (hb : w.heap[b]? = some (.cells #[.int .i64 k, .int .i64 t, .int .i64 m, .string r] 27 (0, 0))) (got : List Lk) (hg : RowL w v4 got) (hgl : got.length ≤ 1048576) (R : Ending → World → Prop) (rec8 : Value → Value → World → Prop)
    (h : ∀ v7 w', RowL w' v7 (got.filter fun l => l.txn != t) → (∀ g, rowB v7 = some g → w.heap.size ≤ g) → Keep0 w w' → F5_s27 R rec8 v3 (ptr b) v7 v18 v19 v20 w') : F5_s25 R rec8 v3 v4 (ptr b) v18 v19 v20 w := by
  have hbl := lt_of_at hb
  simp only [F5_s25, F5_s25_t, uv_eq (bslL0 _)]
  have hka : Keep0 w (World.add w (.cells #[] 37)) := (Keep.refl _ w).add
  have hr0 : RowL (World.add w (.cells #[] 37)) (.slice (some ⟨w.heap.size, 0, none⟩) 0 0) [] := Row.fresh (cs := []) rfl (by decide)
  generalize World.add w (.cells #[] 37) = wa at hka hr0
  simp only [un_lenR und32 (hg.keep hka (fun _ _ => id)), F5_s28]
  refine ⟨fun v7 v31 w' => ∃ j : Nat, v31 = .int .i64 j ∧ j ≤ got.length ∧ RowL w' v7 ((got.take j).filter fun l => l.txn != t) ∧ (∀ g, rowB v7 = some g → w.heap.size ≤ g) ∧ Keep0 w w', fun _ v31 _ => match v31 with | .int _ j => got.length - j.toNat | _ => 0,
    ⟨0, rfl, by omega, hr0, fun g hg => ?_, hka⟩, ?_⟩
  · have e : w.heap.size = g := by simpa [rowB] using hg
    omega
  rintro v7 v31 w1 ⟨j, rfl, hj, hr1, hf1, hk1⟩
  have hg1 := hg.keep hk1 (fun _ _ => id)
  have hb1 := hk1.at hb id
  simp only [F5_s29, F5_s29_t, ↓Bc_true, ↓Bc_false, ↓Gk_hit, ↓Gk_tf, ↓Gk_ft, ↓Gk_undef, ↓GH_hit, ↓GH_tf, ↓GH_ft, ↓un_nil, ↓uv_fieldAt, ↓uv_load1, ↓uv_loadN, ↓uu_store1, ↓uv_box, ↓uv_makeMap, ↓uv_eql, ↓uv_neq, ↓uv_lss, ↓uv_leq, ↓uv_gtr, ↓uv_geq, ↓uv_add, ↓uv_sub, ↓uv_not, ↓uv_pick, ↓uv_streq, ↓uv_strne, ↓uv_ptreq, ↓uv_ptrne, ↓uv_func, ↓uv_extract, ↓un_len, ↓uv_and, ↓uv_or, F5_s30]
  by_cases hlt : j < got.length
  · have e1 : decide ((j : Int) < (got.length : Int)) = true := by rw [decide_eq_true_eq]; omega
    have e4 : IntKind.i64.wrap ((j : Int) + 1) = ((j + 1 : Nat) : Int) := by rw [wrap_id (by omega) (by omega)]; omega
    obtain ⟨y, hy⟩ : ∃ y, got[j]? = some y := ⟨got[j], List.getElem?_eq_getElem hlt⟩
    have htk : got.take (j + 1) = got.take j ++ [y] := by rw [List.take_add_one, hy]; rfl
    obtain ⟨g, o, hgb, hgl', ix, cl⟩ := RowL.read hg1 hy
    simp only [e1, ↓Bc_true, ↓Bc_false, ↓Gk_hit, ↓Gk_tf, ↓Gk_ft, ↓Gk_undef, ↓GH_hit, ↓GH_tf, ↓GH_ft, ↓un_nil, ↓uv_fieldAt, ↓uv_load1, ↓uv_loadN, ↓uu_store1, ↓uv_box, ↓uv_makeMap, ↓uv_eql, ↓uv_neq, ↓uv_lss, ↓uv_leq, ↓uv_gtr, ↓uv_geq, ↓uv_add, ↓uv_sub, ↓uv_not, ↓uv_pick, ↓uv_streq, ↓uv_strne, ↓uv_ptreq, ↓uv_ptrne, ↓uv_func, ↓uv_extract, ↓un_len, ↓uv_and, ↓uv_or, F5_s33, F5_s33_t, uv_eq (ix _), fld27_0, fld27_1, fld27_2, fld27_3, fld37_0, fld37_1, fld37_2, fld53_0, fld53_1, fld59_0, fld59_1, fld62_0, fld62_1, fld62_2, fld67_0, fld81_0, fld81_1, pln3, siz3, pln4, siz4, pln9, siz9, agg27, pln35, siz35, agg37, pln50, siz50, pln51, siz51, pln57, siz57, agg62, agg81, agg91, slc22, ptr24, slc29, slc32, slc38, ptr55, ptr56, slc57, slc68, cellIn_cells, frzIn_00, setIn_cells, cellsIn_cells, List.getElem?_toArray, List.getElem?_cons_zero, List.getElem?_cons_succ, Option.isSome_some, Option.getD_some, Nat.zero_add, Nat.add_zero, List.setIfInBounds_toArray, List.set_cons_zero, List.set_cons_succ, put_same, add_new, add_old, oneV, Value.cells, List.size_toArray, List.length_cons, List.length_nil, List.extract_toArray, List.extract_eq_take_drop, Nat.reduceAdd, Nat.reduceSub, Nat.reduceLeDiff, if_true, List.drop_zero, List.take_succ_cons, List.take_zero, List.drop_succ_cons, drew_heap, cl]
    rw [uv_allocS (vs := y.cells) zer37 siz37 rfl rfl (by intro u hu; exact lcells_one [y] u (by simpa [lcells] using hu))]
    have hkb : Keep0 w1 (World.add w1 (.cells y.cells.toArray 37)) := (Keep.refl _ w1).add
    have hbox : (World.add w1 (.cells y.cells.toArray 37)).heap[w1.heap.size]? = some (.cells y.cells.toArray 37 (0, 0)) := add_new
    generalize World.add w1 (.cells y.cells.toArray 37) = w2 at hkb hbox ⊢
    have hb2 := hkb.at hb1 id
    have hr2 := hr1.keep hkb (fun _ _ => id)
    have hk2 : Keep0 w w2 := hk1.trans hkb (fun _ _ h => h)
    have hbox' := hbox
    simp only [Lk.cells] at hbox'
    simp only [hbox', hb2, ↓Bc_true, ↓Bc_false, ↓Gk_hit, ↓Gk_tf, ↓Gk_ft, ↓Gk_undef, ↓GH_hit, ↓GH_tf, ↓GH_ft, ↓un_nil, ↓uv_fieldAt, ↓uv_load1, ↓uv_loadN, ↓uu_store1, ↓uv_box, ↓uv_makeMap, ↓uv_eql, ↓uv_neq, ↓uv_lss, ↓uv_leq, ↓uv_gtr, ↓uv_geq, ↓uv_add, ↓uv_sub, ↓uv_not, ↓uv_pick, ↓uv_streq, ↓uv_strne, ↓uv_ptreq, ↓uv_ptrne, ↓uv_func, ↓uv_extract, ↓un_len, ↓uv_and, ↓uv_or, fld27_0, fld27_1, fld27_2, fld27_3, fld37_0, fld37_1, fld37_2, fld53_0, fld53_1, fld59_0, fld59_1, fld62_0, fld62_1, fld62_2, fld67_0, fld81_0, fld81_1, pln3, siz3, pln4, siz4, pln9, siz9, agg27, pln35, siz35, agg37, pln50, siz50, pln51, siz51, pln57, siz57, agg62, agg81, agg91, slc22, ptr24, slc29, slc32, slc38, ptr55, ptr56, slc57, slc68, cellIn_cells, frzIn_00, setIn_cells, cellsIn_cells, List.getElem?_toArray, List.getElem?_cons_zero, List.getElem?_cons_succ, Option.isSome_some, Option.getD_some, Nat.zero_add, Nat.add_zero, List.setIfInBounds_toArray, List.set_cons_zero, List.set_cons_succ, put_same, add_new, add_old, oneV, Value.cells, List.size_toArray, List.length_cons, List.length_nil, List.extract_toArray, List.extract_eq_take_drop, Nat.reduceAdd, Nat.reduceSub, Nat.reduceLeDiff, if_true, List.drop_zero, List.take_succ_cons, List.take_zero, List.drop_succ_cons, drew_heap, F5_s34]
    have hfl := List.length_filter_le (fun l : Lk => l.txn != t) (got.take j)
    rw [List.length_take] at hfl
    cases hyt : (y.txn != t)
    · simp only [↓Bc_true, ↓Bc_false, ↓Gk_hit, ↓Gk_tf, ↓Gk_ft, ↓Gk_undef, ↓GH_hit, ↓GH_tf, ↓GH_ft, ↓un_nil, ↓uv_fieldAt, ↓uv_load1, ↓uv_loadN, ↓uu_store1, ↓uv_box, ↓uv_makeMap, ↓uv_eql, ↓uv_neq, ↓uv_lss, ↓uv_leq, ↓uv_gtr, ↓uv_geq, ↓uv_add, ↓uv_sub, ↓uv_not, ↓uv_pick, ↓uv_streq, ↓uv_strne, ↓uv_ptreq, ↓uv_ptrne, ↓uv_func, ↓uv_extract, ↓un_len, ↓uv_and, ↓uv_or, F5_s32, F5_s32_t, e4]
      refine ⟨⟨j + 1, rfl, by omega, ?_, hf1, hk2⟩, by simp; omega⟩
      rw [htk, List.filter_append]
      simpa [hyt] using hr2
    · simp only [↓Bc_true, ↓Bc_false, ↓Gk_hit, ↓Gk_tf, ↓Gk_ft, ↓Gk_undef, ↓GH_hit, ↓GH_tf, ↓GH_ft, ↓un_nil, ↓uv_fieldAt, ↓uv_load1, ↓uv_loadN, ↓uu_store1, ↓uv_box, ↓uv_makeMap, ↓uv_eql, ↓uv_neq, ↓uv_lss, ↓uv_leq, ↓uv_gtr, ↓uv_geq, ↓uv_add, ↓uv_sub, ↓uv_not, ↓uv_pick, ↓uv_streq, ↓uv_strne, ↓uv_ptreq, ↓uv_ptrne, ↓uv_func, ↓uv_extract, ↓un_len, ↓uv_and, ↓uv_or, F5_s35, F5_s35_t, hbox', fld27_0, fld27_1, fld27_2, fld27_3, fld37_0, fld37_1, fld37_2, fld53_0, fld53_1, fld59_0, fld59_1, fld62_0, fld62_1, fld62_2, fld67_0, fld81_0, fld81_1, pln3, siz3, pln4, siz4, pln9, siz9, agg27, pln35, siz35, agg37, pln50, siz50, pln51, siz51, pln57, siz57, agg62, agg81, agg91, slc22, ptr24, slc29, slc32, slc38, ptr55, ptr56, slc57, slc68, cellIn_cells, frzIn_00, setIn_cells, cellsIn_cells, List.getElem?_toArray, List.getElem?_cons_zero, List.getElem?_cons_succ, Option.isSome_some, Option.getD_some, Nat.zero_add, Nat.add_zero, List.setIfInBounds_toArray, List.set_cons_zero, List.set_cons_succ, put_same, add_new, add_old, oneV, Value.cells, List.size_toArray, List.length_cons, List.length_nil, List.extract_toArray, List.extract_eq_take_drop, Nat.reduceAdd, Nat.reduceSub, Nat.reduceLeDiff, if_true, List.drop_zero, List.take_succ_cons, List.take_zero, List.drop_succ_cons, drew_heap]
      have hs2 := hk2.size
      refine un_appL (x := y) hr2 (by omega) hf1 hs2 fun v' w3 hr3 hf3 hk3 => ?_
      simp only [↓Bc_true, ↓Bc_false, ↓Gk_hit, ↓Gk_tf, ↓Gk_ft, ↓Gk_undef, ↓GH_hit, ↓GH_tf, ↓GH_ft, ↓un_nil, ↓uv_fieldAt, ↓uv_load1, ↓uv_loadN, ↓uu_store1, ↓uv_box, ↓uv_makeMap, ↓uv_eql, ↓uv_neq, ↓uv_lss, ↓uv_leq, ↓uv_gtr, ↓uv_geq, ↓uv_add, ↓uv_sub, ↓uv_not, ↓uv_pick, ↓uv_streq, ↓uv_strne, ↓uv_ptreq, ↓uv_ptrne, ↓uv_func, ↓uv_extract, ↓un_len, ↓uv_and, ↓uv_or, F5_s32, F5_s32_t, e4]
      refine ⟨⟨j + 1, rfl, by omega, ?_, hf3, hk2.trans hk3 (fun b hb hx => by omega)⟩, by simp; omega⟩
      rw [htk, List.filter_append]
      simpa [hyt] using hr3
  · have e1 : decide ((j : Int) < (got.length : Int)) = false := by rw [decide_eq_false_iff_not]; omega
    simp only [e1, ↓Bc_true, ↓Bc_false, ↓Gk_hit, ↓Gk_tf, ↓Gk_ft, ↓Gk_undef, ↓GH_hit, ↓GH_tf, ↓GH_ft, ↓un_nil, ↓uv_fieldAt, ↓uv_load1, ↓uv_loadN, ↓uu_store1, ↓uv_box, ↓uv_makeMap, ↓uv_eql, ↓uv_neq, ↓uv_lss, ↓uv_leq, ↓uv_gtr, ↓uv_geq, ↓uv_add, ↓uv_sub, ↓uv_not, ↓uv_pick, ↓uv_streq, ↓uv_strne, ↓uv_ptreq, ↓uv_ptrne, ↓uv_func, ↓uv_extract, ↓un_len, ↓uv_and, ↓uv_or]
    have hjl : j = got.length := by omega
    rw [hjl, List.take_length] at hr1
    exact h v7 w1 hr1 hf1 hk1
theorem locksStrong_c (v0 : Value) (ops : List Op) (w : World) (ha : ArgO w v0 ops) (hn : ops.length ≤ 1048575) (hwf : ∀ o ∈ ops, o.ok) (R : Ending → World → Prop)
    (h : ∀ w', Keep0 w w' → R (.returned (.bool true)) w') : Calls Try.prog 5 #[v0] w R := by
  apply F5_calls
  simp only [F5_s1, F5_s1_t]
  refine un_enter (enters Try.func8 (by kernel_rfl) (by kernel_rfl) _ _) (speaks_c w _ fun wa hka => ?_)
  simp only [↓Bc_true, ↓Bc_false, ↓Gk_hit, ↓Gk_tf, ↓Gk_ft, ↓Gk_undef, ↓GH_hit, ↓GH_tf, ↓GH_ft, ↓un_nil, ↓uv_fieldAt, ↓uv_load1, ↓uv_loadN, ↓uu_store1, ↓uv_box, ↓uv_makeMap, ↓uv_eql, ↓uv_neq, ↓uv_lss, ↓uv_leq, ↓uv_gtr, ↓uv_geq, ↓uv_add, ↓uv_sub, ↓uv_not, ↓uv_pick, ↓uv_streq, ↓uv_strne, ↓uv_ptreq, ↓uv_ptrne, ↓uv_func, ↓uv_extract, ↓un_len, ↓uv_and, ↓uv_or, Bool.not_true, F5_s2, F5_s3, F5_s3_t]
  refine un_enter (enters Try.func9 (by kernel_rfl) (by kernel_rfl) _ _) (new_c wa _ fun wb ht hkb => ?_)
  generalize hT : ({ bt := wa.heap.size + 2, bT := wa.heap.size, bW := wa.heap.size + 1, things := [], waits := [] } : Tab) = T0 at ht
  have hbt : T0.bt = wa.heap.size + 2 := by rw [← hT]
  have hsa := hka.size
  have hrun : Run T0 w wb T0 [] 0 := by
    refine ⟨ht, rfl, by rw [← hT]; exact Inv.empty, Nat.le_refl _, ?_, hka.trans hkb (fun _ _ h => h)⟩
    rw [← hT]
    rintro b (rfl | rfl | rfl | ⟨p, hp, _⟩ | ⟨p, hp, _⟩)
    · show w.heap.size ≤ wa.heap.size + 2; omega
    · exact hsa
    · show w.heap.size ≤ wa.heap.size + 1; omega
    · cases hp
    · cases hp
  rw [← hbt]
  simp only [↓Bc_true, ↓Bc_false, ↓Gk_hit, ↓Gk_tf, ↓Gk_ft, ↓Gk_undef, ↓GH_hit, ↓GH_tf, ↓GH_ft, ↓un_nil, ↓uv_fieldAt, ↓uv_load1, ↓uv_loadN, ↓uu_store1, ↓uv_box, ↓uv_makeMap, ↓uv_eql, ↓uv_neq, ↓uv_lss, ↓uv_leq, ↓uv_gtr, ↓uv_geq, ↓uv_add, ↓uv_sub, ↓uv_not, ↓uv_pick, ↓uv_streq, ↓uv_strne, ↓uv_ptreq, ↓uv_ptrne, ↓uv_func, ↓uv_extract, ↓un_len, ↓uv_and, ↓uv_or, fld27_0, fld27_1, fld27_2, fld27_3, fld37_0, fld37_1, fld37_2, fld53_0, fld53_1, fld59_0, fld59_1, fld62_0, fld62_1, fld62_2, fld67_0, fld81_0, fld81_1, pln3, siz3, pln4, siz4, pln9, siz9, agg27, pln35, siz35, agg37, pln50, siz50, pln51, siz51, pln57, siz57, agg62, agg81, agg91, slc22, ptr24, slc29, slc32, slc38, ptr55, ptr56, slc57, slc68, Option.isNone_some, F5_s4, F5_s5, F5_s5_t, uv_eq (bslL0 _)]
  have hlt0 := fun b hb => ht.lt (T := T0) (b := b) hb
  have hkc : Keep0 wb (World.add wb (.cells #[] 37)) := (Keep.refl _ wb).add
  have hr0 : RowL (World.add wb (.cells #[] 37)) (.slice (some ⟨wb.heap.size, 0, none⟩) 0 0) [] := Row.fresh (cs := []) rfl (by decide)
  generalize World.add wb (.cells #[] 37) = wc at hkc hr0
  have hrun' := hrun.keep0 hkc
  have hsb := hrun.keep.size
  simp only [ha.len, F5_s8]
  refine ⟨fun v4 v20 w' => ∃ (i : Nat) (T : Tab) (S : List Int) (got : List Lk), v20 = .int .i64 i ∧ i ≤ ops.length ∧ Run T0 w w' T S i ∧ RowL w' v4 got ∧ got.length ≤ i ∧ Got T.abs got ∧ (∀ g, rowB v4 = some g → ¬ T.foot g ∧ w.heap.size ≤ g),
    fun _ v20 _ => match v20 with | .int _ i => ops.length - i.toNat | _ => 0, ⟨0, T0, [], [], rfl, by omega, hrun', hr0, by simp, (fun l hl => by cases hl), fun g hg => ?_⟩, ?_⟩
  · have e : wb.heap.size = g := by simpa [rowB] using hg
    exact ⟨fun hf => by have := hlt0 g hf; omega, by omega⟩
  rintro v4 v20 w1 ⟨i, T, S, got, rfl, hi, hr, hg, hgl, hgot, hsep⟩
  simp only [F5_s9, F5_s9_t, ↓Bc_true, ↓Bc_false, ↓Gk_hit, ↓Gk_tf, ↓Gk_ft, ↓Gk_undef, ↓GH_hit, ↓GH_tf, ↓GH_ft, ↓un_nil, ↓uv_fieldAt, ↓uv_load1, ↓uv_loadN, ↓uu_store1, ↓uv_box, ↓uv_makeMap, ↓uv_eql, ↓uv_neq, ↓uv_lss, ↓uv_leq, ↓uv_gtr, ↓uv_geq, ↓uv_add, ↓uv_sub, ↓uv_not, ↓uv_pick, ↓uv_streq, ↓uv_strne, ↓uv_ptreq, ↓uv_ptrne, ↓uv_func, ↓uv_extract, ↓un_len, ↓uv_and, ↓uv_or, F5_s10]
  by_cases hlt : i < ops.length
  · have e1 : decide ((i : Int) < (ops.length : Int)) = true := by rw [decide_eq_true_eq]; omega
    have e4 : IntKind.i64.wrap ((i : Int) + 1) = ((i + 1 : Nat) : Int) := by rw [wrap_id (by omega) (by omega)]; omega
    obtain ⟨x, hx⟩ : ∃ x, ops[i]? = some x := ⟨ops[i], List.getElem?_eq_getElem hlt⟩
    have hxo := hwf x (List.mem_of_getElem? hx)
    have rest : ∀ w3 v4' T' S' got', Run T0 w w3 T' S' (i + 1) → RowL w3 v4' got' → got'.length ≤ i + 1 → Got T'.abs got' → (∀ g, rowB v4' = some g → ¬ T'.foot g ∧ w.heap.size ≤ g) →
        F5_s15 R (fun y0 y1 w' => (∃ (i : Nat) (T : Tab) (S : List Int) (got : List Lk), y1 = .int .i64 i ∧ i ≤ ops.length ∧ Run T0 w w' T S i ∧ RowL w' y0 got ∧ got.length ≤ i ∧ Got T.abs got ∧ (∀ g, rowB y0 = some g → ¬ T.foot g ∧ w.heap.size ≤ g)) ∧
          (match y1 with | .int _ i => ops.length - i.toNat | _ => 0) < (match (Value.int .i64 i) with | .int _ i => ops.length - i.toNat | _ => 0)) (ptr T0.bt) v4' v0 (.int .i64 ops.length) (.int .i64 i) w3 := by
      intro w3 v4' T' S' got' hr3 hg3 hgl3 hgot3 hsep3
      refine strongCheck_c T0 T' w w3 S' (i + 1) i hr3 v4' _ _ got' hg3 hgot3 R _ fun w4 hk4 => ?_
      simp only [F5_s12, F5_s12_t, ↓Bc_true, ↓Bc_false, ↓Gk_hit, ↓Gk_tf, ↓Gk_ft, ↓Gk_undef, ↓GH_hit, ↓GH_tf, ↓GH_ft, ↓un_nil, ↓uv_fieldAt, ↓uv_load1, ↓uv_loadN, ↓uu_store1, ↓uv_box, ↓uv_makeMap, ↓uv_eql, ↓uv_neq, ↓uv_lss, ↓uv_leq, ↓uv_gtr, ↓uv_geq, ↓uv_add, ↓uv_sub, ↓uv_not, ↓uv_pick, ↓uv_streq, ↓uv_strne, ↓uv_ptreq, ↓uv_ptrne, ↓uv_func, ↓uv_extract, ↓un_len, ↓uv_and, ↓uv_or, e4]
      exact ⟨⟨i + 1, T', S', got', rfl, by omega, hr3.keep0 hk4, hg3.keep hk4 (fun _ _ => id), hgl3, hgot3, hsep3⟩, by simp; omega⟩
    simp only [e1, ↓Bc_true, ↓Bc_false, ↓Gk_hit, ↓Gk_tf, ↓Gk_ft, ↓Gk_undef, ↓GH_hit, ↓GH_tf, ↓GH_ft, ↓un_nil, ↓uv_fieldAt, ↓uv_load1, ↓uv_loadN, ↓uu_store1, ↓uv_box, ↓uv_makeMap, ↓uv_eql, ↓uv_neq, ↓uv_lss, ↓uv_leq, ↓uv_gtr, ↓uv_geq, ↓uv_add, ↓uv_sub, ↓uv_not, ↓uv_pick, ↓uv_streq, ↓uv_strne, ↓uv_ptreq, ↓uv_ptrne, ↓uv_func, ↓uv_extract, ↓un_len, ↓uv_and, ↓uv_or, F5_s13, F5_s13_t]
    refine (ha.keep hr.keep).box hx fun b w2 hkb2 hb hcell => ?_
    have hr2 := hr.keep0 hkb2
    have hg2 := hg.keep hkb2 (fun _ _ => id)
    simp only [↓Bc_true, ↓Bc_false, ↓Gk_hit, ↓Gk_tf, ↓Gk_ft, ↓Gk_undef, ↓GH_hit, ↓GH_tf, ↓GH_ft, ↓un_nil, ↓uv_fieldAt, ↓uv_load1, ↓uv_loadN, ↓uu_store1, ↓uv_box, ↓uv_makeMap, ↓uv_eql, ↓uv_neq, ↓uv_lss, ↓uv_leq, ↓uv_gtr, ↓uv_geq, ↓uv_add, ↓uv_sub, ↓uv_not, ↓uv_pick, ↓uv_streq, ↓uv_strne, ↓uv_ptreq, ↓uv_ptrne, ↓uv_func, ↓uv_extract, ↓un_len, ↓uv_and, ↓uv_or, fld27_0, fld27_1, fld27_2, fld27_3, fld37_0, fld37_1, fld37_2, fld53_0, fld53_1, fld59_0, fld59_1, fld62_0, fld62_1, fld62_2, fld67_0, fld81_0, fld81_1, pln3, siz3, pln4, siz4, pln9, siz9, agg27, pln35, siz35, agg37, pln50, siz50, pln51, siz51, pln57, siz57, agg62, agg81, agg91, slc22, ptr24, slc29, slc32, slc38, ptr55, ptr56, slc57, slc68, cellIn_cells, frzIn_00, setIn_cells, cellsIn_cells, List.getElem?_toArray, List.getElem?_cons_zero, List.getElem?_cons_succ, Option.isSome_some, Option.getD_some, Nat.zero_add, Nat.add_zero, List.setIfInBounds_toArray, List.set_cons_zero, List.set_cons_succ, put_same, add_new, add_old, oneV, Value.cells, List.size_toArray, List.length_cons, List.length_nil, List.extract_toArray, List.extract_eq_take_drop, Nat.reduceAdd, Nat.reduceSub, Nat.reduceLeDiff, if_true, List.drop_zero, List.take_succ_cons, List.take_zero, List.drop_succ_cons, drew_heap, hcell, F5_s14]
    cases hc : (band x.kind 3 == 3)
    · simp only [↓Bc_true, ↓Bc_false, ↓Gk_hit, ↓Gk_tf, ↓Gk_ft, ↓Gk_undef, ↓GH_hit, ↓GH_tf, ↓GH_ft, ↓un_nil, ↓uv_fieldAt, ↓uv_load1, ↓uv_loadN, ↓uu_store1, ↓uv_box, ↓uv_makeMap, ↓uv_eql, ↓uv_neq, ↓uv_lss, ↓uv_leq, ↓uv_gtr, ↓uv_geq, ↓uv_add, ↓uv_sub, ↓uv_not, ↓uv_pick, ↓uv_streq, ↓uv_strne, ↓uv_ptreq, ↓uv_ptrne, ↓uv_func, ↓uv_extract, ↓un_len, ↓uv_and, ↓uv_or, F5_s36, F5_s36_t, fld27_0, fld27_1, fld27_2, fld27_3, fld37_0, fld37_1, fld37_2, fld53_0, fld53_1, fld59_0, fld59_1, fld62_0, fld62_1, fld62_2, fld67_0, fld81_0, fld81_1, pln3, siz3, pln4, siz4, pln9, siz9, agg27, pln35, siz35, agg37, pln50, siz50, pln51, siz51, pln57, siz57, agg62, agg81, agg91, slc22, ptr24, slc29, slc32, slc38, ptr55, ptr56, slc57, slc68, cellIn_cells, frzIn_00, setIn_cells, cellsIn_cells, List.getElem?_toArray, List.getElem?_cons_zero, List.getElem?_cons_succ, Option.isSome_some, Option.getD_some, Nat.zero_add, Nat.add_zero, List.setIfInBounds_toArray, List.set_cons_zero, List.set_cons_succ, put_same, add_new, add_old, oneV, Value.cells, List.size_toArray, List.length_cons, List.length_nil, List.extract_toArray, List.extract_eq_take_drop, Nat.reduceAdd, Nat.reduceSub, Nat.reduceLeDiff, if_true, List.drop_zero, List.take_succ_cons, List.take_zero, List.drop_succ_cons, drew_heap, hcell]
      refine un_enter (enters Try.func10 (by kernel_rfl) (by kernel_rfl) _ _) (hr2.ask (by omega) x.txn x.res x.mode hxo.1 hxo.2 _ fun w3 T' hr3 ha3 hk3 hf3 => ?_)
      have hcell3 := hk3.at hcell (fun hf => by have := hr.tab.lt hf; omega)
      have hg3 : RowL w3 v4 got := hg2.keep hk3 (fun g hg hf => (hsep g hg).1 hf)
      have hsep3 : ∀ g, rowB v4 = some g → ¬ T'.foot g ∧ w.heap.size ≤ g := fun g hgv => ⟨fun hf => (hf3 g hf).elim (hsep g hgv).1 (fun hh => by have := hg2.lt hgv; omega), (hsep g hgv).2⟩
      have hgot3 : Got T'.abs got := by rw [ha3]; exact hgot.ask hr.inv
      simp only [↓Bc_true, ↓Bc_false, ↓Gk_hit, ↓Gk_tf, ↓Gk_ft, ↓Gk_undef, ↓GH_hit, ↓GH_tf, ↓GH_ft, ↓un_nil, ↓uv_fieldAt, ↓uv_load1, ↓uv_loadN, ↓uu_store1, ↓uv_box, ↓uv_makeMap, ↓uv_eql, ↓uv_neq, ↓uv_lss, ↓uv_leq, ↓uv_gtr, ↓uv_geq, ↓uv_add, ↓uv_sub, ↓uv_not, ↓uv_pick, ↓uv_streq, ↓uv_strne, ↓uv_ptreq, ↓uv_ptrne, ↓uv_func, ↓uv_extract, ↓un_len, ↓uv_and, ↓uv_or, F5_s37]
      cases hgr : ((ask T.abs x.txn x.res x.mode).1 == 1)
      · simp only [↓Bc_true, ↓Bc_false, ↓Gk_hit, ↓Gk_tf, ↓Gk_ft, ↓Gk_undef, ↓GH_hit, ↓GH_tf, ↓GH_ft, ↓un_nil, ↓uv_fieldAt, ↓uv_load1, ↓uv_loadN, ↓uu_store1, ↓uv_box, ↓uv_makeMap, ↓uv_eql, ↓uv_neq, ↓uv_lss, ↓uv_leq, ↓uv_gtr, ↓uv_geq, ↓uv_add, ↓uv_sub, ↓uv_not, ↓uv_pick, ↓uv_streq, ↓uv_strne, ↓uv_ptreq, ↓uv_ptrne, ↓uv_func, ↓uv_extract, ↓un_len, ↓uv_and, ↓uv_or]
        exact rest w3 v4 T' _ got hr3 hg3 (by omega) hgot3 hsep3
      · have hgr' : (ask T.abs x.txn x.res x.mode).1 = 1 := by simpa using hgr
        have hgt := ask_got hr.inv hgr'
        simp only [↓Bc_true, ↓Bc_false, ↓Gk_hit, ↓Gk_tf, ↓Gk_ft, ↓Gk_undef, ↓GH_hit, ↓GH_tf, ↓GH_ft, ↓un_nil, ↓uv_fieldAt, ↓uv_load1, ↓uv_loadN, ↓uu_store1, ↓uv_box, ↓uv_makeMap, ↓uv_eql, ↓uv_neq, ↓uv_lss, ↓uv_leq, ↓uv_gtr, ↓uv_geq, ↓uv_add, ↓uv_sub, ↓uv_not, ↓uv_pick, ↓uv_streq, ↓uv_strne, ↓uv_ptreq, ↓uv_ptrne, ↓uv_func, ↓uv_extract, ↓un_len, ↓uv_and, ↓uv_or, F5_s38, F5_s38_t, fld27_0, fld27_1, fld27_2, fld27_3, fld37_0, fld37_1, fld37_2, fld53_0, fld53_1, fld59_0, fld59_1, fld62_0, fld62_1, fld62_2, fld67_0, fld81_0, fld81_1, pln3, siz3, pln4, siz4, pln9, siz9, agg27, pln35, siz35, agg37, pln50, siz50, pln51, siz51, pln57, siz57, agg62, agg81, agg91, slc22, ptr24, slc29, slc32, slc38, ptr55, ptr56, slc57, slc68, cellIn_cells, frzIn_00, setIn_cells, cellsIn_cells, List.getElem?_toArray, List.getElem?_cons_zero, List.getElem?_cons_succ, Option.isSome_some, Option.getD_some, Nat.zero_add, Nat.add_zero, List.setIfInBounds_toArray, List.set_cons_zero, List.set_cons_succ, put_same, add_new, add_old, oneV, Value.cells, List.size_toArray, List.length_cons, List.length_nil, List.extract_toArray, List.extract_eq_take_drop, Nat.reduceAdd, Nat.reduceSub, Nat.reduceLeDiff, if_true, List.drop_zero, List.take_succ_cons, List.take_zero, List.drop_succ_cons, drew_heap, hcell3, uv_eq (bldL _ _ _ _)]
        refine un_appL2 (x := ⟨x.txn, x.res, x.mode⟩) hg3 (by omega) fun v' w4 hg4 hf4 hk4 => ?_
        have hrk : TabAt w4 T' := hr3.tab.keep hk4 (fun b hb hv => (hsep3 b hv).1 hb)
        refine rest w4 v' T' _ (got ++ [⟨x.txn, x.res, x.mode⟩]) ⟨hrk, hr3.bt, hr3.inv, hr3.sl, hr3.foot, hr3.keep.trans hk4 (fun b hb hv => by have := (hsep3 b hv).2; omega)⟩ hg4 (by rw [List.length_append]; simp; omega) ?_ ?_
        · intro l hl
          rcases List.mem_append.1 hl with hl | hl
          · exact hgot3 l hl
          · obtain rfl : l = ⟨x.txn, x.res, x.mode⟩ := by simpa using hl
            rw [ha3]
            exact hgt
        · intro g hgv
          rcases hf4 with e | ⟨g', e, hg'⟩
          · rw [e] at hgv; exact hsep3 g hgv
          · rw [e] at hgv; cases hgv
            have := hr3.keep.size
            exact ⟨fun hf => by have := hr3.tab.lt hf; omega, by omega⟩
    · simp only [↓Bc_true, ↓Bc_false, ↓Gk_hit, ↓Gk_tf, ↓Gk_ft, ↓Gk_undef, ↓GH_hit, ↓GH_tf, ↓GH_ft, ↓un_nil, ↓uv_fieldAt, ↓uv_load1, ↓uv_loadN, ↓uu_store1, ↓uv_box, ↓uv_makeMap, ↓uv_eql, ↓uv_neq, ↓uv_lss, ↓uv_leq, ↓uv_gtr, ↓uv_geq, ↓uv_add, ↓uv_sub, ↓uv_not, ↓uv_pick, ↓uv_streq, ↓uv_strne, ↓uv_ptreq, ↓uv_ptrne, ↓uv_func, ↓uv_extract, ↓un_len, ↓uv_and, ↓uv_or]
      refine strongLeft_c w2 x.txn _ v4 _ _ _ b _ _ _ hcell got hg2 (by omega) R _ fun v7 w3 hg3 hf3 hk3 => ?_
      have hr3 := hr2.keep0 hk3
      have hcell3 := hk3.at hcell id
      simp only [F5_s27, F5_s27_t, ↓Bc_true, ↓Bc_false, ↓Gk_hit, ↓Gk_tf, ↓Gk_ft, ↓Gk_undef, ↓GH_hit, ↓GH_tf, ↓GH_ft, ↓un_nil, ↓uv_fieldAt, ↓uv_load1, ↓uv_loadN, ↓uu_store1, ↓uv_box, ↓uv_makeMap, ↓uv_eql, ↓uv_neq, ↓uv_lss, ↓uv_leq, ↓uv_gtr, ↓uv_geq, ↓uv_add, ↓uv_sub, ↓uv_not, ↓uv_pick, ↓uv_streq, ↓uv_strne, ↓uv_ptreq, ↓uv_ptrne, ↓uv_func, ↓uv_extract, ↓un_len, ↓uv_and, ↓uv_or, fld27_0, fld27_1, fld27_2, fld27_3, fld37_0, fld37_1, fld37_2, fld53_0, fld53_1, fld59_0, fld59_1, fld62_0, fld62_1, fld62_2, fld67_0, fld81_0, fld81_1, pln3, siz3, pln4, siz4, pln9, siz9, agg27, pln35, siz35, agg37, pln50, siz50, pln51, siz51, pln57, siz57, agg62, agg81, agg91, slc22, ptr24, slc29, slc32, slc38, ptr55, ptr56, slc57, slc68, cellIn_cells, frzIn_00, setIn_cells, cellsIn_cells, List.getElem?_toArray, List.getElem?_cons_zero, List.getElem?_cons_succ, Option.isSome_some, Option.getD_some, Nat.zero_add, Nat.add_zero, List.setIfInBounds_toArray, List.set_cons_zero, List.set_cons_succ, put_same, add_new, add_old, oneV, Value.cells, List.size_toArray, List.length_cons, List.length_nil, List.extract_toArray, List.extract_eq_take_drop, Nat.reduceAdd, Nat.reduceSub, Nat.reduceLeDiff, if_true, List.drop_zero, List.take_succ_cons, List.take_zero, List.drop_succ_cons, drew_heap, hcell3]
      refine un_enter (enters Try.func11 (by kernel_rfl) (by kernel_rfl) _ _) (hr3.drop (by omega) x.txn _ fun v w4 T' hr4 ha4 hk4 hf4 _ _ => ?_)
      have hfl := List.length_filter_le (fun l : Lk => l.txn != x.txn) got
      have hnf : ∀ g, rowB v7 = some g → ¬ T.foot g := fun g hg hf => by have := hf3 g hg; have := hr2.tab.lt hf; omega
      simp only [↓Bc_true, ↓Bc_false, ↓Gk_hit, ↓Gk_tf, ↓Gk_ft, ↓Gk_undef, ↓GH_hit, ↓GH_tf, ↓GH_ft, ↓un_nil, ↓uv_fieldAt, ↓uv_load1, ↓uv_loadN, ↓uu_store1, ↓uv_box, ↓uv_makeMap, ↓uv_eql, ↓uv_neq, ↓uv_lss, ↓uv_leq, ↓uv_gtr, ↓uv_geq, ↓uv_add, ↓uv_sub, ↓uv_not, ↓uv_pick, ↓uv_streq, ↓uv_strne, ↓uv_ptreq, ↓uv_ptrne, ↓uv_func, ↓uv_extract, ↓un_len, ↓uv_and, ↓uv_or]
      refine rest w4 v7 T' _ _ (hr4.mono (by omega)) (hg3.keep hk4 (fun g hg hf => hnf g hg hf)) (by omega) (by rw [ha4]; exact hgot.drop hr.inv x.txn) fun g hg => ⟨fun hf => hnf g hg (hf4 g hf), ?_⟩
      have := hf3 g hg; have := hr2.keep.size; omega
  · have e1 : decide ((i : Int) < (ops.length : Int)) = false := by rw [decide_eq_false_iff_not]; omega
    simp only [e1, ↓Bc_true, ↓Bc_false, ↓Gk_hit, ↓Gk_tf, ↓Gk_ft, ↓Gk_undef, ↓GH_hit, ↓GH_tf, ↓GH_ft, ↓un_nil, ↓uv_fieldAt, ↓uv_load1, ↓uv_loadN, ↓uu_store1, ↓uv_box, ↓uv_makeMap, ↓uv_eql, ↓uv_neq, ↓uv_lss, ↓uv_leq, ↓uv_gtr, ↓uv_geq, ↓uv_add, ↓uv_sub, ↓uv_not, ↓uv_pick, ↓uv_streq, ↓uv_strne, ↓uv_ptreq, ↓uv_ptrne, ↓uv_func, ↓uv_extract, ↓un_len, ↓uv_and, ↓uv_or, F5_s7, F5_s7_t]
    exact h w1 hr.keep
end Go.Proofs.Ytpghlemcgjogpaa
