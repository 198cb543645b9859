/- LocksRow, the whole. -/
import Derived.Test.YtpghlemcgjogpaaCU
set_option linter.unusedVariables false
set_option linter.unusedSimpArgs false
set_option linter.unnecessarySimpa false
set_option maxRecDepth 100000
namespace Go.Proofs.Ytpghlemcgjogpaa
open Go.Sx

theorem ask_rowAll (t : Int) (l : List Int) (h : t ∉ l) : ask (rowA l) t sA 6 = (if l.length = 0 then 1 else 2, rowA (l ++ [t])) := by
  cases l with
  | nil => exact ask_row0 t
  | cons r l => rw [ask_row r t l h]; simp
theorem modeOf_set (M : List (Int × Int)) (x y c : Int) : modeOf (pset M x c) y = if x = y then c else modeOf M y := by
  unfold modeOf
  by_cases h : x = y
  · subst h; rw [if_pos rfl, pget_pset_same]; rfl
  · rw [if_neg h, pget_pset_ne h]
theorem row_map_ne {w : World} {e sz n : Nat} {v : Value} {xs : List Value} (h : Row w e sz v n xs) {l : List (Int × Value)} {mb : Nat} (hm : MapI undI (w.heap[mb]?) l) : rowB v ≠ some mb := fun hv => by
  obtain ⟨c, hc⟩ := row_block h hv
  obtain ⟨es, cl, he, _⟩ := hm
  rw [he] at hc; cases hc
theorem locksRow_c (v0 : Value) (order : List Int) (w : World) (ha : ArgI w v0 order) (hn : order.length ≤ 1048576) (hwf : ∀ t ∈ order, (Lit.int .i64 t).wf = true) (R : Ending → World → Prop)
    (h : ∀ w', Keep0 w w' → R (.returned (.bool true)) w') : Calls Try.prog 7 #[v0] w R := by
  apply F7_calls
  simp only [F7_s1, F7_s1_t]
  refine un_enter (enters Try.func8 (by kernel_rfl) (by kernel_rfl) _ _) (speaks_c w _ fun wa hka => ?_)
  simp only [↓Bc_true, ↓Bc_false, ↓Gk_hit, ↓Gk_tf, ↓Gk_ft, ↓Gk_undef, ↓GH_hit, ↓GH_tf, ↓GH_ft, ↓un_nil, ↓uv_fieldAt, ↓uv_load1, ↓uv_loadN, ↓uu_store1, ↓uv_box, ↓uv_makeMap, ↓uv_eql, ↓uv_neq, ↓uv_lss, ↓uv_leq, ↓uv_gtr, ↓uv_geq, ↓uv_add, ↓uv_sub, ↓uv_not, ↓uv_pick, ↓uv_streq, ↓uv_strne, ↓uv_ptreq, ↓uv_ptrne, ↓uv_func, ↓uv_extract, ↓un_len, ↓uv_and, ↓uv_or, Bool.not_true, F7_s2, F7_s3, F7_s3_t]
  refine un_enter (enters Try.func9 (by kernel_rfl) (by kernel_rfl) _ _) (new_c wa _ fun wb ht hkb => ?_)
  generalize hT : ({ bt := wa.heap.size + 2, bT := wa.heap.size, bW := wa.heap.size + 1, things := [], waits := [] } : Tab) = T at ht
  have hbt : T.bt = wa.heap.size + 2 := by rw [← hT]
  have habs : T.abs = rowA [] := by rw [← hT]; rfl
  have hfoot : ∀ b, T.foot b → wa.heap.size ≤ b := by
    rw [← hT]
    rintro b (rfl | rfl | rfl | ⟨p, hp, _⟩ | ⟨p, hp, _⟩)
    · exact Nat.le_add_right _ _
    · exact Nat.le_refl _
    · exact Nat.le_add_right _ _
    · cases hp
    · cases hp
  rw [← hbt]
  have hk0b : Keep0 w wb := hka.trans hkb (fun _ _ h => h)
  have hsa := hka.size
  simp only [↓Bc_true, ↓Bc_false, ↓Gk_hit, ↓Gk_tf, ↓Gk_ft, ↓Gk_undef, ↓GH_hit, ↓GH_tf, ↓GH_ft, ↓un_nil, ↓uv_fieldAt, ↓uv_load1, ↓uv_loadN, ↓uu_store1, ↓uv_box, ↓uv_makeMap, ↓uv_eql, ↓uv_neq, ↓uv_lss, ↓uv_leq, ↓uv_gtr, ↓uv_geq, ↓uv_add, ↓uv_sub, ↓uv_not, ↓uv_pick, ↓uv_streq, ↓uv_strne, ↓uv_ptreq, ↓uv_ptrne, ↓uv_func, ↓uv_extract, ↓un_len, ↓uv_and, ↓uv_or, fld27_0, fld27_1, fld27_2, fld27_3, fld37_0, fld37_1, fld37_2, fld53_0, fld53_1, fld59_0, fld59_1, fld62_0, fld62_1, fld62_2, fld67_0, fld81_0, fld81_1, pln3, siz3, pln4, siz4, pln9, siz9, agg27, pln35, siz35, agg37, pln50, siz50, pln51, siz51, pln57, siz57, agg62, agg81, agg91, slc22, ptr24, slc29, slc32, slc38, ptr55, ptr56, slc57, slc68, Option.isNone_some, F7_s4, F7_s5, F7_s5_t, uv_eq (bsl0 _), hadd_size]
  have hlt := fun b hb => ht.lt (T := T) (b := b) hb
  have hr1 : RowI (World.add wb (.cells #[] 3)) (.slice (some ⟨wb.heap.size, 0, none⟩) 0 0) [] := Row.fresh (cs := []) rfl (by decide)
  have hk1 : Keep0 wb (World.add (World.add wb (.cells #[] 3)) (.map #[] 0)) := ((Keep.refl _ wb).add).add
  have hr2 : RowI (World.add (World.add wb (.cells #[] 3)) (.map #[] 0)) (.slice (some ⟨wb.heap.size, 0, none⟩) 0 0) [] := hr1.keep ((Keep.refl (fun _ => False) _).add) (fun _ _ => id)
  have hm2 : MapI undI ((World.add (World.add wb (.cells #[] 3)) (.map #[] 0)).heap[wb.heap.size + 1]?) (hvV []) := by
    have h1 := add_new (w := World.add wb (.cells #[] 3)) (o := .map #[] 0)
    rw [hadd_size] at h1
    rw [h1]
    exact MapK.empty _
  have hs2 : (World.add (World.add wb (.cells #[] 3)) (.map #[] 0)).heap.size = wb.heap.size + 2 := by rw [hadd_size, hadd_size]
  generalize World.add (World.add wb (.cells #[] 3)) (.map #[] 0) = wc at *
  have hk0c : Keep0 w wc := hk0b.trans hk1 (fun _ _ h => h)
  have hsb := hk0b.size
  simp only [ha.len, F7_s18]
  refine ⟨fun v4 v21 w' => ∃ (i : Nat) (T' : Tab) (rl : List Int) (M : List (Int × Int)), v21 = .int .i64 i ∧ i ≤ order.length ∧ TabAt w' T' ∧ T'.bt = T.bt ∧ T'.abs = rowA rl ∧ RowI w' v4 rl ∧ MapI undI (w'.heap[wb.heap.size + 1]?) (hvV M) ∧ (∀ x, modeOf M x = ((order.take i).count x : Nat)) ∧ rl.Nodup ∧ (∀ x, x ∈ rl ↔ x ∈ order.take i) ∧ rl.length ≤ i ∧
      (∀ g, rowB v4 = some g → ¬ T'.foot g) ∧ ¬ T'.foot (wb.heap.size + 1) ∧ (∀ b, T'.foot b → w.heap.size ≤ b) ∧ (∀ g, rowB v4 = some g → w.heap.size ≤ g) ∧ Keep0 w w',
    fun _ v21 _ => match v21 with | .int _ i => order.length - i.toNat | _ => 0,
    ⟨0, T, [], [], rfl, by omega, ht.keep0 hk1, rfl, habs, hr2, hm2, fun x => by simp [modeOf, pget], by simp, by simp, by simp, fun g hg hf => ?_, fun hf => ?_, fun b hb => by have := hfoot b hb; omega, fun g hg => ?_, hk0c⟩, ?_⟩
  · have e : wb.heap.size = g := by simpa [rowB] using hg
    have := hlt g hf; omega
  · have := hlt _ hf; omega
  · have e : wb.heap.size = g := by simpa [rowB] using hg
    omega
  rintro v4 v21 w1 ⟨i, T1, rl, M, rfl, hi, ht1, hbt1, ha1, hr1', hm1, hM, hnd, hmem, hrl, hs1, hs1', hf1, hv1, hk1'⟩
  simp only [F7_s19, F7_s19_t, ↓Bc_true, ↓Bc_false, ↓Gk_hit, ↓Gk_tf, ↓Gk_ft, ↓Gk_undef, ↓GH_hit, ↓GH_tf, ↓GH_ft, ↓un_nil, ↓uv_fieldAt, ↓uv_load1, ↓uv_loadN, ↓uu_store1, ↓uv_box, ↓uv_makeMap, ↓uv_eql, ↓uv_neq, ↓uv_lss, ↓uv_leq, ↓uv_gtr, ↓uv_geq, ↓uv_add, ↓uv_sub, ↓uv_not, ↓uv_pick, ↓uv_streq, ↓uv_strne, ↓uv_ptreq, ↓uv_ptrne, ↓uv_func, ↓uv_extract, ↓un_len, ↓uv_and, ↓uv_or, F7_s20]
  by_cases hlt' : i < order.length
  · have e1 : decide ((i : Int) < (order.length : Int)) = true := by rw [decide_eq_true_eq]; omega
    obtain ⟨x, hx⟩ : ∃ x, order[i]? = some x := ⟨order[i], List.getElem?_eq_getElem hlt'⟩
    have htk : order.take (i + 1) = order.take i ++ [x] := by rw [List.take_add_one, hx]; rfl
    obtain ⟨p, ix, lx⟩ := (ha.keep hk1').read hx
    have hcn : (order.take i).count x ≤ 1048576 := Nat.le_trans List.count_le_length (by rw [List.length_take]; omega)
    have e3 : IntKind.i64.wrap ((((order.take i).count x : Nat) : Int) + 1) = (((order.take i).count x + 1 : Nat) : Int) := by rw [wrap_id (by omega) (by omega)]; omega
    have e4 : IntKind.i64.wrap ((i : Int) + 1) = ((i + 1 : Nat) : Int) := by rw [wrap_id (by omega) (by omega)]; omega
    simp only [e1, ↓Bc_true, ↓Bc_false, ↓Gk_hit, ↓Gk_tf, ↓Gk_ft, ↓Gk_undef, ↓GH_hit, ↓GH_tf, ↓GH_ft, ↓un_nil, ↓uv_fieldAt, ↓uv_load1, ↓uv_loadN, ↓uu_store1, ↓uv_box, ↓uv_makeMap, ↓uv_eql, ↓uv_neq, ↓uv_lss, ↓uv_leq, ↓uv_gtr, ↓uv_geq, ↓uv_add, ↓uv_sub, ↓uv_not, ↓uv_pick, ↓uv_streq, ↓uv_strne, ↓uv_ptreq, ↓uv_ptrne, ↓uv_func, ↓uv_extract, ↓un_len, ↓uv_and, ↓uv_or, F7_s23, F7_s23_t, uv_eq ix, uv_eq lx, uv_lookI hm1 und35 zer3, aget_hv, hM x, e3]
    refine uu_updI hm1 und35 fun o ho => ?_
    rw [aset_hv] at ho
    have hmlt := MapK_lt hm1
    have hm2' : MapI undI ((World.put w1 (wb.heap.size + 1) o).heap[wb.heap.size + 1]?) (hvV (pset M x (((order.take i).count x + 1 : Nat) : Int))) := by
      rw [put_same (by rw [Array.getElem?_eq_getElem hmlt]; rfl)]; exact ho
    have hkP : Keep (fun b => b = wb.heap.size + 1) w1 (World.put w1 (wb.heap.size + 1) o) := (Keep.refl _ w1).put fun _ => rfl
    have ht2 := ht1.keep hkP (fun b hb e => hs1' (e ▸ hb))
    have hr2' : RowI (World.put w1 (wb.heap.size + 1) o) v4 rl := hr1'.keep hkP (fun g hg e => row_map_ne hr1' hm1 (e ▸ hg))
    have hk2' : Keep0 w (World.put w1 (wb.heap.size + 1) o) := hk1'.trans hkP (fun b hb e => by omega)
    have hs2' : (World.put w1 (wb.heap.size + 1) o).heap.size = w1.heap.size := hput_size
    generalize World.put w1 (wb.heap.size + 1) o = w2 at *
    have hM2 : ∀ y, modeOf (pset M x (((order.take i).count x + 1 : Nat) : Int)) y = ((order.take (i + 1)).count y : Nat) := fun y => by
      rw [modeOf_set, htk, List.count_append]
      by_cases hxy : x = y
      · subst hxy; rw [if_pos rfl]; simp
      · rw [if_neg hxy, hM y]
        have : [x].count y = 0 := by rw [List.count_eq_zero]; simpa using fun e => hxy e.symm
        rw [this]; rfl
    have hc1 : (order.take (i + 1)).count x = (order.take i).count x + 1 := by rw [htk, List.count_append]; simp
    simp only [uv_lookI hm2' und35 zer3, aget_hv, hM2 x, hc1, ↓Bc_true, ↓Bc_false, ↓Gk_hit, ↓Gk_tf, ↓Gk_ft, ↓Gk_undef, ↓GH_hit, ↓GH_tf, ↓GH_ft, ↓un_nil, ↓uv_fieldAt, ↓uv_load1, ↓uv_loadN, ↓uu_store1, ↓uv_box, ↓uv_makeMap, ↓uv_eql, ↓uv_neq, ↓uv_lss, ↓uv_leq, ↓uv_gtr, ↓uv_geq, ↓uv_add, ↓uv_sub, ↓uv_not, ↓uv_pick, ↓uv_streq, ↓uv_strne, ↓uv_ptreq, ↓uv_ptrne, ↓uv_func, ↓uv_extract, ↓un_len, ↓uv_and, ↓uv_or, F7_s24]
    by_cases hin : x ∈ rl
    · have hpos : 0 < (order.take i).count x := List.count_pos_iff.2 ((hmem x).1 hin)
      have e5 : decide ((((order.take i).count x + 1 : Nat) : Int) > 1) = true := by rw [decide_eq_true_eq]; omega
      simp only [e5, ↓Bc_true, ↓Bc_false, ↓Gk_hit, ↓Gk_tf, ↓Gk_ft, ↓Gk_undef, ↓GH_hit, ↓GH_tf, ↓GH_ft, ↓un_nil, ↓uv_fieldAt, ↓uv_load1, ↓uv_loadN, ↓uu_store1, ↓uv_box, ↓uv_makeMap, ↓uv_eql, ↓uv_neq, ↓uv_lss, ↓uv_leq, ↓uv_gtr, ↓uv_geq, ↓uv_add, ↓uv_sub, ↓uv_not, ↓uv_pick, ↓uv_streq, ↓uv_strne, ↓uv_ptreq, ↓uv_ptrne, ↓uv_func, ↓uv_extract, ↓un_len, ↓uv_and, ↓uv_or, F7_s22, F7_s22_t, e4]
      refine ⟨⟨i + 1, T1, rl, _, rfl, by omega, ht2, hbt1, ha1, hr2', hm2', hM2, hnd, fun y => ?_, by omega, hs1, hs1', hf1, hv1, hk2'⟩, by simp; omega⟩
      rw [htk, List.mem_append, ← hmem y]
      constructor
      · exact .inl
      · rintro (h | h)
        · exact h
        · obtain rfl : y = x := by simpa using h
          exact hin
    · have hz : (order.take i).count x = 0 := List.count_eq_zero.2 fun hh => hin ((hmem x).2 hh)
      have e5 : decide ((((order.take i).count x + 1 : Nat) : Int) > 1) = false := by rw [decide_eq_false_iff_not, hz]; omega
      have hsm : Small (rowA rl) := small_row rl (by omega) fun t htr => hwf t (List.mem_of_mem_take ((hmem t).1 htr))
      have rest : ∀ c : Int, c = (if rl.length = 0 then 1 else 2) → F7_s27 R (fun y0 y1 w' => (∃ (i : Nat) (T' : Tab) (rl : List Int) (M : List (Int × Int)), y1 = .int .i64 i ∧ i ≤ order.length ∧ TabAt w' T' ∧ T'.bt = T.bt ∧ T'.abs = rowA rl ∧ RowI w' y0 rl ∧ MapI undI (w'.heap[wb.heap.size + 1]?) (hvV M) ∧ (∀ x, modeOf M x = ((order.take i).count x : Nat)) ∧ rl.Nodup ∧ (∀ x, x ∈ rl ↔ x ∈ order.take i) ∧ rl.length ≤ i ∧
          (∀ g, rowB y0 = some g → ¬ T'.foot g) ∧ ¬ T'.foot (wb.heap.size + 1) ∧ (∀ b, T'.foot b → w.heap.size ≤ b) ∧ (∀ g, rowB y0 = some g → w.heap.size ≤ g) ∧ Keep0 w w') ∧ (match y1 with | .int _ i => order.length - i.toNat | _ => 0) < order.length - i) (ptr T.bt) v4 (.map (some (wb.heap.size + 1))) (.int .i64 x) (.int .i64 c) v0 (.int .i64 order.length) (.int .i64 i) w2 := by
        intro c hc
        simp only [F7_s27, F7_s27_t]
        rw [← hbt1]
        refine un_enter (enters Try.func10 (by kernel_rfl) (by kernel_rfl) _ _) (ask_c T1 sA x 6 w2 ht2 (qbig (by rw [ha1]; exact fun p hp => Nat.le_trans (hsm.q p hp) (by omega))) _ fun w3 T3 hA3 => ?_)
        rw [ha1, ask_rowAll x rl hin] at hA3
        rw [ha1, ask_rowAll x rl hin, ← hc]
        have hk3 := hA3.keep
        have hs3 := hk3.size
        have hr3 : RowI w3 v4 rl := hr2'.keep hk3 hs1
        have hm3 : MapI undI (w3.heap[wb.heap.size + 1]?) (hvV (pset M x (((order.take i).count x + 1 : Nat) : Int))) := by rw [hk3.keep _ (MapK_lt hm2') hs1']; exact hm2'
        have hka3 : Keep0 w3 (World.add w3 (.cells #[.int .i64 x] 3)) := (Keep.refl _ w3).add
        have hsr : Row (World.add w3 (.cells #[.int .i64 x] 3)) 3 1 (.slice (some ⟨w3.heap.size, 0, none⟩) 1 1) 1 [.int .i64 x] := Row.fresh (cs := [.int .i64 x]) rfl (by decide)
        have hmx : 4398046511104 ≤ maxLen := by decide
        simp only [↓Bc_true, ↓Bc_false, ↓Gk_hit, ↓Gk_tf, ↓Gk_ft, ↓Gk_undef, ↓GH_hit, ↓GH_tf, ↓GH_ft, ↓un_nil, ↓uv_fieldAt, ↓uv_load1, ↓uv_loadN, ↓uu_store1, ↓uv_box, ↓uv_makeMap, ↓uv_eql, ↓uv_neq, ↓uv_lss, ↓uv_leq, ↓uv_gtr, ↓uv_geq, ↓uv_add, ↓uv_sub, ↓uv_not, ↓uv_pick, ↓uv_streq, ↓uv_strne, ↓uv_ptreq, ↓uv_ptrne, ↓uv_func, ↓uv_extract, ↓un_len, ↓uv_and, ↓uv_or, bne_self_eq_false, F7_s28, F7_s29, F7_s29_t, uv_eq (bsl1 _ _)]
        refine un_appendR apI (by decide) (hr3.keep hka3 (fun _ _ => id)) hsr (by simp [oneV]) (by omega) (by omega) fun v' w5 h5 hk5 hf5 => ?_
        have hs5 := hka3.size
        simp only [F7_s22, F7_s22_t, ↓Bc_true, ↓Bc_false, ↓Gk_hit, ↓Gk_tf, ↓Gk_ft, ↓Gk_undef, ↓GH_hit, ↓GH_tf, ↓GH_ft, ↓un_nil, ↓uv_fieldAt, ↓uv_load1, ↓uv_loadN, ↓uu_store1, ↓uv_box, ↓uv_makeMap, ↓uv_eql, ↓uv_neq, ↓uv_lss, ↓uv_leq, ↓uv_gtr, ↓uv_geq, ↓uv_add, ↓uv_sub, ↓uv_not, ↓uv_pick, ↓uv_streq, ↓uv_strne, ↓uv_ptreq, ↓uv_ptrne, ↓uv_func, ↓uv_extract, ↓un_len, ↓uv_and, ↓uv_or, e4]
        have hmlt3 := MapK_lt hm3
        have hk35 : Keep (fun b => rowB v4 = some b) w3 w5 := (hka3.mono fun _ _ h => h.elim).trans hk5 (fun b _ hb => hb)
        have hsep3 : ∀ g, rowB v4 = some g → ¬ T3.foot g := fun g hg hf => (hA3.foot g hf).elim (hs1 g hg) (fun h => by have := hr2'.lt hg; omega)
        refine ⟨⟨i + 1, T3, rl ++ [x], _, rfl, by omega, hA3.at'.keep hk35 (fun b hb hv => hsep3 b hv hb), hA3.bt, hA3.abs, ?_, ?_, hM2, ?_, fun y => ?_, by rw [List.length_append]; simp; omega, ?_, fun hf => (hA3.foot _ hf).elim hs1' (fun h => by have := MapK_lt hm2'; omega), fun b hb => (hA3.foot b hb).elim (hf1 b) (fun h => by have := hk2'.size; omega), ?_, ?_⟩, by simp; omega⟩
        · unfold RowI ints
          rw [List.length_append, List.map_append]
          exact h5
        · rw [hk35.keep _ hmlt3 (row_map_ne hr3 hm3)]; exact hm3
        · rw [List.nodup_append]
          refine ⟨hnd, by simp, fun a ha b hb e => ?_⟩
          obtain rfl : b = x := by simpa using hb
          exact hin (e ▸ ha)
        · rw [htk, List.mem_append, List.mem_append, hmem y]
        · intro g hg hf
          rcases hf5 with e | ⟨g', e, hg'⟩
          · rw [e] at hg; exact hsep3 g hg hf
          · rw [e] at hg; cases hg
            have := hA3.at'.lt hf; omega
        · intro g hg
          have hh := hk2'.size
          rcases hf5 with e | ⟨g', e, hg'⟩
          · rw [e] at hg; exact hv1 g hg
          · rw [e] at hg; cases hg; omega
        · exact (hk2'.trans hk3 (fun b hb hf => by have := hf1 b hf; omega)).trans hk35 (fun b hb hv => by have := hv1 b hv; omega)
      simp only [e5, ↓Bc_true, ↓Bc_false, ↓Gk_hit, ↓Gk_tf, ↓Gk_ft, ↓Gk_undef, ↓GH_hit, ↓GH_tf, ↓GH_ft, ↓un_nil, ↓uv_fieldAt, ↓uv_load1, ↓uv_loadN, ↓uu_store1, ↓uv_box, ↓uv_makeMap, ↓uv_eql, ↓uv_neq, ↓uv_lss, ↓uv_leq, ↓uv_gtr, ↓uv_geq, ↓uv_add, ↓uv_sub, ↓uv_not, ↓uv_pick, ↓uv_streq, ↓uv_strne, ↓uv_ptreq, ↓uv_ptrne, ↓uv_func, ↓uv_extract, ↓un_len, ↓uv_and, ↓uv_or, F7_s25, F7_s25_t, un_lenR und55' hr2', F7_s26]
      cases hl0 : rl with
      | nil =>
        subst hl0
        have e6 : (((0 : Nat) : Int) == 0) = true := rfl
        simp only [List.length_nil, e6, ↓Bc_true, ↓Bc_false, ↓Gk_hit, ↓Gk_tf, ↓Gk_ft, ↓Gk_undef, ↓GH_hit, ↓GH_tf, ↓GH_ft, ↓un_nil, ↓uv_fieldAt, ↓uv_load1, ↓uv_loadN, ↓uu_store1, ↓uv_box, ↓uv_makeMap, ↓uv_eql, ↓uv_neq, ↓uv_lss, ↓uv_leq, ↓uv_gtr, ↓uv_geq, ↓uv_add, ↓uv_sub, ↓uv_not, ↓uv_pick, ↓uv_streq, ↓uv_strne, ↓uv_ptreq, ↓uv_ptrne, ↓uv_func, ↓uv_extract, ↓un_len, ↓uv_and, ↓uv_or, F7_s31, F7_s31_t]
        exact rest 1 rfl
      | cons a l =>
        subst hl0
        have e6 : (((l.length + 1 : Nat) : Int) == 0) = false := by
          have : ¬ (((l.length + 1 : Nat) : Int) = 0) := by omega
          simpa using this
        simp only [List.length_cons, e6, ↓Bc_true, ↓Bc_false, ↓Gk_hit, ↓Gk_tf, ↓Gk_ft, ↓Gk_undef, ↓GH_hit, ↓GH_tf, ↓GH_ft, ↓un_nil, ↓uv_fieldAt, ↓uv_load1, ↓uv_loadN, ↓uu_store1, ↓uv_box, ↓uv_makeMap, ↓uv_eql, ↓uv_neq, ↓uv_lss, ↓uv_leq, ↓uv_gtr, ↓uv_geq, ↓uv_add, ↓uv_sub, ↓uv_not, ↓uv_pick, ↓uv_streq, ↓uv_strne, ↓uv_ptreq, ↓uv_ptrne, ↓uv_func, ↓uv_extract, ↓un_len, ↓uv_and, ↓uv_or]
        exact rest 2 (by simp)
  · have e1 : decide ((i : Int) < (order.length : Int)) = false := by rw [decide_eq_false_iff_not]; omega
    simp only [e1, ↓Bc_true, ↓Bc_false, ↓Gk_hit, ↓Gk_tf, ↓Gk_ft, ↓Gk_undef, ↓GH_hit, ↓GH_tf, ↓GH_ft, ↓un_nil, ↓uv_fieldAt, ↓uv_load1, ↓uv_loadN, ↓uu_store1, ↓uv_box, ↓uv_makeMap, ↓uv_eql, ↓uv_neq, ↓uv_lss, ↓uv_leq, ↓uv_gtr, ↓uv_geq, ↓uv_add, ↓uv_sub, ↓uv_not, ↓uv_pick, ↓uv_streq, ↓uv_strne, ↓uv_ptreq, ↓uv_ptrne, ↓uv_func, ↓uv_extract, ↓un_len, ↓uv_and, ↓uv_or]
    rw [← hbt1]
    refine rowDrops_c T1 rl w1 w1 v4 ht1 ha1 hnd (by omega) (fun t htr => hwf t (List.mem_of_mem_take ((hmem t).1 htr))) hr1' hs1 R fun w' hk => ?_
    exact h w' (hk1'.trans hk (fun b hb hf => by have := hf1 b hf; omega))
end Go.Proofs.Ytpghlemcgjogpaa
