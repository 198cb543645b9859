/- LocksEnds: the walk. -/
import Derived.Test.YtpghlemcgjogpaaDC
import Derived.Test.YtpghlemcgjogpaaFDE
set_option linter.unusedVariables false
set_option linter.unusedSimpArgs false
set_option linter.unnecessarySimpa false
set_option maxRecDepth 100000
namespace Go.Proofs.Ytpghlemcgjogpaa
open Go.Sx

theorem edges_nil : edgesF ⟨[], []⟩ = [] := by
  unfold edgesF sortEd
  simp [compF]
/-- The law's own map holds 1 for each that waits. -/
structure MW {β : Type} (M : List (Int × Int)) (W : List (Int × β)) : Prop where
  nd : (M.map (·.1)).Nodup
  eq : ∀ x, pget M x = (pget W x).map fun _ => 1
theorem MW.start : MW ([] : List (Int × Int)) ([] : List (Int × ByteArray)) := ⟨by simp, fun _ => rfl⟩
theorem MW.del {β : Type} {M : List (Int × Int)} {W : List (Int × β)} (h : MW M W) (hW : (W.map (·.1)).Nodup) (t : Int) : MW (pdel M t) (pdel W t) := ⟨nd_pdel h.nd, fun x => by
  by_cases e : t = x
  · subst e; rw [pget_pdel_same h.nd, pget_pdel_same hW]; rfl
  · rw [pget_pdel_ne e, pget_pdel_ne e]; exact h.eq x⟩
theorem MW.del2 {β : Type} {M : List (Int × Int)} {W : List (Int × β)} (h : MW M W) (hW : (W.map (·.1)).Nodup) (t c : Int) : MW (pdel (pset M t c) t) (pdel W t) := ⟨nd_pdel (nd_pset h.nd), fun x => by
  by_cases e : t = x
  · subst e; rw [pget_pdel_same (nd_pset h.nd), pget_pdel_same hW]; rfl
  · rw [pget_pdel_ne e, pget_pdel_ne e, pget_pset_ne e]; exact h.eq x⟩
theorem MW.set {β : Type} {M : List (Int × Int)} {W : List (Int × β)} (h : MW M W) (t : Int) (v : β) : MW (pset M t 1) (pset W t v) := ⟨nd_pset h.nd, fun x => by
  by_cases e : t = x
  · subst e; rw [pget_pset_same, pget_pset_same]; rfl
  · rw [pget_pset_ne e, pget_pset_ne e]; exact h.eq x⟩
theorem MW.nil {β : Type} {M : List (Int × Int)} (h : MW M ([] : List (Int × β))) : M = [] := by
  cases M with
  | nil => rfl
  | cons p l =>
    have := h.eq p.1
    simp [pget] at this
theorem MW.one {β : Type} {M : List (Int × Int)} {W : List (Int × β)} (h : MW M W) {t : Int} (ht : (pget W t).isSome = true) : modeOf M t = 1 := by
  unfold modeOf
  rw [h.eq t]
  obtain ⟨x, hx⟩ := Option.isSome_iff_exists.1 ht
  rw [hx]; rfl
theorem MW.zero {β : Type} {M : List (Int × Int)} {W : List (Int × β)} (h : MW M W) {t : Int} (ht : pget W t = none) : modeOf M t = 0 := by
  unfold modeOf
  rw [h.eq t, ht]; rfl
theorem ask_waits {S : List Int} {k : Nat} {A : Abs} (h : Inv S k A) (t : Int) (r : ByteArray) (m : Int) : ((ask A t r m).1 = 2 ∧ pget A.waits t = none ∧ (ask A t r m).2.waits = pset A.waits t r) ∨ ((ask A t r m).1 ≠ 2 ∧ (ask A t r m).2.waits = A.waits) := by
  have ha := ask_spec h t r m
  generalize ask A t r m = o at ha
  cases ha with
  | refused _ => exact .inr ⟨by simp, rfl⟩
  | same _ _ _ => exact .inr ⟨by simp, rfl⟩
  | gives _ _ _ _ _ => exact .inr ⟨by simp, rfl⟩
  | waits _ hw _ _ _ => exact .inl ⟨rfl, hw, rfl⟩

theorem row_map_ne {w : World} {e sz n : Nat} {v : Value} {xs : List Value} (h : Row w e sz v n xs) {l : List (Int × Value)} {mb : Nat} (hm : MapI undI (w.heap[mb]?) l) : rowB v ≠ some mb := fun hv => by
  obtain ⟨c, hc⟩ := row_block h hv
  obtain ⟨es, cl, he, _⟩ := hm
  rw [he] at hc; cases hc
/-- The law's map in memory, beside the table. -/
structure MapAt (w0 w : World) (T : Tab) (mb : Nat) (M : List (Int × Int)) : Prop where
  map : MapI undI (w.heap[mb]?) (hvV M)
  nf : ¬ T.foot mb
  ge : w0.heap.size ≤ mb
theorem MapAt.keep0 {w0 w w' : World} {T : Tab} {mb : Nat} {M : List (Int × Int)} (h : MapAt w0 w T mb M) (hk : Keep0 w w') : MapAt w0 w' T mb M := ⟨by rw [hk.keep _ (MapK_lt h.map) id]; exact h.map, h.nf, h.ge⟩
theorem MapAt.put {T0 T : Tab} {w0 w : World} {S : List Int} {k mb : Nat} {M M' : List (Int × Int)} {o : Obj} (hr : Run T0 w0 w T S k) (h : MapAt w0 w T mb M) (ho : MapI undI (some o) (hvV M')) : Run T0 w0 (World.put w mb o) T S k ∧ MapAt w0 (World.put w mb o) T mb M' ∧ Keep (fun b => b = mb) w (World.put w mb o) := by
  have hk : Keep (fun b => b = mb) w (World.put w mb o) := (Keep.refl _ w).put fun _ => rfl
  have hlt := MapK_lt h.map
  refine ⟨⟨hr.tab.keep hk (fun b hb e => h.nf (e ▸ hb)), hr.bt, hr.inv, hr.sl, hr.foot, hr.keep.trans hk (fun b hb e => ?_)⟩, ⟨?_, h.nf, h.ge⟩, hk⟩
  · have := h.ge; omega
  · rw [put_same (by rw [Array.getElem?_eq_getElem hlt]; rfl)]; exact ho
theorem endsDrain1_c (T0 T : Tab) (w0 w : World) (S : List Int) (k mb : Nat) (hr : Run T0 w0 w T S k) (W : List (Int × ByteArray)) (hW : (W.map (·.1)).Nodup) (out : List Int) (hon : out.Nodup) (how : ∀ g ∈ out, (pget W g).isSome = true) (M : List (Int × Int)) (hM : MW M W) (hm : MapAt w0 w T mb M)
    (v0 v19 v20 v21 v49 : Value) (hro : RowI w v49 out) (R : Ending → World → Prop) (rec28 : Value → World → Prop)
    (h : ∀ w' M', Run T0 w0 w' T S k → MapAt w0 w' T mb M' → MW M' (out.foldl pdel W) → F4_s32 R rec28 v0 (ptr T0.bt) (.map (some mb)) v19 v20 v21 w') :
    F4_s37 R rec28 v0 (ptr T0.bt) (.map (some mb)) v19 v20 v21 v49 (.int .i64 out.length) (.int .i64 (0 : Nat)) w := by
  have hbd := hro.bound
  have hmax2 : maxLen ≤ 9223372036854775807 := by decide
  simp only [F4_s37]
  refine ⟨fun v51 w' => ∃ (j : Nat) (M' : List (Int × Int)), v51 = .int .i64 j ∧ j ≤ out.length ∧ Run T0 w0 w' T S k ∧ MapAt w0 w' T mb M' ∧ MW M' ((out.take j).foldl pdel W) ∧ RowI w' v49 out, fun v51 _ => match v51 with | .int _ j => out.length - j.toNat | _ => 0,
    ⟨0, M, rfl, by omega, hr, hm, hM, hro⟩, ?_⟩
  rintro v51 w1 ⟨j, M1, rfl, hj, hr1, hm1, hM1, hro1⟩
  simp only [F4_s38, F4_s38_t, ↓Bc_true, ↓Bc_false, ↓Gk_hit, ↓Gk_tf, ↓Gk_ft, ↓Gk_undef, ↓GH_hit, ↓GH_tf, ↓GH_ft, ↓un_nil, ↓uv_fieldAt, ↓uv_load1, ↓uv_loadN, ↓uu_store1, ↓uv_box, ↓uv_makeMap, ↓uv_eql, ↓uv_neq, ↓uv_lss, ↓uv_leq, ↓uv_gtr, ↓uv_geq, ↓uv_add, ↓uv_sub, ↓uv_not, ↓uv_pick, ↓uv_streq, ↓uv_strne, ↓uv_ptreq, ↓uv_ptrne, ↓uv_func, ↓uv_extract, ↓un_len, ↓uv_and, ↓uv_or, F4_s39]
  by_cases hlt : j < out.length
  · have e1 : decide ((j : Int) < (out.length : Int)) = true := by rw [decide_eq_true_eq]; omega
    have e4 : IntKind.i64.wrap ((j : Int) + 1) = ((j + 1 : Nat) : Int) := by rw [wrap_id (by omega) (by omega)]; omega
    obtain ⟨x, hx⟩ : ∃ x, out[j]? = some x := ⟨out[j], List.getElem?_eq_getElem hlt⟩
    have htk : out.take (j + 1) = out.take j ++ [x] := by rw [List.take_add_one, hx]; rfl
    have hxt : x ∉ out.take j := by
      have := hon.sublist (List.take_sublist (j + 1) out)
      rw [htk, List.nodup_append] at this
      exact fun hin => this.2.2 x hin x (by simp) rfl
    have hxw : (pget ((out.take j).foldl pdel W) x).isSome = true := by
      rw [pget_dels _ _ hW, if_neg hxt]; exact how x (List.mem_of_getElem? hx)
    have hWn := nd_dels (out.take j) W hW
    obtain ⟨p, ix, lx⟩ := RowI.read hro1 hx
    have e5 : IntKind.i64.wrap ((1 : Int) - 1) = 0 := by decide
    simp only [e1, ↓Bc_true, ↓Bc_false, ↓Gk_hit, ↓Gk_tf, ↓Gk_ft, ↓Gk_undef, ↓GH_hit, ↓GH_tf, ↓GH_ft, ↓un_nil, ↓uv_fieldAt, ↓uv_load1, ↓uv_loadN, ↓uu_store1, ↓uv_box, ↓uv_makeMap, ↓uv_eql, ↓uv_neq, ↓uv_lss, ↓uv_leq, ↓uv_gtr, ↓uv_geq, ↓uv_add, ↓uv_sub, ↓uv_not, ↓uv_pick, ↓uv_streq, ↓uv_strne, ↓uv_ptreq, ↓uv_ptrne, ↓uv_func, ↓uv_extract, ↓un_len, ↓uv_and, ↓uv_or, F4_s42, F4_s42_t, uv_eq (ix _), uv_eq (lx w1 fun g _ => rfl), uv_lookI hm1.map und35 zer3, aget_hv, hM1.one hxw, e5]
    refine uu_updI hm1.map und35 fun o ho => ?_
    rw [aset_hv] at ho
    obtain ⟨hr2, hm2, hk2⟩ := hm1.put hr1 ho
    have hro2 : RowI _ v49 out := hro1.keep hk2 (fun g hg e => row_map_ne hro1 hm1.map (e ▸ hg))
    generalize World.put w1 mb o = w2 at hr2 hm2 hk2 hro2 ⊢
    have e6 : modeOf (pset M1 x 0) x = 0 := by rw [modeOf_pset, if_pos rfl]
    have e7 : ((0 : Int) != 0) = false := rfl
    simp only [uv_lookI hm2.map und35 zer3, aget_hv, e6, ↓Bc_true, ↓Bc_false, ↓Gk_hit, ↓Gk_tf, ↓Gk_ft, ↓Gk_undef, ↓GH_hit, ↓GH_tf, ↓GH_ft, ↓un_nil, ↓uv_fieldAt, ↓uv_load1, ↓uv_loadN, ↓uu_store1, ↓uv_box, ↓uv_makeMap, ↓uv_eql, ↓uv_neq, ↓uv_lss, ↓uv_leq, ↓uv_gtr, ↓uv_geq, ↓uv_add, ↓uv_sub, ↓uv_not, ↓uv_pick, ↓uv_streq, ↓uv_strne, ↓uv_ptreq, ↓uv_ptrne, ↓uv_func, ↓uv_extract, ↓un_len, ↓uv_and, ↓uv_or, e7, F4_s43, F4_s44, F4_s44_t]
    refine un_delI hm2.map und35 fun o' ho' => ?_
    rw [adel_hv] at ho'
    obtain ⟨hr3, hm3, hk3⟩ := hm2.put hr2 ho'
    have hro3 : RowI _ v49 out := hro2.keep hk3 (fun g hg e => row_map_ne hro2 hm2.map (e ▸ hg))
    generalize World.put w2 mb o' = w3 at hr3 hm3 hk3 hro3 ⊢
    simp only [F4_s41, F4_s41_t, ↓Bc_true, ↓Bc_false, ↓Gk_hit, ↓Gk_tf, ↓Gk_ft, ↓Gk_undef, ↓GH_hit, ↓GH_tf, ↓GH_ft, ↓un_nil, ↓uv_fieldAt, ↓uv_load1, ↓uv_loadN, ↓uu_store1, ↓uv_box, ↓uv_makeMap, ↓uv_eql, ↓uv_neq, ↓uv_lss, ↓uv_leq, ↓uv_gtr, ↓uv_geq, ↓uv_add, ↓uv_sub, ↓uv_not, ↓uv_pick, ↓uv_streq, ↓uv_strne, ↓uv_ptreq, ↓uv_ptrne, ↓uv_func, ↓uv_extract, ↓un_len, ↓uv_and, ↓uv_or, e4]
    refine ⟨⟨j + 1, _, rfl, by omega, hr3, hm3, ?_, hro3⟩, by simp; omega⟩
    rw [htk, List.foldl_append]
    exact hM1.del2 hWn x 0
  · have e1 : decide ((j : Int) < (out.length : Int)) = false := by rw [decide_eq_false_iff_not]; omega
    have hjl : j = out.length := by omega
    rw [hjl, List.take_length] at hM1
    simp only [e1, ↓Bc_true, ↓Bc_false, ↓Gk_hit, ↓Gk_tf, ↓Gk_ft, ↓Gk_undef, ↓GH_hit, ↓GH_tf, ↓GH_ft, ↓un_nil, ↓uv_fieldAt, ↓uv_load1, ↓uv_loadN, ↓uu_store1, ↓uv_box, ↓uv_makeMap, ↓uv_eql, ↓uv_neq, ↓uv_lss, ↓uv_leq, ↓uv_gtr, ↓uv_geq, ↓uv_add, ↓uv_sub, ↓uv_not, ↓uv_pick, ↓uv_streq, ↓uv_strne, ↓uv_ptreq, ↓uv_ptrne, ↓uv_func, ↓uv_extract, ↓un_len, ↓uv_and, ↓uv_or]
    exact h w1 M1 hr1 hm1 hM1
theorem endsDrain2_c (T0 T : Tab) (w0 w : World) (S : List Int) (k mb : Nat) (hr : Run T0 w0 w T S k) (W : List (Int × ByteArray)) (hW : (W.map (·.1)).Nodup) (out : List Int) (hon : out.Nodup) (how : ∀ g ∈ out, (pget W g).isSome = true) (M : List (Int × Int)) (hM : MW M W) (hm : MapAt w0 w T mb M)
    (v0 v9 v88 : Value) (hro : RowI w v88 out) (R : Ending → World → Prop) (rec10 : Value → World → Prop)
    (h : ∀ w' M', Run T0 w0 w' T S k → MapAt w0 w' T mb M' → MW M' (out.foldl pdel W) → F4_s14 R rec10 v0 (ptr T0.bt) (.map (some mb)) v9 w') :
    F4_s19 R rec10 v0 (ptr T0.bt) (.map (some mb)) v9 v88 (.int .i64 out.length) (.int .i64 (0 : Nat)) w := by
  have hbd := hro.bound
  have hmax2 : maxLen ≤ 9223372036854775807 := by decide
  simp only [F4_s19]
  refine ⟨fun v51 w' => ∃ (j : Nat) (M' : List (Int × Int)), v51 = .int .i64 j ∧ j ≤ out.length ∧ Run T0 w0 w' T S k ∧ MapAt w0 w' T mb M' ∧ MW M' ((out.take j).foldl pdel W) ∧ RowI w' v88 out, fun v51 _ => match v51 with | .int _ j => out.length - j.toNat | _ => 0,
    ⟨0, M, rfl, by omega, hr, hm, hM, hro⟩, ?_⟩
  rintro v51 w1 ⟨j, M1, rfl, hj, hr1, hm1, hM1, hro1⟩
  simp only [F4_s20, F4_s20_t, ↓Bc_true, ↓Bc_false, ↓Gk_hit, ↓Gk_tf, ↓Gk_ft, ↓Gk_undef, ↓GH_hit, ↓GH_tf, ↓GH_ft, ↓un_nil, ↓uv_fieldAt, ↓uv_load1, ↓uv_loadN, ↓uu_store1, ↓uv_box, ↓uv_makeMap, ↓uv_eql, ↓uv_neq, ↓uv_lss, ↓uv_leq, ↓uv_gtr, ↓uv_geq, ↓uv_add, ↓uv_sub, ↓uv_not, ↓uv_pick, ↓uv_streq, ↓uv_strne, ↓uv_ptreq, ↓uv_ptrne, ↓uv_func, ↓uv_extract, ↓un_len, ↓uv_and, ↓uv_or, F4_s21]
  by_cases hlt : j < out.length
  · have e1 : decide ((j : Int) < (out.length : Int)) = true := by rw [decide_eq_true_eq]; omega
    have e4 : IntKind.i64.wrap ((j : Int) + 1) = ((j + 1 : Nat) : Int) := by rw [wrap_id (by omega) (by omega)]; omega
    obtain ⟨x, hx⟩ : ∃ x, out[j]? = some x := ⟨out[j], List.getElem?_eq_getElem hlt⟩
    have htk : out.take (j + 1) = out.take j ++ [x] := by rw [List.take_add_one, hx]; rfl
    have hxt : x ∉ out.take j := by
      have := hon.sublist (List.take_sublist (j + 1) out)
      rw [htk, List.nodup_append] at this
      exact fun hin => this.2.2 x hin x (by simp) rfl
    have hxw : (pget ((out.take j).foldl pdel W) x).isSome = true := by
      rw [pget_dels _ _ hW, if_neg hxt]; exact how x (List.mem_of_getElem? hx)
    have hWn := nd_dels (out.take j) W hW
    obtain ⟨p, ix, lx⟩ := RowI.read hro1 hx
    have e5 : IntKind.i64.wrap ((1 : Int) - 1) = 0 := by decide
    simp only [e1, ↓Bc_true, ↓Bc_false, ↓Gk_hit, ↓Gk_tf, ↓Gk_ft, ↓Gk_undef, ↓GH_hit, ↓GH_tf, ↓GH_ft, ↓un_nil, ↓uv_fieldAt, ↓uv_load1, ↓uv_loadN, ↓uu_store1, ↓uv_box, ↓uv_makeMap, ↓uv_eql, ↓uv_neq, ↓uv_lss, ↓uv_leq, ↓uv_gtr, ↓uv_geq, ↓uv_add, ↓uv_sub, ↓uv_not, ↓uv_pick, ↓uv_streq, ↓uv_strne, ↓uv_ptreq, ↓uv_ptrne, ↓uv_func, ↓uv_extract, ↓un_len, ↓uv_and, ↓uv_or, F4_s24, F4_s24_t, uv_eq (ix _), uv_eq (lx w1 fun g _ => rfl), uv_lookI hm1.map und35 zer3, aget_hv, hM1.one hxw, e5]
    refine uu_updI hm1.map und35 fun o ho => ?_
    rw [aset_hv] at ho
    obtain ⟨hr2, hm2, hk2⟩ := hm1.put hr1 ho
    have hro2 : RowI _ v88 out := hro1.keep hk2 (fun g hg e => row_map_ne hro1 hm1.map (e ▸ hg))
    generalize World.put w1 mb o = w2 at hr2 hm2 hk2 hro2 ⊢
    have e6 : modeOf (pset M1 x 0) x = 0 := by rw [modeOf_pset, if_pos rfl]
    have e7 : ((0 : Int) != 0) = false := rfl
    simp only [uv_lookI hm2.map und35 zer3, aget_hv, e6, ↓Bc_true, ↓Bc_false, ↓Gk_hit, ↓Gk_tf, ↓Gk_ft, ↓Gk_undef, ↓GH_hit, ↓GH_tf, ↓GH_ft, ↓un_nil, ↓uv_fieldAt, ↓uv_load1, ↓uv_loadN, ↓uu_store1, ↓uv_box, ↓uv_makeMap, ↓uv_eql, ↓uv_neq, ↓uv_lss, ↓uv_leq, ↓uv_gtr, ↓uv_geq, ↓uv_add, ↓uv_sub, ↓uv_not, ↓uv_pick, ↓uv_streq, ↓uv_strne, ↓uv_ptreq, ↓uv_ptrne, ↓uv_func, ↓uv_extract, ↓un_len, ↓uv_and, ↓uv_or, e7, F4_s25, F4_s26, F4_s26_t]
    refine un_delI hm2.map und35 fun o' ho' => ?_
    rw [adel_hv] at ho'
    obtain ⟨hr3, hm3, hk3⟩ := hm2.put hr2 ho'
    have hro3 : RowI _ v88 out := hro2.keep hk3 (fun g hg e => row_map_ne hro2 hm2.map (e ▸ hg))
    generalize World.put w2 mb o' = w3 at hr3 hm3 hk3 hro3 ⊢
    simp only [F4_s23, F4_s23_t, ↓Bc_true, ↓Bc_false, ↓Gk_hit, ↓Gk_tf, ↓Gk_ft, ↓Gk_undef, ↓GH_hit, ↓GH_tf, ↓GH_ft, ↓un_nil, ↓uv_fieldAt, ↓uv_load1, ↓uv_loadN, ↓uu_store1, ↓uv_box, ↓uv_makeMap, ↓uv_eql, ↓uv_neq, ↓uv_lss, ↓uv_leq, ↓uv_gtr, ↓uv_geq, ↓uv_add, ↓uv_sub, ↓uv_not, ↓uv_pick, ↓uv_streq, ↓uv_strne, ↓uv_ptreq, ↓uv_ptrne, ↓uv_func, ↓uv_extract, ↓un_len, ↓uv_and, ↓uv_or, e4]
    refine ⟨⟨j + 1, _, rfl, by omega, hr3, hm3, ?_, hro3⟩, by simp; omega⟩
    rw [htk, List.foldl_append]
    exact hM1.del2 hWn x 0
  · have e1 : decide ((j : Int) < (out.length : Int)) = false := by rw [decide_eq_false_iff_not]; omega
    have hjl : j = out.length := by omega
    rw [hjl, List.take_length] at hM1
    simp only [e1, ↓Bc_true, ↓Bc_false, ↓Gk_hit, ↓Gk_tf, ↓Gk_ft, ↓Gk_undef, ↓GH_hit, ↓GH_tf, ↓GH_ft, ↓un_nil, ↓uv_fieldAt, ↓uv_load1, ↓uv_loadN, ↓uu_store1, ↓uv_box, ↓uv_makeMap, ↓uv_eql, ↓uv_neq, ↓uv_lss, ↓uv_leq, ↓uv_gtr, ↓uv_geq, ↓uv_add, ↓uv_sub, ↓uv_not, ↓uv_pick, ↓uv_streq, ↓uv_strne, ↓uv_ptreq, ↓uv_ptrne, ↓uv_func, ↓uv_extract, ↓un_len, ↓uv_and, ↓uv_or]
    exact h w1 M1 hr1 hm1 hM1
/-- The second half: all that have locks give them up. -/
theorem endsAll_c (T0 T : Tab) (w0 w : World) (S : List Int) (mb : Nat) (v0 : Value) (ops : List Op) (ha : ArgO w0 v0 ops) (hn : ops.length ≤ 1048575) (hr : Run T0 w0 w T S ops.length) (M : List (Int × Int)) (hm : MapAt w0 w T mb M) (hM : MW M T.abs.waits) (R : Ending → World → Prop)
    (h : ∀ w', Keep0 w0 w' → R (.returned (.bool true)) w') : F4_s7 R v0 (ptr T0.bt) (.map (some mb)) w := by
  simp only [F4_s7, F4_s7_t, F4_s10]
  refine ⟨fun v9 w' => ∃ (i : Nat) (T' : Tab) (S' : List Int) (M' : List (Int × Int)), v9 = .int .i64 i ∧ Run T0 w0 w' T' S' ops.length ∧ S'.length + i ≤ ops.length ∧ MapAt w0 w' T' mb M' ∧ MW M' T'.abs.waits, fun v9 _ => match v9 with | .int _ i => ops.length - i.toNat | _ => 0,
    ⟨0, T, S, M, rfl, hr, by have := hr.sl; omega, hm, hM⟩, ?_⟩
  rintro v9 w1 ⟨i, T1, S1, M1, rfl, hr1, hsl, hm1, hM1⟩
  have e1 : decide ((i : Int) ≤ (ops.length : Int)) = true := by rw [decide_eq_true_eq]; omega
  simp only [F4_s11, F4_s11_t, (ha.keep hr1.keep).len, ↓Bc_true, ↓Bc_false, ↓Gk_hit, ↓Gk_tf, ↓Gk_ft, ↓Gk_undef, ↓GH_hit, ↓GH_tf, ↓GH_ft, ↓un_nil, ↓uv_fieldAt, ↓uv_load1, ↓uv_loadN, ↓uu_store1, ↓uv_box, ↓uv_makeMap, ↓uv_eql, ↓uv_neq, ↓uv_lss, ↓uv_leq, ↓uv_gtr, ↓uv_geq, ↓uv_add, ↓uv_sub, ↓uv_not, ↓uv_pick, ↓uv_streq, ↓uv_strne, ↓uv_ptreq, ↓uv_ptrne, ↓uv_func, ↓uv_extract, ↓un_len, ↓uv_and, ↓uv_or, e1, F4_s12, F4_s15, F4_s15_t]
  rw [← hr1.bt]
  refine un_enter (enters Try.func13 (by kernel_rfl) (by kernel_rfl) _ _) (locks_c T1 w1 hr1.tab (hr1.inv.small (by omega)) _ fun vl w2 hrl hfl hk2 => ?_)
  rw [hr1.bt]
  have hr2 := hr1.keep0 hk2
  have hm2 := hm1.keep0 hk2
  simp only [un_lenR und32 hrl, ↓Bc_true, ↓Bc_false, ↓Gk_hit, ↓Gk_tf, ↓Gk_ft, ↓Gk_undef, ↓GH_hit, ↓GH_tf, ↓GH_ft, ↓un_nil, ↓uv_fieldAt, ↓uv_load1, ↓uv_loadN, ↓uu_store1, ↓uv_box, ↓uv_makeMap, ↓uv_eql, ↓uv_neq, ↓uv_lss, ↓uv_leq, ↓uv_gtr, ↓uv_geq, ↓uv_add, ↓uv_sub, ↓uv_not, ↓uv_pick, ↓uv_streq, ↓uv_strne, ↓uv_ptreq, ↓uv_ptrne, ↓uv_func, ↓uv_extract, ↓un_len, ↓uv_and, ↓uv_or, F4_s16]
  cases hL : locksF T1.abs with
  | nil =>
    have e3 : (((0 : Nat) : Int) == 0) = true := rfl
    have hA := nothing hr1.inv hL
    have hM0 : M1 = [] := by
      rw [hA] at hM1; exact hM1.nil
    subst hM0
    simp only [List.length_nil, e3, ↓Bc_true, ↓Bc_false, ↓Gk_hit, ↓Gk_tf, ↓Gk_ft, ↓Gk_undef, ↓GH_hit, ↓GH_tf, ↓GH_ft, ↓un_nil, ↓uv_fieldAt, ↓uv_load1, ↓uv_loadN, ↓uu_store1, ↓uv_box, ↓uv_makeMap, ↓uv_eql, ↓uv_neq, ↓uv_lss, ↓uv_leq, ↓uv_gtr, ↓uv_geq, ↓uv_add, ↓uv_sub, ↓uv_not, ↓uv_pick, ↓uv_streq, ↓uv_strne, ↓uv_ptreq, ↓uv_ptrne, ↓uv_func, ↓uv_extract, ↓un_len, ↓uv_and, ↓uv_or, F4_s9, F4_s9_t]
    rw [un_lenM und35 hm2.map]
    have e4 : ((((hvV []).length : Nat) : Int) == 0) = true := rfl
    simp only [↓Bc_true, ↓Bc_false, ↓Gk_hit, ↓Gk_tf, ↓Gk_ft, ↓Gk_undef, ↓GH_hit, ↓GH_tf, ↓GH_ft, ↓un_nil, ↓uv_fieldAt, ↓uv_load1, ↓uv_loadN, ↓uu_store1, ↓uv_box, ↓uv_makeMap, ↓uv_eql, ↓uv_neq, ↓uv_lss, ↓uv_leq, ↓uv_gtr, ↓uv_geq, ↓uv_add, ↓uv_sub, ↓uv_not, ↓uv_pick, ↓uv_streq, ↓uv_strne, ↓uv_ptreq, ↓uv_ptrne, ↓uv_func, ↓uv_extract, ↓un_len, ↓uv_and, ↓uv_or, e4]
    rw [← hr1.bt]
    refine un_enter (enters Try.func13 (by kernel_rfl) (by kernel_rfl) _ _) (locks_c T1 w2 hr2.tab (hr1.inv.small (by omega)) _ fun vl' w3 hrl3 hfl3 hk3 => ?_)
    rw [hL] at hrl3
    have hr3 := hr2.keep0 hk3
    simp only [un_lenR und32 hrl3, List.length_nil, ↓Bc_true, ↓Bc_false, ↓Gk_hit, ↓Gk_tf, ↓Gk_ft, ↓Gk_undef, ↓GH_hit, ↓GH_tf, ↓GH_ft, ↓un_nil, ↓uv_fieldAt, ↓uv_load1, ↓uv_loadN, ↓uu_store1, ↓uv_box, ↓uv_makeMap, ↓uv_eql, ↓uv_neq, ↓uv_lss, ↓uv_leq, ↓uv_gtr, ↓uv_geq, ↓uv_add, ↓uv_sub, ↓uv_not, ↓uv_pick, ↓uv_streq, ↓uv_strne, ↓uv_ptreq, ↓uv_ptrne, ↓uv_func, ↓uv_extract, ↓un_len, ↓uv_and, ↓uv_or, e3, if_true]
    refine un_enter (enters Try.func14 (by kernel_rfl) (by kernel_rfl) _ _) (edges_c T1 w3 hr3.tab (hr1.inv.small (by omega)) hr1.inv.waits (by rw [wlen]; have := hr1.inv.wn; omega) _ fun ve w4 he4 hf4 hk4 => ?_)
    rw [hA, edges_nil] at he4
    simp only [un_lenR und38 he4, List.length_nil, ↓Bc_true, ↓Bc_false, ↓Gk_hit, ↓Gk_tf, ↓Gk_ft, ↓Gk_undef, ↓GH_hit, ↓GH_tf, ↓GH_ft, ↓un_nil, ↓uv_fieldAt, ↓uv_load1, ↓uv_loadN, ↓uu_store1, ↓uv_box, ↓uv_makeMap, ↓uv_eql, ↓uv_neq, ↓uv_lss, ↓uv_leq, ↓uv_gtr, ↓uv_geq, ↓uv_add, ↓uv_sub, ↓uv_not, ↓uv_pick, ↓uv_streq, ↓uv_strne, ↓uv_ptreq, ↓uv_ptrne, ↓uv_func, ↓uv_extract, ↓un_len, ↓uv_and, ↓uv_or, e3, if_true]
    exact h w4 (hr3.keep0 hk4).keep
  | cons y l =>
    rw [hL] at hrl
    have hyo := locks_of hr1.inv (l := y) (by rw [hL]; exact List.mem_cons_self)
    have e3 : (((l.length + 1 : Nat) : Int) == 0) = false := by
      have : ¬ (((l.length + 1 : Nat) : Int) = 0) := by omega
      simpa using this
    obtain ⟨g, o, hgb, hgl, ix, cl⟩ := RowL.read hrl (i := 0) (x := y) rfl
    have ix' : ∀ w1, (Instr.indexAt 32 vl (.int .i64 0)).run Try.prog w1 = .ok (.pointer (some ⟨g, o, none⟩)) w1 := ix
    have c0 : Sx.cellIn (w2.heap[g]?) (o + 0) = some (.int .i64 y.txn) := lk0 cl
    simp only [List.length_cons, e3, ↓Bc_true, ↓Bc_false, ↓Gk_hit, ↓Gk_tf, ↓Gk_ft, ↓Gk_undef, ↓GH_hit, ↓GH_tf, ↓GH_ft, ↓un_nil, ↓uv_fieldAt, ↓uv_load1, ↓uv_loadN, ↓uu_store1, ↓uv_box, ↓uv_makeMap, ↓uv_eql, ↓uv_neq, ↓uv_lss, ↓uv_leq, ↓uv_gtr, ↓uv_geq, ↓uv_add, ↓uv_sub, ↓uv_not, ↓uv_pick, ↓uv_streq, ↓uv_strne, ↓uv_ptreq, ↓uv_ptrne, ↓uv_func, ↓uv_extract, ↓un_len, ↓uv_and, ↓uv_or, F4_s17, F4_s17_t, uv_eq (ix' _), fld27_0, fld27_1, fld27_2, fld27_3, fld37_0, fld37_1, fld37_2, fld53_0, fld53_1, fld59_0, fld59_1, fld62_0, fld62_1, fld62_2, fld67_0, fld81_0, fld81_1, pln3, siz3, pln4, siz4, pln9, siz9, agg27, pln35, siz35, agg37, pln50, siz50, pln51, siz51, pln57, siz57, agg62, agg81, agg91, slc22, ptr24, slc29, slc32, slc38, ptr55, ptr56, slc57, slc68, Nat.add_zero] at c0 ⊢
    simp only [c0, ↓Bc_true, ↓Bc_false, ↓Gk_hit, ↓Gk_tf, ↓Gk_ft, ↓Gk_undef, ↓GH_hit, ↓GH_tf, ↓GH_ft, ↓un_nil, ↓uv_fieldAt, ↓uv_load1, ↓uv_loadN, ↓uu_store1, ↓uv_box, ↓uv_makeMap, ↓uv_eql, ↓uv_neq, ↓uv_lss, ↓uv_leq, ↓uv_gtr, ↓uv_geq, ↓uv_add, ↓uv_sub, ↓uv_not, ↓uv_pick, ↓uv_streq, ↓uv_strne, ↓uv_ptreq, ↓uv_ptrne, ↓uv_func, ↓uv_extract, ↓un_len, ↓uv_and, ↓uv_or, fld27_0, fld27_1, fld27_2, fld27_3, fld37_0, fld37_1, fld37_2, fld53_0, fld53_1, fld59_0, fld59_1, fld62_0, fld62_1, fld62_2, fld67_0, fld81_0, fld81_1, pln3, siz3, pln4, siz4, pln9, siz9, agg27, pln35, siz35, agg37, pln50, siz50, pln51, siz51, pln57, siz57, agg62, agg81, agg91, slc22, ptr24, slc29, slc32, slc38, ptr55, ptr56, slc57, slc68, cellIn_cells, frzIn_00, setIn_cells, cellsIn_cells, List.getElem?_toArray, List.getElem?_cons_zero, List.getElem?_cons_succ, Option.isSome_some, Option.getD_some, Nat.zero_add, Nat.add_zero, List.setIfInBounds_toArray, List.set_cons_zero, List.set_cons_succ, put_same, add_new, add_old, oneV, Value.cells, List.size_toArray, List.length_cons, List.length_nil, List.extract_toArray, List.extract_eq_take_drop, Nat.reduceAdd, Nat.reduceSub, Nat.reduceLeDiff, if_true, List.drop_zero, List.take_succ_cons, List.take_zero, List.drop_succ_cons, drew_heap]
    refine un_delI hm2.map und35 fun ob hob => ?_
    rw [adel_hv] at hob
    obtain ⟨hr3, hm3, hk3⟩ := hm2.put hr2 hob
    have hgm : g ≠ mb := fun e => row_map_ne hrl hm2.map (e ▸ hgb)
    have hc3 : (World.put w2 mb ob).heap[g]? = w2.heap[g]? := put_ne (fun e => hgm e.symm)
    generalize World.put w2 mb ob = w3 at hr3 hm3 hk3 hc3 ⊢
    have c3 : Sx.cellIn (w3.heap[g]?) o = some (.int .i64 y.txn) := by rw [hc3]; exact c0
    simp only [uv_eq (ix' _), ↓Bc_true, ↓Bc_false, ↓Gk_hit, ↓Gk_tf, ↓Gk_ft, ↓Gk_undef, ↓GH_hit, ↓GH_tf, ↓GH_ft, ↓un_nil, ↓uv_fieldAt, ↓uv_load1, ↓uv_loadN, ↓uu_store1, ↓uv_box, ↓uv_makeMap, ↓uv_eql, ↓uv_neq, ↓uv_lss, ↓uv_leq, ↓uv_gtr, ↓uv_geq, ↓uv_add, ↓uv_sub, ↓uv_not, ↓uv_pick, ↓uv_streq, ↓uv_strne, ↓uv_ptreq, ↓uv_ptrne, ↓uv_func, ↓uv_extract, ↓un_len, ↓uv_and, ↓uv_or, fld27_0, fld27_1, fld27_2, fld27_3, fld37_0, fld37_1, fld37_2, fld53_0, fld53_1, fld59_0, fld59_1, fld62_0, fld62_1, fld62_2, fld67_0, fld81_0, fld81_1, pln3, siz3, pln4, siz4, pln9, siz9, agg27, pln35, siz35, agg37, pln50, siz50, pln51, siz51, pln57, siz57, agg62, agg81, agg91, slc22, ptr24, slc29, slc32, slc38, ptr55, ptr56, slc57, slc68, cellIn_cells, frzIn_00, setIn_cells, cellsIn_cells, List.getElem?_toArray, List.getElem?_cons_zero, List.getElem?_cons_succ, Option.isSome_some, Option.getD_some, Nat.zero_add, Nat.add_zero, List.setIfInBounds_toArray, List.set_cons_zero, List.set_cons_succ, put_same, add_new, add_old, oneV, Value.cells, List.size_toArray, List.length_cons, List.length_nil, List.extract_toArray, List.extract_eq_take_drop, Nat.reduceAdd, Nat.reduceSub, Nat.reduceLeDiff, if_true, List.drop_zero, List.take_succ_cons, List.take_zero, List.drop_succ_cons, drew_heap, c3]
    refine un_enter (enters Try.func11 (by kernel_rfl) (by kernel_rfl) _ _) (hr3.drop (by omega) y.txn _ fun v w4 T4 hr4 ha4 hk4 hf4 hro4 hfr4 => ?_)
    have hd := drop_inv hr1.inv y.txn
    have hm4 : MapAt w0 w4 T4 mb (pdel M1 y.txn) := ⟨by rw [hk4.keep _ (MapK_lt hm3.map) hm1.nf]; exact hm3.map, fun hf => hm1.nf (hf4 _ hf), hm1.ge⟩
    simp only [un_lenR und55' hro4]
    have hlen : (S1.filter fun x => !(x == y.txn)).length < S1.length := by
      rw [List.length_filter_lt_length_iff_exists]
      exact ⟨y.txn, hyo.inS, by simp⟩
    refine endsDrain2_c T0 T4 w0 w4 _ ops.length mb hr4 (pdel T1.abs.waits y.txn) (nd_pdel hr1.inv.wnd) _ hd.nd hd.was _ (hM1.del hr1.inv.wnd y.txn) hm4 v0 (.int .i64 i) v hro4 R _ fun w5 M5 hr5 hm5 hM5 => ?_
    have e4 : IntKind.i64.wrap ((i : Int) + 1) = ((i + 1 : Nat) : Int) := by rw [wrap_id (by omega) (by omega)]; omega
    simp only [F4_s14, F4_s14_t, ↓Bc_true, ↓Bc_false, ↓Gk_hit, ↓Gk_tf, ↓Gk_ft, ↓Gk_undef, ↓GH_hit, ↓GH_tf, ↓GH_ft, ↓un_nil, ↓uv_fieldAt, ↓uv_load1, ↓uv_loadN, ↓uu_store1, ↓uv_box, ↓uv_makeMap, ↓uv_eql, ↓uv_neq, ↓uv_lss, ↓uv_leq, ↓uv_gtr, ↓uv_geq, ↓uv_add, ↓uv_sub, ↓uv_not, ↓uv_pick, ↓uv_streq, ↓uv_strne, ↓uv_ptreq, ↓uv_ptrne, ↓uv_func, ↓uv_extract, ↓un_len, ↓uv_and, ↓uv_or, e4]
    refine ⟨⟨i + 1, T4, _, M5, rfl, hr5, by omega, hm5, ?_⟩, by simp; omega⟩
    rw [ha4, hd.W]
    exact hM5
theorem locksEnds_c (v0 : Value) (ops : List Op) (w : World) (ha : ArgO w v0 ops) (hn : ops.length ≤ 1048575) (hwf : ∀ o ∈ ops, o.ok) (R : Ending → World → Prop)
    (h : ∀ w', Keep0 w w' → R (.returned (.bool true)) w') : Calls Try.prog 4 #[v0] w R := by
  apply F4_calls
  simp only [F4_s1, F4_s1_t]
  refine un_enter (enters Try.func8 (by kernel_rfl) (by kernel_rfl) _ _) (speaks_c w _ fun wa hka => ?_)
  simp only [↓Bc_true, ↓Bc_false, ↓Gk_hit, ↓Gk_tf, ↓Gk_ft, ↓Gk_undef, ↓GH_hit, ↓GH_tf, ↓GH_ft, ↓un_nil, ↓uv_fieldAt, ↓uv_load1, ↓uv_loadN, ↓uu_store1, ↓uv_box, ↓uv_makeMap, ↓uv_eql, ↓uv_neq, ↓uv_lss, ↓uv_leq, ↓uv_gtr, ↓uv_geq, ↓uv_add, ↓uv_sub, ↓uv_not, ↓uv_pick, ↓uv_streq, ↓uv_strne, ↓uv_ptreq, ↓uv_ptrne, ↓uv_func, ↓uv_extract, ↓un_len, ↓uv_and, ↓uv_or, Bool.not_true, F4_s2, F4_s3, F4_s3_t]
  refine un_enter (enters Try.func9 (by kernel_rfl) (by kernel_rfl) _ _) (new_c wa _ fun wb ht hkb => ?_)
  generalize hT : ({ bt := wa.heap.size + 2, bT := wa.heap.size, bW := wa.heap.size + 1, things := [], waits := [] } : Tab) = T0 at ht
  have hbt : T0.bt = wa.heap.size + 2 := by rw [← hT]
  have hW0 : T0.abs.waits = [] := by rw [← hT]; rfl
  have hsa := hka.size
  have hrun : Run T0 w wb T0 [] 0 := by
    refine ⟨ht, rfl, by rw [← hT]; exact Inv.empty, Nat.le_refl _, ?_, hka.trans hkb (fun _ _ h => h)⟩
    rw [← hT]
    rintro b (rfl | rfl | rfl | ⟨p, hp, _⟩ | ⟨p, hp, _⟩)
    · show w.heap.size ≤ wa.heap.size + 2; omega
    · exact hsa
    · show w.heap.size ≤ wa.heap.size + 1; omega
    · cases hp
    · cases hp
  rw [← hbt]
  simp only [↓Bc_true, ↓Bc_false, ↓Gk_hit, ↓Gk_tf, ↓Gk_ft, ↓Gk_undef, ↓GH_hit, ↓GH_tf, ↓GH_ft, ↓un_nil, ↓uv_fieldAt, ↓uv_load1, ↓uv_loadN, ↓uu_store1, ↓uv_box, ↓uv_makeMap, ↓uv_eql, ↓uv_neq, ↓uv_lss, ↓uv_leq, ↓uv_gtr, ↓uv_geq, ↓uv_add, ↓uv_sub, ↓uv_not, ↓uv_pick, ↓uv_streq, ↓uv_strne, ↓uv_ptreq, ↓uv_ptrne, ↓uv_func, ↓uv_extract, ↓un_len, ↓uv_and, ↓uv_or, fld27_0, fld27_1, fld27_2, fld27_3, fld37_0, fld37_1, fld37_2, fld53_0, fld53_1, fld59_0, fld59_1, fld62_0, fld62_1, fld62_2, fld67_0, fld81_0, fld81_1, pln3, siz3, pln4, siz4, pln9, siz9, agg27, pln35, siz35, agg37, pln50, siz50, pln51, siz51, pln57, siz57, agg62, agg81, agg91, slc22, ptr24, slc29, slc32, slc38, ptr55, ptr56, slc57, slc68, Option.isNone_some, F4_s4, F4_s5, F4_s5_t, ha.len, F4_s28]
  have hkc : Keep0 wb (World.add wb (.map #[] 0)) := (Keep.refl _ wb).add
  have hm0 : MapAt w (World.add wb (.map #[] 0)) T0 wb.heap.size [] := ⟨by rw [add_new]; exact MapK.empty _, fun hf => by have := ht.lt hf; omega, hrun.keep.size⟩
  generalize World.add wb (.map #[] 0) = wc at hkc hm0
  generalize wb.heap.size = mb at hm0 ⊢
  refine ⟨fun v13 w' => ∃ (i : Nat) (T : Tab) (S : List Int) (M : List (Int × Int)), v13 = .int .i64 i ∧ i ≤ ops.length ∧ Run T0 w w' T S i ∧ MapAt w w' T mb M ∧ MW M T.abs.waits, fun v13 _ => match v13 with | .int _ i => ops.length - i.toNat | _ => 0,
    ⟨0, T0, [], [], rfl, by omega, hrun.keep0 hkc, hm0, by rw [hW0]; exact MW.start⟩, ?_⟩
  rintro v13 w1 ⟨i, T, S, M, rfl, hi, hr, hm, hM⟩
  simp only [F4_s29, F4_s29_t, ↓Bc_true, ↓Bc_false, ↓Gk_hit, ↓Gk_tf, ↓Gk_ft, ↓Gk_undef, ↓GH_hit, ↓GH_tf, ↓GH_ft, ↓un_nil, ↓uv_fieldAt, ↓uv_load1, ↓uv_loadN, ↓uu_store1, ↓uv_box, ↓uv_makeMap, ↓uv_eql, ↓uv_neq, ↓uv_lss, ↓uv_leq, ↓uv_gtr, ↓uv_geq, ↓uv_add, ↓uv_sub, ↓uv_not, ↓uv_pick, ↓uv_streq, ↓uv_strne, ↓uv_ptreq, ↓uv_ptrne, ↓uv_func, ↓uv_extract, ↓un_len, ↓uv_and, ↓uv_or, F4_s30]
  by_cases hlt : i < ops.length
  · have e1 : decide ((i : Int) < (ops.length : Int)) = true := by rw [decide_eq_true_eq]; omega
    have e4 : IntKind.i64.wrap ((i : Int) + 1) = ((i + 1 : Nat) : Int) := by rw [wrap_id (by omega) (by omega)]; omega
    obtain ⟨x, hx⟩ : ∃ x, ops[i]? = some x := ⟨ops[i], List.getElem?_eq_getElem hlt⟩
    have hxo := hwf x (List.mem_of_getElem? hx)
    have rest : ∀ w3 T' S' M', Run T0 w w3 T' S' (i + 1) → MapAt w w3 T' mb M' → MW M' T'.abs.waits → F4_s32 R (fun y0 w' => (∃ (i : Nat) (T : Tab) (S : List Int) (M : List (Int × Int)), y0 = .int .i64 i ∧ i ≤ ops.length ∧ Run T0 w w' T S i ∧ MapAt w w' T mb M ∧ MW M T.abs.waits) ∧
        (match y0 with | .int _ i => ops.length - i.toNat | _ => 0) < (match (Value.int .i64 i) with | .int _ i => ops.length - i.toNat | _ => 0)) v0 (ptr T0.bt) (.map (some mb)) v0 (.int .i64 ops.length) (.int .i64 i) w3 := by
      intro w3 T' S' M' hr3 hm3 hM3
      simp only [F4_s32, F4_s32_t, ↓Bc_true, ↓Bc_false, ↓Gk_hit, ↓Gk_tf, ↓Gk_ft, ↓Gk_undef, ↓GH_hit, ↓GH_tf, ↓GH_ft, ↓un_nil, ↓uv_fieldAt, ↓uv_load1, ↓uv_loadN, ↓uu_store1, ↓uv_box, ↓uv_makeMap, ↓uv_eql, ↓uv_neq, ↓uv_lss, ↓uv_leq, ↓uv_gtr, ↓uv_geq, ↓uv_add, ↓uv_sub, ↓uv_not, ↓uv_pick, ↓uv_streq, ↓uv_strne, ↓uv_ptreq, ↓uv_ptrne, ↓uv_func, ↓uv_extract, ↓un_len, ↓uv_and, ↓uv_or, e4]
      exact ⟨⟨i + 1, T', S', M', rfl, by omega, hr3, hm3, hM3⟩, by simp; omega⟩
    simp only [e1, ↓Bc_true, ↓Bc_false, ↓Gk_hit, ↓Gk_tf, ↓Gk_ft, ↓Gk_undef, ↓GH_hit, ↓GH_tf, ↓GH_ft, ↓un_nil, ↓uv_fieldAt, ↓uv_load1, ↓uv_loadN, ↓uu_store1, ↓uv_box, ↓uv_makeMap, ↓uv_eql, ↓uv_neq, ↓uv_lss, ↓uv_leq, ↓uv_gtr, ↓uv_geq, ↓uv_add, ↓uv_sub, ↓uv_not, ↓uv_pick, ↓uv_streq, ↓uv_strne, ↓uv_ptreq, ↓uv_ptrne, ↓uv_func, ↓uv_extract, ↓un_len, ↓uv_and, ↓uv_or, F4_s33, F4_s33_t]
    refine (ha.keep hr.keep).box hx fun b w2 hkb2 hb hcell => ?_
    have hr2 := hr.keep0 hkb2
    have hm2 := hm.keep0 hkb2
    have hbm : b ≠ mb := fun e => by
      obtain ⟨es, cl, he, _⟩ := hm2.map
      rw [← e, hcell] at he; cases he
    have hbT : ¬ T.foot b := fun hf => by have := hr.tab.lt hf; omega
    simp only [↓Bc_true, ↓Bc_false, ↓Gk_hit, ↓Gk_tf, ↓Gk_ft, ↓Gk_undef, ↓GH_hit, ↓GH_tf, ↓GH_ft, ↓un_nil, ↓uv_fieldAt, ↓uv_load1, ↓uv_loadN, ↓uu_store1, ↓uv_box, ↓uv_makeMap, ↓uv_eql, ↓uv_neq, ↓uv_lss, ↓uv_leq, ↓uv_gtr, ↓uv_geq, ↓uv_add, ↓uv_sub, ↓uv_not, ↓uv_pick, ↓uv_streq, ↓uv_strne, ↓uv_ptreq, ↓uv_ptrne, ↓uv_func, ↓uv_extract, ↓un_len, ↓uv_and, ↓uv_or, fld27_0, fld27_1, fld27_2, fld27_3, fld37_0, fld37_1, fld37_2, fld53_0, fld53_1, fld59_0, fld59_1, fld62_0, fld62_1, fld62_2, fld67_0, fld81_0, fld81_1, pln3, siz3, pln4, siz4, pln9, siz9, agg27, pln35, siz35, agg37, pln50, siz50, pln51, siz51, pln57, siz57, agg62, agg81, agg91, slc22, ptr24, slc29, slc32, slc38, ptr55, ptr56, slc57, slc68, cellIn_cells, frzIn_00, setIn_cells, cellsIn_cells, List.getElem?_toArray, List.getElem?_cons_zero, List.getElem?_cons_succ, Option.isSome_some, Option.getD_some, Nat.zero_add, Nat.add_zero, List.setIfInBounds_toArray, List.set_cons_zero, List.set_cons_succ, put_same, add_new, add_old, oneV, Value.cells, List.size_toArray, List.length_cons, List.length_nil, List.extract_toArray, List.extract_eq_take_drop, Nat.reduceAdd, Nat.reduceSub, Nat.reduceLeDiff, if_true, List.drop_zero, List.take_succ_cons, List.take_zero, List.drop_succ_cons, drew_heap, hcell, F4_s34]
    cases hc : decide (band x.kind 3 < 3)
    · simp only [↓Bc_true, ↓Bc_false, ↓Gk_hit, ↓Gk_tf, ↓Gk_ft, ↓Gk_undef, ↓GH_hit, ↓GH_tf, ↓GH_ft, ↓un_nil, ↓uv_fieldAt, ↓uv_load1, ↓uv_loadN, ↓uu_store1, ↓uv_box, ↓uv_makeMap, ↓uv_eql, ↓uv_neq, ↓uv_lss, ↓uv_leq, ↓uv_gtr, ↓uv_geq, ↓uv_add, ↓uv_sub, ↓uv_not, ↓uv_pick, ↓uv_streq, ↓uv_strne, ↓uv_ptreq, ↓uv_ptrne, ↓uv_func, ↓uv_extract, ↓un_len, ↓uv_and, ↓uv_or, F4_s35, F4_s35_t, fld27_0, fld27_1, fld27_2, fld27_3, fld37_0, fld37_1, fld37_2, fld53_0, fld53_1, fld59_0, fld59_1, fld62_0, fld62_1, fld62_2, fld67_0, fld81_0, fld81_1, pln3, siz3, pln4, siz4, pln9, siz9, agg27, pln35, siz35, agg37, pln50, siz50, pln51, siz51, pln57, siz57, agg62, agg81, agg91, slc22, ptr24, slc29, slc32, slc38, ptr55, ptr56, slc57, slc68, cellIn_cells, frzIn_00, setIn_cells, cellsIn_cells, List.getElem?_toArray, List.getElem?_cons_zero, List.getElem?_cons_succ, Option.isSome_some, Option.getD_some, Nat.zero_add, Nat.add_zero, List.setIfInBounds_toArray, List.set_cons_zero, List.set_cons_succ, put_same, add_new, add_old, oneV, Value.cells, List.size_toArray, List.length_cons, List.length_nil, List.extract_toArray, List.extract_eq_take_drop, Nat.reduceAdd, Nat.reduceSub, Nat.reduceLeDiff, if_true, List.drop_zero, List.take_succ_cons, List.take_zero, List.drop_succ_cons, drew_heap, hcell]
      refine un_delI hm2.map und35 fun ob hob => ?_
      rw [adel_hv] at hob
      obtain ⟨hr3, hm3, hk3⟩ := hm2.put hr2 hob
      have hcell3 := hk3.at hcell hbm
      generalize World.put w2 mb ob = w3 at hr3 hm3 hk3 hcell3 ⊢
      simp only [↓Bc_true, ↓Bc_false, ↓Gk_hit, ↓Gk_tf, ↓Gk_ft, ↓Gk_undef, ↓GH_hit, ↓GH_tf, ↓GH_ft, ↓un_nil, ↓uv_fieldAt, ↓uv_load1, ↓uv_loadN, ↓uu_store1, ↓uv_box, ↓uv_makeMap, ↓uv_eql, ↓uv_neq, ↓uv_lss, ↓uv_leq, ↓uv_gtr, ↓uv_geq, ↓uv_add, ↓uv_sub, ↓uv_not, ↓uv_pick, ↓uv_streq, ↓uv_strne, ↓uv_ptreq, ↓uv_ptrne, ↓uv_func, ↓uv_extract, ↓un_len, ↓uv_and, ↓uv_or, fld27_0, fld27_1, fld27_2, fld27_3, fld37_0, fld37_1, fld37_2, fld53_0, fld53_1, fld59_0, fld59_1, fld62_0, fld62_1, fld62_2, fld67_0, fld81_0, fld81_1, pln3, siz3, pln4, siz4, pln9, siz9, agg27, pln35, siz35, agg37, pln50, siz50, pln51, siz51, pln57, siz57, agg62, agg81, agg91, slc22, ptr24, slc29, slc32, slc38, ptr55, ptr56, slc57, slc68, cellIn_cells, frzIn_00, setIn_cells, cellsIn_cells, List.getElem?_toArray, List.getElem?_cons_zero, List.getElem?_cons_succ, Option.isSome_some, Option.getD_some, Nat.zero_add, Nat.add_zero, List.setIfInBounds_toArray, List.set_cons_zero, List.set_cons_succ, put_same, add_new, add_old, oneV, Value.cells, List.size_toArray, List.length_cons, List.length_nil, List.extract_toArray, List.extract_eq_take_drop, Nat.reduceAdd, Nat.reduceSub, Nat.reduceLeDiff, if_true, List.drop_zero, List.take_succ_cons, List.take_zero, List.drop_succ_cons, drew_heap, hcell3]
      refine un_enter (enters Try.func11 (by kernel_rfl) (by kernel_rfl) _ _) (hr3.drop (by omega) x.txn _ fun v w4 T4 hr4 ha4 hk4 hf4 hro4 hfr4 => ?_)
      have hd := drop_inv hr.inv x.txn
      have hm4 : MapAt w w4 T4 mb (pdel M x.txn) := ⟨by rw [hk4.keep _ (MapK_lt hm3.map) hm.nf]; exact hm3.map, fun hf => hm.nf (hf4 _ hf), hm.ge⟩
      simp only [un_lenR und55' hro4]
      refine endsDrain1_c T0 T4 w w4 _ i mb hr4 (pdel T.abs.waits x.txn) (nd_pdel hr.inv.wnd) _ hd.nd hd.was _ (hM.del hr.inv.wnd x.txn) hm4 v0 v0 (.int .i64 ops.length) (.int .i64 i) v hro4 R _ fun w5 M5 hr5 hm5 hM5 => ?_
      refine rest w5 T4 _ M5 (hr5.mono (by omega)) hm5 ?_
      rw [ha4, hd.W]
      exact hM5
    · simp only [↓Bc_true, ↓Bc_false, ↓Gk_hit, ↓Gk_tf, ↓Gk_ft, ↓Gk_undef, ↓GH_hit, ↓GH_tf, ↓GH_ft, ↓un_nil, ↓uv_fieldAt, ↓uv_load1, ↓uv_loadN, ↓uu_store1, ↓uv_box, ↓uv_makeMap, ↓uv_eql, ↓uv_neq, ↓uv_lss, ↓uv_leq, ↓uv_gtr, ↓uv_geq, ↓uv_add, ↓uv_sub, ↓uv_not, ↓uv_pick, ↓uv_streq, ↓uv_strne, ↓uv_ptreq, ↓uv_ptrne, ↓uv_func, ↓uv_extract, ↓un_len, ↓uv_and, ↓uv_or, F4_s46, F4_s46_t, fld27_0, fld27_1, fld27_2, fld27_3, fld37_0, fld37_1, fld37_2, fld53_0, fld53_1, fld59_0, fld59_1, fld62_0, fld62_1, fld62_2, fld67_0, fld81_0, fld81_1, pln3, siz3, pln4, siz4, pln9, siz9, agg27, pln35, siz35, agg37, pln50, siz50, pln51, siz51, pln57, siz57, agg62, agg81, agg91, slc22, ptr24, slc29, slc32, slc38, ptr55, ptr56, slc57, slc68, cellIn_cells, frzIn_00, setIn_cells, cellsIn_cells, List.getElem?_toArray, List.getElem?_cons_zero, List.getElem?_cons_succ, Option.isSome_some, Option.getD_some, Nat.zero_add, Nat.add_zero, List.setIfInBounds_toArray, List.set_cons_zero, List.set_cons_succ, put_same, add_new, add_old, oneV, Value.cells, List.size_toArray, List.length_cons, List.length_nil, List.extract_toArray, List.extract_eq_take_drop, Nat.reduceAdd, Nat.reduceSub, Nat.reduceLeDiff, if_true, List.drop_zero, List.take_succ_cons, List.take_zero, List.drop_succ_cons, drew_heap, hcell]
      refine un_enter (enters Try.func10 (by kernel_rfl) (by kernel_rfl) _ _) (hr2.ask (by omega) x.txn x.res x.mode hxo.1 hxo.2 _ fun w3 T' hr3 ha3 hk3 hf3 => ?_)
      have hm3 : MapAt w w3 T' mb M := ⟨by rw [hk3.keep _ (MapK_lt hm2.map) hm.nf]; exact hm2.map, fun hf => (hf3 _ hf).elim hm.nf (fun hh => by have := MapK_lt hm2.map; omega), hm.ge⟩
      have hcell3 := hk3.at hcell hbT
      simp only [↓Bc_true, ↓Bc_false, ↓Gk_hit, ↓Gk_tf, ↓Gk_ft, ↓Gk_undef, ↓GH_hit, ↓GH_tf, ↓GH_ft, ↓un_nil, ↓uv_fieldAt, ↓uv_load1, ↓uv_loadN, ↓uu_store1, ↓uv_box, ↓uv_makeMap, ↓uv_eql, ↓uv_neq, ↓uv_lss, ↓uv_leq, ↓uv_gtr, ↓uv_geq, ↓uv_add, ↓uv_sub, ↓uv_not, ↓uv_pick, ↓uv_streq, ↓uv_strne, ↓uv_ptreq, ↓uv_ptrne, ↓uv_func, ↓uv_extract, ↓un_len, ↓uv_and, ↓uv_or, F4_s47]
      rcases ask_waits hr.inv x.txn x.res x.mode with ⟨h1, h2, h3⟩ | ⟨h1, h3⟩
      · have e5 : IntKind.i64.wrap ((0 : Int) + 1) = 1 := by decide
        have e6 : ((2 : Int) == 2) = true := rfl
        rw [h1]
        simp only [e6, ↓Bc_true, ↓Bc_false, ↓Gk_hit, ↓Gk_tf, ↓Gk_ft, ↓Gk_undef, ↓GH_hit, ↓GH_tf, ↓GH_ft, ↓un_nil, ↓uv_fieldAt, ↓uv_load1, ↓uv_loadN, ↓uu_store1, ↓uv_box, ↓uv_makeMap, ↓uv_eql, ↓uv_neq, ↓uv_lss, ↓uv_leq, ↓uv_gtr, ↓uv_geq, ↓uv_add, ↓uv_sub, ↓uv_not, ↓uv_pick, ↓uv_streq, ↓uv_strne, ↓uv_ptreq, ↓uv_ptrne, ↓uv_func, ↓uv_extract, ↓un_len, ↓uv_and, ↓uv_or, F4_s48, F4_s48_t, fld27_0, fld27_1, fld27_2, fld27_3, fld37_0, fld37_1, fld37_2, fld53_0, fld53_1, fld59_0, fld59_1, fld62_0, fld62_1, fld62_2, fld67_0, fld81_0, fld81_1, pln3, siz3, pln4, siz4, pln9, siz9, agg27, pln35, siz35, agg37, pln50, siz50, pln51, siz51, pln57, siz57, agg62, agg81, agg91, slc22, ptr24, slc29, slc32, slc38, ptr55, ptr56, slc57, slc68, cellIn_cells, frzIn_00, setIn_cells, cellsIn_cells, List.getElem?_toArray, List.getElem?_cons_zero, List.getElem?_cons_succ, Option.isSome_some, Option.getD_some, Nat.zero_add, Nat.add_zero, List.setIfInBounds_toArray, List.set_cons_zero, List.set_cons_succ, put_same, add_new, add_old, oneV, Value.cells, List.size_toArray, List.length_cons, List.length_nil, List.extract_toArray, List.extract_eq_take_drop, Nat.reduceAdd, Nat.reduceSub, Nat.reduceLeDiff, if_true, List.drop_zero, List.take_succ_cons, List.take_zero, List.drop_succ_cons, drew_heap, hcell3, uv_lookI hm3.map und35 zer3, aget_hv, hM.zero h2, e5]
        refine uu_updI hm3.map und35 fun o ho => ?_
        rw [aset_hv] at ho
        obtain ⟨hr4, hm4, hk4⟩ := hm3.put hr3 ho
        refine rest _ T' _ _ hr4 hm4 ?_
        rw [ha3, h3]
        exact hM.set x.txn x.res
      · have e6 : ((ask T.abs x.txn x.res x.mode).1 == 2) = false := by simpa using h1
        simp only [e6, ↓Bc_true, ↓Bc_false, ↓Gk_hit, ↓Gk_tf, ↓Gk_ft, ↓Gk_undef, ↓GH_hit, ↓GH_tf, ↓GH_ft, ↓un_nil, ↓uv_fieldAt, ↓uv_load1, ↓uv_loadN, ↓uu_store1, ↓uv_box, ↓uv_makeMap, ↓uv_eql, ↓uv_neq, ↓uv_lss, ↓uv_leq, ↓uv_gtr, ↓uv_geq, ↓uv_add, ↓uv_sub, ↓uv_not, ↓uv_pick, ↓uv_streq, ↓uv_strne, ↓uv_ptreq, ↓uv_ptrne, ↓uv_func, ↓uv_extract, ↓un_len, ↓uv_and, ↓uv_or]
        refine rest w3 T' _ M hr3 hm3 ?_
        rw [ha3, h3]
        exact hM
  · have e1 : decide ((i : Int) < (ops.length : Int)) = false := by rw [decide_eq_false_iff_not]; omega
    have hil : i = ops.length := by omega
    rw [hil] at hr
    simp only [e1, ↓Bc_true, ↓Bc_false, ↓Gk_hit, ↓Gk_tf, ↓Gk_ft, ↓Gk_undef, ↓GH_hit, ↓GH_tf, ↓GH_ft, ↓un_nil, ↓uv_fieldAt, ↓uv_load1, ↓uv_loadN, ↓uu_store1, ↓uv_box, ↓uv_makeMap, ↓uv_eql, ↓uv_neq, ↓uv_lss, ↓uv_leq, ↓uv_gtr, ↓uv_geq, ↓uv_add, ↓uv_sub, ↓uv_not, ↓uv_pick, ↓uv_streq, ↓uv_strne, ↓uv_ptreq, ↓uv_ptrne, ↓uv_func, ↓uv_extract, ↓un_len, ↓uv_and, ↓uv_or]
    exact endsAll_c T0 T w w1 S mb v0 ops ha hn hr M hm hM R h
end Go.Proofs.Ytpghlemcgjogpaa
