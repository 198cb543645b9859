/- LocksRow: the walk. -/
import Derived.Test.YtpghlemcgjogpaaCT
import Derived.Test.YtpghlemcgjogpaaFDB
set_option linter.unusedVariables false
set_option linter.unusedSimpArgs false
set_option linter.unnecessarySimpa false
set_option maxRecDepth 100000
namespace Go.Proofs.Ytpghlemcgjogpaa
open Go.Sx

/-- A slice of ints that came in. -/
def ArgI (w : World) (v : Value) (l : List Int) : Prop := ∃ a cap, v = .slice a l.length cap ∧ ∀ j x, l[j]? = some x → ∃ g off, a = some ⟨g, off, none⟩ ∧ g < w.heap.size ∧ Sx.cellIn (w.heap[g]?) (off + j) = some (.int .i64 x)
theorem ArgI.keep {w w' : World} {v : Value} {l : List Int} (h : ArgI w v l) (hk : Keep0 w w') : ArgI w' v l := by
  obtain ⟨a, cap, rfl, h⟩ := h
  refine ⟨a, cap, rfl, fun j x hx => ?_⟩
  obtain ⟨g, off, e, hl, hc⟩ := h j x hx
  exact ⟨g, off, e, Nat.lt_of_lt_of_le hl hk.size, by rw [hk.keep g hl id]; exact hc⟩
theorem ArgI.read {w : World} {v : Value} {l : List Int} {i : Nat} {x : Int} (h : ArgI w v l) (hx : l[i]? = some x) : ∃ p, (Instr.indexAt 29 v (.int .i64 i)).run Try.prog w = .ok p w ∧ (Instr.loadAt 3 p).run Try.prog w = .ok (.int .i64 x) w := by
  obtain ⟨a, cap, rfl, h⟩ := h
  obtain ⟨g, off, rfl, hl, hc⟩ := h i x hx
  have hlt := (List.getElem?_eq_some_iff.1 hx).1
  have := run_indexAt (P := Try.prog) (w := w) (g := g) (off := off) (n := l.length) (c := cap) (q := .i64) (i := (i : Int)) und55' siz3' (by omega) (by omega)
  simp only [Int.toNat_natCast, Nat.mul_one] at this
  exact ⟨_, this, run_load1 (by kernel_rfl) hc⟩
theorem ArgI.len {w : World} {v : Value} {l : List Int} {R : Ending → World → Prop} {w1 : World} {ty : Nat} {cs : Array Bool} {k : Value → World → Prop} (h : ArgI w v l) : un Try.prog R (builtin .len #[29] ty cs #[v]) w1 k = k (.int .i64 l.length) w1 := by
  obtain ⟨a, cap, rfl, _⟩ := h
  exact un_len (by kernel_rfl)
theorem rowLoHi {w : World} {t e sz n lo hi : Nat} {v : Value} {xs : List Value} {P : Program} {q q' : IntKind} (h : Row w e sz v n xs) (h1 : lo ≤ hi) (h2 : hi ≤ n) (ht : P.underlying t = some (.slice e)) (hs : (P.info? e).map (·.size) = some sz) (w1 : World) :
    (Instr.sliceAt t v (some (.int q lo)) (some (.int q' hi)) none).run P w1 = .ok (dropV sz (takeV v hi) lo) w1 := by
  have hc := h.n_cap.1
  obtain ⟨a, c, rfl⟩ := h.len
  simp only [capV] at hc
  obtain ⟨inf, hi', hn⟩ := Option.map_eq_some_iff.1 hs
  have a1 : (0 : Int) ≤ (hi : Int) := by omega
  have a2 : (hi : Int) ≤ (c : Int) := by omega
  have a3 : (0 : Int) ≤ (lo : Int) := by omega
  have a4 : (lo : Int) ≤ (hi : Int) := by omega
  have a5 : hi ≤ c := by omega
  simp [Instr.sliceAt, Instr.slice, Instr.sliceBounds, Instr.sliceBound, asIntOf, run_underlying ht, a1, a2, a3, a4, a5, h1, sizeOf, typeInfo, hi', hn, takeV, dropV, go_sem]
theorem bsl0 (w : World) : (Instr.buildSlice 29 0 #[]).run Try.prog w = .ok (.slice (some ⟨w.heap.size, 0, none⟩) 0 0) (World.add w (.cells #[] 3)) := by kernel_rfl
theorem ints_take (l : List Int) (i : Nat) : (ints l).take i = ints (l.take i) := by simp [ints, List.map_take]
theorem ints_drop (l : List Int) (i : Nat) : (ints l).drop i = ints (l.drop i) := by simp [ints, List.map_drop]

/-- The second half: one after the other drops. -/
theorem rowDrops_c (T0 : Tab) (l : List Int) (w0 wB : World) (v4 : Value) (ht0 : TabAt w0 T0) (ha0 : T0.abs = rowA l) (hnd : l.Nodup) (hl : l.length ≤ 1048576) (hwf : ∀ t ∈ l, (Lit.int .i64 t).wf = true) (hr0 : RowI w0 v4 l) (hsep : ∀ g, rowB v4 = some g → ¬ T0.foot g) (R : Ending → World → Prop)
    (h : ∀ w', Keep T0.foot w0 w' → R (.returned (.bool true)) w') : F7_s7 R (ptr T0.bt) v4 w0 := by
  simp only [F7_s7, F7_s7_t, un_lenR und55' hr0, F7_s10]
  refine ⟨fun v48 w' => ∃ (i : Nat) (T : Tab), v48 = .int .i64 i ∧ i ≤ l.length ∧ TabAt w' T ∧ T.bt = T0.bt ∧ T.abs = rowA (l.drop i) ∧ (∀ b, T.foot b → T0.foot b) ∧ Keep T0.foot w0 w',
    fun v48 _ => match v48 with | .int _ i => l.length - i.toNat | _ => 0, ⟨0, T0, rfl, by omega, ht0, rfl, ha0, fun _ h => h, Keep.refl _ w0⟩, ?_⟩
  rintro v48 w1 ⟨i, T, rfl, hi, ht1, hbt1, ha1, hf1, hk1⟩
  have hr1 : RowI w1 v4 l := hr0.keep hk1 hsep
  simp only [F7_s11, F7_s11_t, ↓Bc_true, ↓Bc_false, ↓Gk_hit, ↓Gk_tf, ↓Gk_ft, ↓Gk_undef, ↓GH_hit, ↓GH_tf, ↓GH_ft, ↓un_nil, ↓uv_fieldAt, ↓uv_load1, ↓uv_loadN, ↓uu_store1, ↓uv_box, ↓uv_makeMap, ↓uv_eql, ↓uv_neq, ↓uv_lss, ↓uv_leq, ↓uv_gtr, ↓uv_geq, ↓uv_add, ↓uv_sub, ↓uv_not, ↓uv_pick, ↓uv_streq, ↓uv_strne, ↓uv_ptreq, ↓uv_ptrne, ↓uv_func, ↓uv_extract, ↓un_len, ↓uv_and, ↓uv_or, F7_s12]
  by_cases hlt : i < l.length
  · have e1 : decide ((i : Int) < (l.length : Int)) = true := by rw [decide_eq_true_eq]; omega
    obtain ⟨x, hx⟩ : ∃ x, l[i]? = some x := ⟨l[i], List.getElem?_eq_getElem hlt⟩
    have hdr : l.drop i = x :: l.drop (i + 1) := by
      rw [List.drop_eq_getElem_cons hlt]
      congr 1
      exact (List.getElem?_eq_some_iff.1 hx).2
    obtain ⟨p, ix, lx⟩ := RowI.read hr1 hx
    simp only [e1, ↓Bc_true, ↓Bc_false, ↓Gk_hit, ↓Gk_tf, ↓Gk_ft, ↓Gk_undef, ↓GH_hit, ↓GH_tf, ↓GH_ft, ↓un_nil, ↓uv_fieldAt, ↓uv_load1, ↓uv_loadN, ↓uu_store1, ↓uv_box, ↓uv_makeMap, ↓uv_eql, ↓uv_neq, ↓uv_lss, ↓uv_leq, ↓uv_gtr, ↓uv_geq, ↓uv_add, ↓uv_sub, ↓uv_not, ↓uv_pick, ↓uv_streq, ↓uv_strne, ↓uv_ptreq, ↓uv_ptrne, ↓uv_func, ↓uv_extract, ↓un_len, ↓uv_and, ↓uv_or, F7_s15, F7_s15_t, uv_eq (ix _), uv_eq (lx w1 fun g _ => rfl)]
    rw [← hbt1]
    have hsm : Small T.abs := by
      rw [ha1]
      exact small_row _ (by rw [List.length_drop]; omega) fun t ht => hwf t (List.mem_of_mem_drop ht)
    refine un_enter (enters Try.func11 (by kernel_rfl) (by kernel_rfl) _ _) (drop_c T x w1 ht1 hsm _ fun vd w2 T2 ht2 hb2 ha2 hf2 hk2 hrd hfd => ?_)
    have hdp : dropF T.abs x = ((l.drop (i + 1)).take 1, rowA (l.drop (i + 1))) := by
      rw [ha1, hdr]
      exact drop_row x _ (by rw [← hdr]; exact hnd.sublist (List.drop_sublist i l))
    rw [hdp] at ha2 hrd
    have hk02 : Keep T0.foot w0 w2 := hk1.trans hk2 (fun b _ hb => hf1 b hb)
    have hr2 : RowI w2 v4 l := hr0.keep hk02 hsep
    have e3 : IntKind.i64.wrap ((i : Int) + 1) = ((i + 1 : Nat) : Int) := by rw [wrap_id (by omega) (by omega)]; omega
    have e4 : IntKind.i64.wrap ((i : Int) + 2) = ((i + 2 : Nat) : Int) := by rw [wrap_id (by omega) (by omega)]; omega
    have next : ∀ w3, Keep0 w2 w3 → (∃ (i' : Nat) (T' : Tab), (Value.int .i64 ((i + 1 : Nat) : Int)) = .int .i64 i' ∧ i' ≤ l.length ∧ TabAt w3 T' ∧ T'.bt = T.bt ∧ T'.abs = rowA (l.drop i') ∧ (∀ b, T'.foot b → T0.foot b) ∧ Keep T0.foot w0 w3) ∧ l.length - (i + 1) < l.length - i := fun w3 hk3 =>
      ⟨⟨i + 1, T2, rfl, by omega, ht2.keep0 hk3, hb2, ha2, fun b hb => hf1 b (hf2 b hb), hk02.trans hk3 (fun _ _ h => h.elim)⟩, by omega⟩
    simp only [un_lenR und55' hr2, ↓Bc_true, ↓Bc_false, ↓Gk_hit, ↓Gk_tf, ↓Gk_ft, ↓Gk_undef, ↓GH_hit, ↓GH_tf, ↓GH_ft, ↓un_nil, ↓uv_fieldAt, ↓uv_load1, ↓uv_loadN, ↓uu_store1, ↓uv_box, ↓uv_makeMap, ↓uv_eql, ↓uv_neq, ↓uv_lss, ↓uv_leq, ↓uv_gtr, ↓uv_geq, ↓uv_add, ↓uv_sub, ↓uv_not, ↓uv_pick, ↓uv_streq, ↓uv_strne, ↓uv_ptreq, ↓uv_ptrne, ↓uv_func, ↓uv_extract, ↓un_len, ↓uv_and, ↓uv_or, e3, e4]
    by_cases hl2 : i + 1 < l.length
    · have e5 : decide (((i + 1 : Nat) : Int) < (l.length : Int)) = true := by rw [decide_eq_true_eq]; omega
      have e6 : (((i + 1 : Nat) : Int) == (l.length : Int)) = false := by
        have : ¬ (((i + 1 : Nat) : Int) = (l.length : Int)) := by omega
        simpa using this
      have hsub : RowI w2 (dropV 1 (takeV v4 (i + 2)) (i + 1)) ((l.drop (i + 1)).take 1) := by
        have h1 := (hr2.tak (l := i + 2) (by omega)).drp (l := i + 1) (by omega)
        rw [Nat.mul_one, Nat.mul_one, ints_take, ints_drop, List.drop_take, show i + 2 - (i + 1) = 1 by omega] at h1
        have hlen : ((l.drop (i + 1)).take 1).length = 1 := by rw [List.length_take, List.length_drop]; omega
        unfold RowI
        rw [hlen]; exact h1
      simp only [e5, ↓Bc_true, ↓Bc_false, ↓Gk_hit, ↓Gk_tf, ↓Gk_ft, ↓Gk_undef, ↓GH_hit, ↓GH_tf, ↓GH_ft, ↓un_nil, ↓uv_fieldAt, ↓uv_load1, ↓uv_loadN, ↓uu_store1, ↓uv_box, ↓uv_makeMap, ↓uv_eql, ↓uv_neq, ↓uv_lss, ↓uv_leq, ↓uv_gtr, ↓uv_geq, ↓uv_add, ↓uv_sub, ↓uv_not, ↓uv_pick, ↓uv_streq, ↓uv_strne, ↓uv_ptreq, ↓uv_ptrne, ↓uv_func, ↓uv_extract, ↓un_len, ↓uv_and, ↓uv_or, e3, e4, uv_eq (rowLoHi hr2 (P := Try.prog) (lo := i + 1) (hi := i + 2) (by omega) (by omega) und55' siz3' _)]
      refine un_enter (enters Try.func20 (by kernel_rfl) (by kernel_rfl) _ _) (sameInts_c vd _ _ _ w2 hrd hsub _ fun w3 hk3 => ?_)
      have hr3 : RowI w3 v4 l := hr2.keep hk3 (fun _ _ => id)
      simp only [decide_true, ↓Bc_true, ↓Bc_false, ↓Gk_hit, ↓Gk_tf, ↓Gk_ft, ↓Gk_undef, ↓GH_hit, ↓GH_tf, ↓GH_ft, ↓un_nil, ↓uv_fieldAt, ↓uv_load1, ↓uv_loadN, ↓uu_store1, ↓uv_box, ↓uv_makeMap, ↓uv_eql, ↓uv_neq, ↓uv_lss, ↓uv_leq, ↓uv_gtr, ↓uv_geq, ↓uv_add, ↓uv_sub, ↓uv_not, ↓uv_pick, ↓uv_streq, ↓uv_strne, ↓uv_ptreq, ↓uv_ptrne, ↓uv_func, ↓uv_extract, ↓un_len, ↓uv_and, ↓uv_or, Bool.not_true, if_true, e3, un_lenR und55' hr3, e6, Bool.false_eq_true, if_false, F7_s16, F7_s14, F7_s14_t]
      exact next w3 hk3
    · have e5 : decide (((i + 1 : Nat) : Int) < (l.length : Int)) = false := by rw [decide_eq_false_iff_not]; omega
      have e6 : (((i + 1 : Nat) : Int) == (l.length : Int)) = true := by
        have : ((i + 1 : Nat) : Int) = (l.length : Int) := by omega
        rw [this]; exact BEq.rfl
      have hd0 : (l.drop (i + 1)).take 1 = [] := by rw [List.drop_eq_nil_of_le (by omega)]; rfl
      rw [hd0] at hrd
      have e7 : decide (((0 : Nat) : Int) > 0) = false := by decide
      simp only [e5, ↓Bc_true, ↓Bc_false, ↓Gk_hit, ↓Gk_tf, ↓Gk_ft, ↓Gk_undef, ↓GH_hit, ↓GH_tf, ↓GH_ft, ↓un_nil, ↓uv_fieldAt, ↓uv_load1, ↓uv_loadN, ↓uu_store1, ↓uv_box, ↓uv_makeMap, ↓uv_eql, ↓uv_neq, ↓uv_lss, ↓uv_leq, ↓uv_gtr, ↓uv_geq, ↓uv_add, ↓uv_sub, ↓uv_not, ↓uv_pick, ↓uv_streq, ↓uv_strne, ↓uv_ptreq, ↓uv_ptrne, ↓uv_func, ↓uv_extract, ↓un_len, ↓uv_and, ↓uv_or, e3, un_lenR und55' hr2, e6, Bool.false_eq_true, if_false, if_true, un_lenR und55' hrd, List.length_nil, e7, F7_s16, F7_s14, F7_s14_t]
      exact next w2 (Keep.refl _ w2)
  · have e1 : decide ((i : Int) < (l.length : Int)) = false := by rw [decide_eq_false_iff_not]; omega
    simp only [e1, ↓Bc_true, ↓Bc_false, ↓Gk_hit, ↓Gk_tf, ↓Gk_ft, ↓Gk_undef, ↓GH_hit, ↓GH_tf, ↓GH_ft, ↓un_nil, ↓uv_fieldAt, ↓uv_load1, ↓uv_loadN, ↓uu_store1, ↓uv_box, ↓uv_makeMap, ↓uv_eql, ↓uv_neq, ↓uv_lss, ↓uv_leq, ↓uv_gtr, ↓uv_geq, ↓uv_add, ↓uv_sub, ↓uv_not, ↓uv_pick, ↓uv_streq, ↓uv_strne, ↓uv_ptreq, ↓uv_ptrne, ↓uv_func, ↓uv_extract, ↓un_len, ↓uv_and, ↓uv_or, F7_s9, F7_s9_t]
    have hd : l.drop i = [] := List.drop_eq_nil_of_le (by omega)
    rw [hd] at ha1
    rw [← hbt1]
    refine un_enter (enters Try.func13 (by kernel_rfl) (by kernel_rfl) _ _) (locks_c T w1 ht1 (by rw [ha1]; exact small_row [] (by simp) (by simp)) _ fun vl w2 hrl hfl hk2 => ?_)
    rw [ha1, locks_row0] at hrl
    have e5 : (((0 : Nat) : Int) == 0) = true := by decide
    simp only [un_lenR und32 hrl, List.length_nil, e5, ↓Bc_true, ↓Bc_false, ↓Gk_hit, ↓Gk_tf, ↓Gk_ft, ↓Gk_undef, ↓GH_hit, ↓GH_tf, ↓GH_ft, ↓un_nil, ↓uv_fieldAt, ↓uv_load1, ↓uv_loadN, ↓uu_store1, ↓uv_box, ↓uv_makeMap, ↓uv_eql, ↓uv_neq, ↓uv_lss, ↓uv_leq, ↓uv_gtr, ↓uv_geq, ↓uv_add, ↓uv_sub, ↓uv_not, ↓uv_pick, ↓uv_streq, ↓uv_strne, ↓uv_ptreq, ↓uv_ptrne, ↓uv_func, ↓uv_extract, ↓un_len, ↓uv_and, ↓uv_or]
    exact h w2 (hk1.trans hk2 (fun _ _ h => h.elim))
end Go.Proofs.Ytpghlemcgjogpaa
