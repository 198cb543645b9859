/- The table and the document's table, side by side. -/
import Derived.Test.YtpghlemcgjogpaaGreatEJ
import Derived.Test.YtpghlemcgjogpaaGreatFI
set_option linter.unusedVariables false
set_option linter.unusedSimpArgs false
set_option linter.unnecessarySimpa false
set_option maxRecDepth 100000
namespace Go.Proofs.YtpghlemcgjogpaaGreat
open Go.Sx

/-- One cell of a row changes. -/
theorem Row.setC {P : Program} {w : World} {t e sz n i j : Nat} {v u : Value} {xs : List Value} (h : Row w e sz v n xs) (hi : i < n) (hj : j < sz) (ht : P.underlying t = some (.slice e)) (hs : (P.info? e).map (·.size) = some sz) : ∃ g o, rowB v = some g ∧ (∀ w1, (Instr.indexAt t v (.int .i64 i)).run P w1 = .ok (.pointer (some ⟨g, o, none⟩)) w1) ∧ (Sx.cellIn (w.heap[g]?) (o + j)).isSome = true ∧ Sx.frzIn (w.heap[g]?) (o + j) = false ∧
    Row (World.put w g (Sx.setIn (w.heap[g]?) (o + j) u)) e sz v n (xs.set (i * sz + j) u) := by
  obtain ⟨h0, h2⟩ := h
  rcases h2 with ⟨rfl, hn⟩ | ⟨g, off, cap, cur, rfl, hh, hnc, hcm, hcs, htk⟩
  · omega
  · have hle : (i + 1) * sz ≤ n * sz := Nat.mul_le_mul_right _ hi
    have hle2 : n * sz ≤ cap * sz := Nat.mul_le_mul_right _ hnc
    rw [Nat.add_mul, Nat.one_mul] at hle
    have hix : ∀ w1, (Instr.indexAt t (.slice (some ⟨g, off, none⟩) n cap) (.int .i64 i)).run P w1 = .ok (.pointer (some ⟨g, off + i * sz, none⟩)) w1 := fun w1 => by
      have := run_indexAt (P := P) (w := w1) (g := g) (off := off) (n := n) (c := cap) (q := .i64) (i := (i : Int)) ht hs (by omega) (by omega)
      simpa using this
    refine ⟨g, off + i * sz, rfl, hix, ?_, ?_, ?_⟩
    · rw [hh, cellIn_cells, Array.getElem?_eq_getElem (by omega)]; rfl
    · rw [hh]; exact frzIn_00
    · rw [hh, setIn_cells]
      refine ⟨by rw [List.length_set]; exact h0, .inr ⟨g, off, cap, _, rfl, put_same (by rw [hh]; rfl), hnc, hcm, ?_, ?_⟩⟩
      · rw [Array.size_setIfInBounds]; exact hcs
      · rw [Array.toList_setIfInBounds, List.drop_set, if_neg (by omega), List.take_set, htk, show off + i * sz + j - off = i * sz + j by omega]
structure Both (T0 : Tab) (bm : Nat) (w0 w : World) (T : Tab) (M : MT) (S : List Int) (k : Nat) : Prop where
  run : Run T0 w0 w T S k
  mt : MTAt w M
  bm : M.bm = bm
  hs : HSim T.abs M.H
  ws : WSim T.abs M.W
  len : M.H.length + M.W.length ≤ k
  apart : ∀ b, M.foot b → ¬ T.foot b
  ge : ∀ b, M.foot b → w0.heap.size ≤ b
theorem Both.keep0 {T0 T : Tab} {bm : Nat} {w0 w w' : World} {M : MT} {S : List Int} {k : Nat} (h : Both T0 bm w0 w T M S k) (hk : Keep0 w w') : Both T0 bm w0 w' T M S k :=
  ⟨h.run.keep0 hk, h.mt.keep0 hk, h.bm, h.hs, h.ws, h.len, h.apart, h.ge⟩
theorem Both.mono {T0 T : Tab} {bm : Nat} {w0 w : World} {M : MT} {S : List Int} {k k' : Nat} (h : Both T0 bm w0 w T M S k) (hk : k ≤ k') : Both T0 bm w0 w T M S k' :=
  ⟨h.run.mono hk, h.mt, h.bm, h.hs, h.ws, Nat.le_trans h.len hk, h.apart, h.ge⟩
theorem Both.mg {T0 T : Tab} {bm : Nat} {w0 w : World} {M : MT} {S : List Int} {k : Nat} (h : Both T0 bm w0 w T M S k) : MG k M := by
  refine ⟨fun l hl => ?_, fun x hx => ?_, h.ws.nd, h.len⟩
  · have := (h.run.inv.thOf l.res).hm _ (pget_mem ((h.hs.mem l).1 hl))
    exact ⟨by simp only [] at this; omega, this.2⟩
  · obtain ⟨y, hy, e⟩ := (h.ws.mem x).1 hx
    have := (h.run.inv.thOf x.l.res).qm y hy
    rw [← e]
    exact ⟨by show 0 ≤ y.mode; omega, this.2⟩
theorem run_bne {x y : Operand} {a b : Bool} {w : World} : (binS .neq 4 x y (.bool a) (.bool b)).run Tryz.prog w = .ok (.bool (!(a == b))) w := by kernel_rfl
/-- What is shown: just the document's. -/
theorem shown_c {T0 T : Tab} {bm : Nat} {w0 w : World} {M : MT} {S : List Int} {k : Nat} (h : Both T0 bm w0 w T M S k) (hk : k ≤ 1048576) (t : Int) (r : ByteArray) (R : Ending → World → Prop) (hR : ∀ w', Keep0 w w' → R (.returned (.bool true)) w') :
    Calls Tryz.prog 11 #[ptr T0.bt, ptr bm, .int .i64 t, .string r] w R := by
  apply F11_calls
  have hsm := h.run.inv.small hk
  have hG := h.mg
  have hlen := h.len
  have hHe : locksF T.abs = M.H := (locks_sim h.run.inv).eq h.hs
  have hQe : queueF T.abs r = queueR M.W r := (queue_sim h.ws r).symm
  have hWe : wishR M.W t = wishF T.abs t := (wish_sim h.run.inv h.ws t).1
  have hMe : modeR M.H t r = modeF T.abs t r := mode_sim h.hs t r
  have hEe : edgesR M.H M.W = edgesF T.abs := edges_sim h.run.inv h.hs h.ws
  rw [← h.run.bt, ← h.bm]
  simp only [F11_s1, F11_s1_t]
  refine un_enter (enters Tryz.func16 (by kernel_rfl) (by kernel_rfl) _ _) (locks_c T w h.run.tab hsm _ fun vl w1 hl1 hfl1 hk1 => ?_)
  have h1 := h.keep0 hk1
  refine un_enter (enters Tryz.func14 (by kernel_rfl) (by kernel_rfl) _ _) (queue_c T r w1 h1.run.tab (inv_qbig h.run.inv hk) _ fun vq w2 hq2 hfq2 hk2 => ?_)
  have h2 := h1.keep0 hk2
  refine un_enter (enters Tryz.func13 (by kernel_rfl) (by kernel_rfl) _ _) (wish_c T t w2 h2.run.tab (inv_qbig h.run.inv hk) _ fun w3 hk3 => ?_)
  simp only [uv_eq run_tupA0, uv_eq run_tupA1]
  rw [uv_allocS (vs := (wishF T.abs t).1.cells) zer37 siz37 rfl rfl (by intro u hu; exact lcells_one [(wishF T.abs t).1] u (by simpa [lcells] using hu))]
  have hk4 : Keep0 w3 (World.add w3 (.cells (wishF T.abs t).1.cells.toArray 42)) := (Keep.refl _ w3).add
  have hx4 : (World.add w3 (.cells (wishF T.abs t).1.cells.toArray 42)).heap[w3.heap.size]? = some (.cells (wishF T.abs t).1.cells.toArray 42 (0, 0)) := add_new
  have hk24 : Keep0 w2 (World.add w3 (.cells (wishF T.abs t).1.cells.toArray 42)) := hk3.trans hk4 (fun _ _ h => h)
  have h4 := (h2.keep0 hk3).keep0 hk4
  generalize World.add w3 (.cells (wishF T.abs t).1.cells.toArray 42) = w4 at hx4 hk24 h4 ⊢
  generalize w3.heap.size = bx at hx4 ⊢
  refine un_enter (enters Tryz.func23 (by kernel_rfl) (by kernel_rfl) _ _) (tWish_c M t w4 h4.mt _ fun w5 hk5 => ?_)
  rw [hWe]
  simp only [uv_eq run_tupA0, uv_eq run_tupA1]
  rw [uv_allocS (vs := (wishF T.abs t).1.cells) zer37 siz37 rfl rfl (by intro u hu; exact lcells_one [(wishF T.abs t).1] u (by simpa [lcells] using hu))]
  have hk6 : Keep0 w5 (World.add w5 (.cells (wishF T.abs t).1.cells.toArray 42)) := (Keep.refl _ w5).add
  have hy6 : (World.add w5 (.cells (wishF T.abs t).1.cells.toArray 42)).heap[w5.heap.size]? = some (.cells (wishF T.abs t).1.cells.toArray 42 (0, 0)) := add_new
  have hk46 : Keep0 w4 (World.add w5 (.cells (wishF T.abs t).1.cells.toArray 42)) := hk5.trans hk6 (fun _ _ h => h)
  generalize World.add w5 (.cells (wishF T.abs t).1.cells.toArray 42) = w6 at hy6 hk46 ⊢
  generalize w5.heap.size = by' at hy6 ⊢
  have h6 := h4.keep0 hk46
  have hx6 := hk46.at hx4 id
  have hk26 : Keep0 w2 w6 := hk24.trans hk46 (fun _ _ h => h)
  have hl6 : RowL w6 vl (locksF T.abs) := (hl1.keep hk2 (fun _ _ => id)).keep hk26 (fun _ _ => id)
  have hq6 : RowL w6 vq (queueF T.abs r) := hq2.keep hk26 (fun _ _ => id)
  simp only [↓uL.1, tL.1, cellIn_cells, frzIn_00, setIn_cells, cellsIn_cells, List.getElem?_toArray, List.getElem?_cons_zero, List.getElem?_cons_succ, Option.isSome_some, Option.getD_some, Nat.zero_add, Nat.add_zero, List.setIfInBounds_toArray, List.set_cons_zero, List.set_cons_succ, put_same, add_new, add_old, oneV, Value.cells, List.size_toArray, List.length_cons, List.length_nil, List.extract_toArray, List.extract_eq_take_drop, Nat.reduceAdd, Nat.reduceSub, Nat.reduceLeDiff, if_true, List.drop_zero, List.take_succ_cons, List.take_zero, List.drop_succ_cons, drew_heap, h6.mt.cell]
  refine un_enter (enters Tryz.func36 (by kernel_rfl) (by kernel_rfl) _ _) (sameLocks_c _ _ _ _ w6 hl6 h6.mt.rh _ fun w7 hk7 => ?_)
  rw [decide_eq_true hHe]
  have h7 := h6.keep0 hk7
  simp only [Bool.not_true, ↓uL.1]
  refine un_enter (enters Tryz.func28 (by kernel_rfl) (by kernel_rfl) _ _) (tQueue_c M r w7 h7.mt (by omega) _ fun vq' w8 hq8 hfq8 hk8 => ?_)
  have h8 := h7.keep0 hk8
  have hk68 : Keep0 w6 w8 := hk7.trans hk8 (fun _ _ h => h)
  simp only [↓uL.1]
  refine un_enter (enters Tryz.func36 (by kernel_rfl) (by kernel_rfl) _ _) (sameLocks_c _ _ _ _ w8 (hq6.keep hk68 (fun _ _ => id)) hq8 _ fun w9 hk9 => ?_)
  rw [decide_eq_true hQe]
  have h9 := h8.keep0 hk9
  have hk69 : Keep0 w6 w9 := hk68.trans hk9 (fun _ _ h => h)
  have hx9 := hk69.at hx6 id
  have hy9 := hk69.at hy6 id
  have hldx : (Instr.loadAt 42 (ptr bx)).run Tryz.prog w9 = .ok (.agg (wishF T.abs t).1.cells.toArray) w9 := run_loadN (n := 3) (by kernel_rfl) (by rw [hx9]; rfl)
  have hldy : (Instr.loadAt 42 (ptr by')).run Tryz.prog w9 = .ok (.agg (wishF T.abs t).1.cells.toArray) w9 := run_loadN (n := 3) (by kernel_rfl) (by rw [hy9]; rfl)
  have hne : ∀ o o', (binS .neq 42 o o' (.agg (wishF T.abs t).1.cells.toArray) (.agg (wishF T.abs t).1.cells.toArray)).run Tryz.prog w9 = .ok (.bool false) w9 := fun o o' => by rw [run_neL]; simp
  have hbn : ∀ o o', (binS .neq 4 o o' (.bool (wishF T.abs t).2) (.bool (wishF T.abs t).2)).run Tryz.prog w9 = .ok (.bool false) w9 := fun o o' => by rw [run_bne]; simp
  simp only [Bool.not_true, ↓uL.1, Bool.false_eq_true, if_false, uv_eq hldx, uv_eq hldy, uv_eq (hne _ _), uv_eq (hbn _ _)]
  refine un_enter (enters Tryz.func15 (by kernel_rfl) (by kernel_rfl) _ _) (mode_c T t r w9 h9.run.tab _ ?_)
  simp only [↓uL.1]
  refine un_enter (enters Tryz.func25 (by kernel_rfl) (by kernel_rfl) _ _) (tMode_c M t r w9 h9.mt _ ?_)
  rw [hMe, modeT_abs]
  have e0 : (modeF T.abs t r != modeF T.abs t r) = false := by simp
  have hl9 : RowL w9 vl (locksF T.abs) := hl6.keep hk69 (fun _ _ => id)
  have hq9 : RowL w9 vq (queueF T.abs r) := hq6.keep hk69 (fun _ _ => id)
  have hk09 : Keep0 w w9 := ((hk1.trans hk2 (fun _ _ h => h)).trans hk26 (fun _ _ h => h)).trans hk69 (fun _ _ h => h)
  have hs1 := hk1.size
  have hbl := hl9.bound
  have hbq := hq9.bound
  have hmax2 : maxLen ≤ 9223372036854775807 := by decide
  have hlq : ∀ g, rowB vl = some g → rowB vq ≠ some g := fun g hg hg' => by have := hl1.lt hg; have := hfq2 g hg'; omega
  have hlL : RowL w9 vl (locksF T.abs) := hl9
  simp only [↓uL.1, e0, Bool.false_eq_true, if_false, F11_s2, F11_s3, F11_s3_t, un_lenR und32 hl9, F11_s22]
  refine ⟨fun v75 w' => ∃ (i : Nat) (xs : List Value), v75 = .int .i64 i ∧ i ≤ (locksF T.abs).length ∧ Row w' 42 3 vl (locksF T.abs).length xs ∧ RowL w' vq (queueF T.abs r) ∧ Keep0 w w', fun v75 _ => match v75 with | .int _ i => (locksF T.abs).length - i.toNat | _ => 0, ⟨0, _, rfl, by omega, hl9, hq9, hk09⟩, ?_⟩
  rintro v75 wa ⟨i, xs, rfl, hi, hla, hqa, hka⟩
  simp only [F11_s23, F11_s23_t, ↓uL.1, F11_s24]
  by_cases hlt : i < (locksF T.abs).length
  · have e1 : decide ((i : Int) < ((locksF T.abs).length : Int)) = true := by rw [decide_eq_true_eq]; omega
    have e4 : IntKind.i64.wrap ((i : Int) + 1) = ((i + 1 : Nat) : Int) := by rw [wrap_id (by omega) (by omega)]; omega
    obtain ⟨g, o, hg, ix, his, hfz, hrow⟩ := Row.setC (P := Tryz.prog) (u := .string ⟨#[42]⟩) (j := 1) hla hlt (by decide) und32 siz37
    simp only [e1, ↓uL.1, F11_s27, F11_s27_t, uv_eq (ix _), tL.1, cellIn_cells, frzIn_00, setIn_cells, cellsIn_cells, List.getElem?_toArray, List.getElem?_cons_zero, List.getElem?_cons_succ, Option.isSome_some, Option.getD_some, Nat.zero_add, Nat.add_zero, List.setIfInBounds_toArray, List.set_cons_zero, List.set_cons_succ, put_same, add_new, add_old, oneV, Value.cells, List.size_toArray, List.length_cons, List.length_nil, List.extract_toArray, List.extract_eq_take_drop, Nat.reduceAdd, Nat.reduceSub, Nat.reduceLeDiff, if_true, List.drop_zero, List.take_succ_cons, List.take_zero, List.drop_succ_cons, drew_heap]
    rw [uu_store1 (by kernel_rfl) (by kernel_rfl) rfl his hfz]
    simp only [F11_s26, F11_s26_t, ↓uL.1, e4]
    refine ⟨⟨i + 1, _, rfl, by omega, hrow, hqa.congr fun g' hg' => put_ne (fun e => hlq g hg (by rw [e]; exact hg')), hka.put fun hb => ?_⟩, by simp; omega⟩
    have := hfl1 g hg; omega
  · have e1 : decide ((i : Int) < ((locksF T.abs).length : Int)) = false := by rw [decide_eq_false_iff_not]; omega
    simp only [e1, ↓uL.1, F11_s5, F11_s5_t, un_lenR und32 hqa, F11_s16]
    refine ⟨fun v85 w' => ∃ (j : Nat) (xs : List Value), v85 = .int .i64 j ∧ j ≤ (queueF T.abs r).length ∧ Row w' 42 3 vq (queueF T.abs r).length xs ∧ Keep0 w w', fun v85 _ => match v85 with | .int _ j => (queueF T.abs r).length - j.toNat | _ => 0, ⟨0, _, rfl, by omega, hqa, hka⟩, ?_⟩
    rintro v85 wb ⟨j, ys, rfl, hj, hqb, hkb⟩
    simp only [F11_s17, F11_s17_t, ↓uL.1, F11_s18]
    by_cases hltj : j < (queueF T.abs r).length
    · have e2 : decide ((j : Int) < ((queueF T.abs r).length : Int)) = true := by rw [decide_eq_true_eq]; omega
      have e5 : IntKind.i64.wrap ((j : Int) + 1) = ((j + 1 : Nat) : Int) := by rw [wrap_id (by omega) (by omega)]; omega
      obtain ⟨g, o, hg, ix, his, hfz, hrow⟩ := Row.setC (P := Tryz.prog) (u := .string ⟨#[42]⟩) (j := 1) hqb hltj (by decide) und32 siz37
      simp only [e2, ↓uL.1, F11_s21, F11_s21_t, uv_eq (ix _), tL.1, cellIn_cells, frzIn_00, setIn_cells, cellsIn_cells, List.getElem?_toArray, List.getElem?_cons_zero, List.getElem?_cons_succ, Option.isSome_some, Option.getD_some, Nat.zero_add, Nat.add_zero, List.setIfInBounds_toArray, List.set_cons_zero, List.set_cons_succ, put_same, add_new, add_old, oneV, Value.cells, List.size_toArray, List.length_cons, List.length_nil, List.extract_toArray, List.extract_eq_take_drop, Nat.reduceAdd, Nat.reduceSub, Nat.reduceLeDiff, if_true, List.drop_zero, List.take_succ_cons, List.take_zero, List.drop_succ_cons, drew_heap]
      rw [uu_store1 (by kernel_rfl) (by kernel_rfl) rfl his hfz]
      simp only [F11_s20, F11_s20_t, ↓uL.1, e5]
      refine ⟨⟨j + 1, _, rfl, by omega, hrow, hkb.put fun hb => ?_⟩, by simp; omega⟩
      have := hfq2 g hg; omega
    · have e2 : decide ((j : Int) < ((queueF T.abs r).length : Int)) = false := by rw [decide_eq_false_iff_not]; omega
      have hb := h.keep0 hkb
      simp only [e2, ↓uL.1, F11_s7, F11_s7_t]
      refine un_enter (enters Tryz.func12 (by kernel_rfl) (by kernel_rfl) _ _) (edges_c T wb hb.run.tab hsm h.run.inv.waits (by rw [wlen]; have := h.run.inv.wn; omega) _ fun ve wc hec hfec hkc => ?_)
      have hc := hb.keep0 hkc
      refine un_enter (enters Tryz.func38 (by kernel_rfl) (by kernel_rfl) _ _) (tEdges_c M k hk hG wc hc.mt _ fun ve' wd hed hfed hkd => ?_)
      rw [hEe] at hed
      refine un_enter (enters Tryz.func37 (by kernel_rfl) (by kernel_rfl) _ _) (sameEdges_c _ _ _ _ wd (hec.keep hkd (fun _ _ => id)) hed _ fun we hke => ?_)
      rw [decide_eq_true (rfl : edgesF T.abs = edgesF T.abs)]
      have hee : RowE we ve (edgesF T.abs) := (hec.keep hkd (fun _ _ => id)).keep hke (fun _ _ => id)
      have hk0e : Keep0 w we := ((hkb.trans hkc (fun _ _ h => h)).trans hkd (fun _ _ h => h)).trans hke (fun _ _ h => h)
      have hsb := hkb.size
      have hbe := hee.bound
      simp only [un_lenR und38 hee, F11_s10]
      refine ⟨fun v101 w' => ∃ (j : Nat) (xs : List Value), v101 = .int .i64 j ∧ j ≤ (edgesF T.abs).length ∧ Row w' 83 2 ve (edgesF T.abs).length xs ∧ Keep0 w w', fun v101 _ => match v101 with | .int _ j => (edgesF T.abs).length - j.toNat | _ => 0, ⟨0, _, rfl, by omega, hee, hk0e⟩, ?_⟩
      rintro v101 wf ⟨m, zs, rfl, hm, hef, hkf⟩
      simp only [F11_s11, F11_s11_t, ↓uL.1, F11_s12]
      by_cases hltm : m < (edgesF T.abs).length
      · have e3 : decide ((m : Int) < ((edgesF T.abs).length : Int)) = true := by rw [decide_eq_true_eq]; omega
        have e6 : IntKind.i64.wrap ((m : Int) + 1) = ((m + 1 : Nat) : Int) := by rw [wrap_id (by omega) (by omega)]; omega
        obtain ⟨g, o, hg, ix, his, hfz, hrow⟩ := Row.setC (P := Tryz.prog) (u := .int .i64 (-9)) (j := 1) hef hltm (by decide) und38 siz81
        simp only [e3, ↓uL.1, F11_s15, F11_s15_t, uv_eq (ix _), tL.1, cellIn_cells, frzIn_00, setIn_cells, cellsIn_cells, List.getElem?_toArray, List.getElem?_cons_zero, List.getElem?_cons_succ, Option.isSome_some, Option.getD_some, Nat.zero_add, Nat.add_zero, List.setIfInBounds_toArray, List.set_cons_zero, List.set_cons_succ, put_same, add_new, add_old, oneV, Value.cells, List.size_toArray, List.length_cons, List.length_nil, List.extract_toArray, List.extract_eq_take_drop, Nat.reduceAdd, Nat.reduceSub, Nat.reduceLeDiff, if_true, List.drop_zero, List.take_succ_cons, List.take_zero, List.drop_succ_cons, drew_heap]
        rw [uu_store1 (by kernel_rfl) (by kernel_rfl) rfl his hfz]
        simp only [F11_s14, F11_s14_t, ↓uL.1, e6]
        refine ⟨⟨m + 1, _, rfl, by omega, hrow, hkf.put fun hb' => ?_⟩, by simp; omega⟩
        have := hfec g hg; omega
      · have e3 : decide ((m : Int) < ((edgesF T.abs).length : Int)) = false := by rw [decide_eq_false_iff_not]; omega
        simp only [e3, ↓uL.1, F11_s9, F11_s9_t]
        exact hR wf hkf
end Go.Proofs.YtpghlemcgjogpaaGreat
