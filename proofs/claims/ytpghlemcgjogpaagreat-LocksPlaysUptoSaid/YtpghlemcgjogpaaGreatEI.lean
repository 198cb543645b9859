/- The document's table of locks: its edges in memory. -/
import Derived.Test.YtpghlemcgjogpaaGreatEH
set_option linter.unusedVariables false
set_option linter.unusedSimpArgs false
set_option linter.unnecessarySimpa false
set_option maxRecDepth 100000
namespace Go.Proofs.YtpghlemcgjogpaaGreat
open Go.Sx Go.RowKit Go.Sort Go.Shelf Go.Proofs

theorem zerEd : (Tryz.prog.info? 83).map (·.zero) = some (some (.agg #[.int .i64 0, .int .i64 0])) := by kernel_rfl
theorem bslE0 (w : World) : (Instr.buildSlice 39 0 #[]).run Tryz.prog w = .ok (.slice (some ⟨w.heap.size, 0, none⟩) 0 0) (World.add w (.cells #[] 83)) := by kernel_rfl
theorem insE_none : ∀ (l : List Ed) (e : Ed), (∀ y ∈ l, ltOf cmpE e y = false) → insE l e = l ++ [e]
  | [], e, _ => rfl
  | y :: l, e, h => by
    unfold insE
    rw [if_neg (by rw [h y List.mem_cons_self]; simp), insE_none l e fun z hz => h z (List.mem_cons_of_mem _ hz)]; rfl
theorem insE_snoc : ∀ (l : List Ed) (e x : Ed), (∃ y ∈ l, ltOf cmpE e y = true) → insE (l ++ [x]) e = insE l e ++ [x]
  | [], e, x, h => by obtain ⟨y, hy, _⟩ := h; cases hy
  | y :: l, e, x, h => by
    simp only [List.cons_append]
    unfold insE
    by_cases hy : ltOf cmpE e y = true
    · rw [if_pos hy, if_pos hy]; rfl
    · rw [if_neg hy, if_neg hy, insE_snoc l e x (by
        obtain ⟨z, hz, hzl⟩ := h
        rcases List.mem_cons.1 hz with rfl | hz
        · exact absurd hzl hy
        · exact ⟨z, hz, hzl⟩)]; rfl
theorem insE_new (l : List Ed) (e x : Ed) (h : ∀ y ∈ l, ltOf cmpE e y = false) (hx : ltOf cmpE e x = true) : insE (l ++ [x]) e = l ++ [e, x] := by
  induction l with
  | nil => simp [insE, hx]
  | cons y l ih =>
    simp only [List.cons_append]
    unfold insE
    rw [if_neg (by rw [h y List.mem_cons_self]; simp), ih fun z hz => h z (List.mem_cons_of_mem _ hz)]
theorem edgeR_len (l : List Ed) (e : Ed) : (edgeR l e).length ≤ l.length + 1 := by
  unfold edgeR
  split
  · omega
  · have : ∀ l : List Ed, (insE l e).length = l.length + 1 := fun l => by
      induction l with
      | nil => rfl
      | cons y l ih => unfold insE; split <;> simp [ih]
    rw [this]; exact Nat.le_refl _
theorem tedge_c (v0 : Value) (l : List Ed) (e : Ed) (w : World) (hr : RowE w v0 l) (hl : l.length ≤ 3298534883328) (R : Ending → World → Prop)
    (h : ∀ v w', RowE w' v (edgeR l e) → (rowB v = rowB v0 ∨ ∀ g, rowB v = some g → w.heap.size ≤ g) → Keep0 w w' → R (.returned v) w') : Calls Tryz.prog 58 #[v0, .agg e.cells.toArray] w R := by
  apply F58_calls
  simp only [F58_s1, F58_s1_t, ↓uL.1, Value.cells]
  have hka : Keep0 w (World.add w (.cells e.cells.toArray 83)) := (Keep.refl _ w).add
  have hbx : (World.add w (.cells e.cells.toArray 83)).heap[w.heap.size]? = some (.cells #[.int .i64 e.a, .int .i64 e.b] 83 (0, 0)) := add_new
  have hsa : (World.add w (.cells e.cells.toArray 83)).heap.size = w.heap.size + 1 := hadd_size
  generalize World.add w (.cells e.cells.toArray 83) = wa at hka hbx hsa ⊢
  simp only [uv_eq (bslE0 _)]
  have hkb : Keep0 wa (World.add wa (.cells #[] 83)) := (Keep.refl _ wa).add
  have hr0 : RowE (World.add wa (.cells #[] 83)) (.slice (some ⟨wa.heap.size, 0, none⟩) 0 0) [] := Row.fresh (cs := []) rfl (by decide)
  have hbx0 := hkb.at hbx id
  have hk0 : Keep0 w (World.add wa (.cells #[] 83)) := hka.trans hkb (fun _ _ h => h)
  generalize World.add wa (.cells #[] 83) = wb at hr0 hbx0 hk0 ⊢
  generalize hbxe : w.heap.size = bx at *
  simp only [F58_s7]
  refine ⟨fun v5 v6 v7 w' => ∃ (i : Nat) (d : Bool), v7 = .int .i64 i ∧ v6 = .bool d ∧ i ≤ l.length ∧ RowE w' v5 (if d = true then insE (l.take i) e else l.take i) ∧ (d = false → ∀ y ∈ l.take i, ltOf cmpE e y = false) ∧ (d = true → ∃ y ∈ l.take i, ltOf cmpE e y = true) ∧ (∀ y ∈ l.take i, y ≠ e) ∧
      (∀ g, rowB v5 = some g → bx < g) ∧ w'.heap[bx]? = some (.cells #[.int .i64 e.a, .int .i64 e.b] 83 (0, 0)) ∧ Keep0 w w',
    fun _ _ v7 _ => match v7 with | .int _ i => l.length - i.toNat | _ => 0, ⟨0, false, rfl, rfl, by omega, hr0, by simp, by simp, by simp, fun g hg => ?_, hbx0, hk0⟩, ?_⟩
  · have e' : wa.heap.size = g := by simpa [rowB] using hg
    omega
  rintro v5 v6 v7 w1 ⟨i, d, rfl, rfl, hi, hr1, hd0, hd1, hne, hf1, hbx1, hk1⟩
  have hl1 := hr.keep hk1 (fun _ _ => id)
  have hs1 := hk1.size
  have hlen1 : (if d = true then insE (l.take i) e else l.take i).length ≤ i + 1 := by
    have : ∀ l : List Ed, (insE l e).length = l.length + 1 := fun l => by
      induction l with
      | nil => rfl
      | cons y l ih => unfold insE; split <;> simp [ih]
    split
    · rw [this, List.length_take]; omega
    · rw [List.length_take]; omega
  simp only [F58_s8, F58_s8_t, un_lenR und38 hl1, ↓uL.1, F58_s9]
  by_cases hlt : i < l.length
  · have e1 : decide ((i : Int) < (l.length : Int)) = true := by rw [decide_eq_true_eq]; omega
    have e4 : IntKind.i64.wrap ((i : Int) + 1) = ((i + 1 : Nat) : Int) := by rw [wrap_id (by omega) (by omega)]; omega
    obtain ⟨x, hx⟩ : ∃ x, l[i]? = some x := ⟨l[i], List.getElem?_eq_getElem hlt⟩
    have htk : l.take (i + 1) = l.take i ++ [x] := by rw [List.take_add_one, hx]; rfl
    obtain ⟨p, ix, lx⟩ := RowE.read hl1 hx
    simp only [e1, ↓uL.1, F58_s12, F58_s12_t, uv_eq (ix _), uv_eq (lx w1 fun _ _ => rfl)]
    rw [uv_allocS (vs := x.cells) zerEd siz81 rfl rfl (by intro u hu; exact ecells_one [x] u (by simpa [ecells] using hu))]
    have hk2 : Keep0 w1 (World.add w1 (.cells x.cells.toArray 83)) := (Keep.refl _ w1).add
    have hby : (World.add w1 (.cells x.cells.toArray 83)).heap[w1.heap.size]? = some (.cells #[.int .i64 x.a, .int .i64 x.b] 83 (0, 0)) := add_new
    have hr2 := hr1.keep hk2 (fun _ _ => id)
    have hbx2 := hk2.at hbx1 id
    have hny : ¬ rowB v5 = some w1.heap.size := fun hg => by have := hr1.lt hg; omega
    have hs2 : (World.add w1 (.cells x.cells.toArray 83)).heap.size = w1.heap.size + 1 := hadd_size
    have hk02 : Keep0 w (World.add w1 (.cells x.cells.toArray 83)) := hk1.trans hk2 (fun _ _ h => h)
    generalize World.add w1 (.cells x.cells.toArray 83) = w2 at hk2 hby hr2 hbx2 hs2 hk02 ⊢
    have hbl := lt_of_at hbx1
    generalize w1.heap.size = by' at hby hny hs2 hs1 hbl ⊢
    have hnx : ¬ rowB v5 = some bx := fun hg => by have := hf1 bx hg; omega
    have hldy : (Instr.loadAt 83 (ptr by')).run Tryz.prog w2 = .ok (.agg x.cells.toArray) w2 := run_loadN (n := 2) (by kernel_rfl) (by rw [hby]; rfl)
    have hldx : (Instr.loadAt 83 (ptr bx)).run Tryz.prog w2 = .ok (.agg e.cells.toArray) w2 := run_loadN (n := 2) (by kernel_rfl) (by rw [hbx2]; rfl)
    simp only [uv_eq hldy, uv_eq hldx, uv_eq (run_eqE x e _ _ w2), F58_s13]
    by_cases hxe : x = e
    · rw [decide_eq_true hxe]
      simp only [↓uL.1, F58_s18, F58_s18_t]
      have : edgeR l e = l := by
        unfold edgeR
        rw [if_pos (by rw [← hxe]; exact List.mem_of_getElem? hx)]
      rw [this] at h
      exact h v0 w2 (hr.keep hk02 (fun _ _ => id)) (.inl rfl) hk02
    · rw [decide_eq_false hxe]
      have step : ∀ (v' : Value) (w3 : World) (d' : Bool), RowE w3 v' (if d' = true then insE (l.take (i + 1)) e else l.take (i + 1)) → (d' = false → ∀ y ∈ l.take (i + 1), ltOf cmpE e y = false) → (d' = true → ∃ y ∈ l.take (i + 1), ltOf cmpE e y = true) → (∀ g, rowB v' = some g → bx < g) → w3.heap[bx]? = some (.cells #[.int .i64 e.a, .int .i64 e.b] 83 (0, 0)) → Keep0 w w3 →
          F58_s11 R (fun y0 y1 y2 w' => (∃ (i : Nat) (d : Bool), y2 = .int .i64 i ∧ y1 = .bool d ∧ i ≤ l.length ∧ RowE w' y0 (if d = true then insE (l.take i) e else l.take i) ∧ (d = false → ∀ y ∈ l.take i, ltOf cmpE e y = false) ∧ (d = true → ∃ y ∈ l.take i, ltOf cmpE e y = true) ∧ (∀ y ∈ l.take i, y ≠ e) ∧
            (∀ g, rowB y0 = some g → bx < g) ∧ w'.heap[bx]? = some (.cells #[.int .i64 e.a, .int .i64 e.b] 83 (0, 0)) ∧ Keep0 w w') ∧ (match y2 with | .int _ i => l.length - i.toNat | _ => 0) < (match (Value.int .i64 i) with | .int _ i => l.length - i.toNat | _ => 0)) v0 (ptr bx) v' (.bool d') (.int .i64 i) w3 := by
        intro v' w3 d' a1 a2 a3 a4 a5 a6
        simp only [F58_s11, F58_s11_t, ↓uL.1, e4]
        refine ⟨⟨i + 1, d', rfl, rfl, by omega, a1, a2, a3, fun y hy => ?_, a4, a5, a6⟩, by simp; omega⟩
        rw [htk] at hy
        rcases List.mem_append.1 hy with hy | hy
        · exact hne y hy
        · obtain rfl : y = x := by simpa using hy
          exact hxe
      -- x behind what there is
      have appX : ∀ (v' : Value) (w3 : World) (d' : Bool) (L : List Ed), RowE w3 v' L → L.length ≤ i + 2 → L ++ [x] = (if d' = true then insE (l.take (i + 1)) e else l.take (i + 1)) → (d' = false → ∀ y ∈ l.take (i + 1), ltOf cmpE e y = false) → (d' = true → ∃ y ∈ l.take (i + 1), ltOf cmpE e y = true) → (∀ g, rowB v' = some g → bx < g ∧ g ≠ by') → w3.heap[bx]? = some (.cells #[.int .i64 e.a, .int .i64 e.b] 83 (0, 0)) → w3.heap[by']? = some (.cells #[.int .i64 x.a, .int .i64 x.b] 83 (0, 0)) → Keep0 w w3 →
          F58_s16 R (fun y0 y1 y2 w' => (∃ (i : Nat) (d : Bool), y2 = .int .i64 i ∧ y1 = .bool d ∧ i ≤ l.length ∧ RowE w' y0 (if d = true then insE (l.take i) e else l.take i) ∧ (d = false → ∀ y ∈ l.take i, ltOf cmpE e y = false) ∧ (d = true → ∃ y ∈ l.take i, ltOf cmpE e y = true) ∧ (∀ y ∈ l.take i, y ≠ e) ∧
            (∀ g, rowB y0 = some g → bx < g) ∧ w'.heap[bx]? = some (.cells #[.int .i64 e.a, .int .i64 e.b] 83 (0, 0)) ∧ Keep0 w w') ∧ (match y2 with | .int _ i => l.length - i.toNat | _ => 0) < (match (Value.int .i64 i) with | .int _ i => l.length - i.toNat | _ => 0)) v0 (ptr bx) v' (.bool d') (.int .i64 i) (ptr by') w3 := by
        intro v' w3 d' L a1 aL a2 a3 a4 a5 a6 a7 a8
        have hld : (Instr.loadAt 83 (ptr by')).run Tryz.prog w3 = .ok (.agg #[.int .i64 x.a, .int .i64 x.b]) w3 := run_loadN (n := 2) (by kernel_rfl) (by rw [a7]; rfl)
        simp only [F58_s16, F58_s16_t, uv_eq hld]
        have hs3 := a8.size
        have hbxl := lt_of_at a6
        refine un_appE (x := x) a1 (by omega) fun v4 w4 hr4 hf4 hk4 => ?_
        refine step v4 w4 d' (by rw [← a2]; exact hr4) a3 a4 (fun g hg => ?_) (hk4.at a6 (fun hh => by have := (a5 _ hh).1; omega)) (a8.trans hk4 (fun b hb hv => by have := (a5 b hv).1; omega))
        rcases hf4 with e' | ⟨g2, e', hg2⟩
        · rw [e'] at hg; exact (a5 g hg).1
        · rw [e'] at hg; cases hg; omega
      have hsep : ∀ g, rowB v5 = some g → bx < g ∧ g ≠ by' := fun g hg => ⟨hf1 g hg, fun ee => hny (by rw [← ee]; exact hg)⟩
      simp only [↓uL.1, F58_s14, F58_s14_t]
      have hlt' : ltOf cmpE e x = decide (e.a < x.a ∨ e.a = x.a ∧ e.b < x.b) := ltE e x
      cases d with
      | true =>
        simp only [Bool.not_true, ↓uL.1, Bool.false_eq_true, if_false, F58_s15]
        simp only [if_true] at hr2 hlen1
        refine appX v5 w2 true (insE (l.take i) e) hr2 (by omega) ?_ (fun h => by cases h) (fun _ => ?_) hsep hbx2 hby hk02
        · rw [if_pos rfl, htk, insE_snoc _ _ _ (hd1 rfl)]
        · obtain ⟨y, hy, hyl⟩ := hd1 rfl
          exact ⟨y, by rw [htk]; exact List.mem_append_left _ hy, hyl⟩
      | false =>
        simp only [Bool.false_eq_true, if_false] at hr2 hlen1
        have yes : ltOf cmpE e x = true → F58_s17 R (fun y0 y1 y2 w' => (∃ (i : Nat) (d : Bool), y2 = .int .i64 i ∧ y1 = .bool d ∧ i ≤ l.length ∧ RowE w' y0 (if d = true then insE (l.take i) e else l.take i) ∧ (d = false → ∀ y ∈ l.take i, ltOf cmpE e y = false) ∧ (d = true → ∃ y ∈ l.take i, ltOf cmpE e y = true) ∧ (∀ y ∈ l.take i, y ≠ e) ∧
            (∀ g, rowB y0 = some g → bx < g) ∧ w'.heap[bx]? = some (.cells #[.int .i64 e.a, .int .i64 e.b] 83 (0, 0)) ∧ Keep0 w w') ∧ (match y2 with | .int _ i => l.length - i.toNat | _ => 0) < (match (Value.int .i64 i) with | .int _ i => l.length - i.toNat | _ => 0)) v0 (ptr bx) v5 (.int .i64 i) (ptr by') w2 := fun hyes => by
          have hldx' : (Instr.loadAt 83 (ptr bx)).run Tryz.prog w2 = .ok (.agg #[.int .i64 e.a, .int .i64 e.b]) w2 := hldx
          simp only [F58_s17, F58_s17_t, uv_eq hldx']
          refine un_appE (x := e) hr2 (by omega) fun v4 w4 hr4 hf4 hk4 => ?_
          have hbyl := lt_of_at hby
          refine appX v4 w4 true (l.take i ++ [e]) hr4 (by rw [List.length_append]; simp; omega) ?_ (fun h => by cases h) (fun _ => ⟨x, by rw [htk]; simp, hyes⟩) (fun g hg => ?_) (hk4.at hbx2 hnx) (hk4.at hby hny) (hk02.trans hk4 (fun b hb hv => by have := hf1 b hv; omega))
          · rw [if_pos rfl, htk, insE_new _ _ _ (hd0 rfl) hyes]; simp
          · rcases hf4 with e' | ⟨g2, e', hg2⟩
            · rw [e'] at hg; exact hsep g hg
            · rw [e'] at hg; cases hg; exact ⟨by omega, by omega⟩
        have no : ltOf cmpE e x = false → F58_s16 R (fun y0 y1 y2 w' => (∃ (i : Nat) (d : Bool), y2 = .int .i64 i ∧ y1 = .bool d ∧ i ≤ l.length ∧ RowE w' y0 (if d = true then insE (l.take i) e else l.take i) ∧ (d = false → ∀ y ∈ l.take i, ltOf cmpE e y = false) ∧ (d = true → ∃ y ∈ l.take i, ltOf cmpE e y = true) ∧ (∀ y ∈ l.take i, y ≠ e) ∧
            (∀ g, rowB y0 = some g → bx < g) ∧ w'.heap[bx]? = some (.cells #[.int .i64 e.a, .int .i64 e.b] 83 (0, 0)) ∧ Keep0 w w') ∧ (match y2 with | .int _ i => l.length - i.toNat | _ => 0) < (match (Value.int .i64 i) with | .int _ i => l.length - i.toNat | _ => 0)) v0 (ptr bx) v5 (.bool false) (.int .i64 i) (ptr by') w2 := fun hno =>
          appX v5 w2 false (l.take i) hr2 (by omega) (by rw [if_neg (by simp), htk]) (fun _ y hy => by
            rw [htk] at hy
            rcases List.mem_append.1 hy with hy | hy
            · exact hd0 rfl y hy
            · obtain rfl : y = x := by simpa using hy
              exact hno) (fun h => by cases h) hsep hbx2 hby hk02
        simp only [Bool.not_false, ↓uL.1, tL.1, cellIn_cells, frzIn_00, setIn_cells, cellsIn_cells, List.getElem?_toArray, List.getElem?_cons_zero, List.getElem?_cons_succ, Option.isSome_some, Option.getD_some, Nat.zero_add, Nat.add_zero, List.setIfInBounds_toArray, List.set_cons_zero, List.set_cons_succ, put_same, add_new, add_old, oneV, Value.cells, List.size_toArray, List.length_cons, List.length_nil, List.extract_toArray, List.extract_eq_take_drop, Nat.reduceAdd, Nat.reduceSub, Nat.reduceLeDiff, if_true, List.drop_zero, List.take_succ_cons, List.take_zero, List.drop_succ_cons, drew_heap, hby, hbx2]
        cases h1 : decide (e.a < x.a)
        · have h1' : ¬ e.a < x.a := by simpa using h1
          simp only [↓uL.1, tL.1, cellIn_cells, frzIn_00, setIn_cells, cellsIn_cells, List.getElem?_toArray, List.getElem?_cons_zero, List.getElem?_cons_succ, Option.isSome_some, Option.getD_some, Nat.zero_add, Nat.add_zero, List.setIfInBounds_toArray, List.set_cons_zero, List.set_cons_succ, put_same, add_new, add_old, oneV, Value.cells, List.size_toArray, List.length_cons, List.length_nil, List.extract_toArray, List.extract_eq_take_drop, Nat.reduceAdd, Nat.reduceSub, Nat.reduceLeDiff, if_true, List.drop_zero, List.take_succ_cons, List.take_zero, List.drop_succ_cons, drew_heap, hby, hbx2]
          cases h2 : (e.a == x.a)
          · have h2' : ¬ e.a = x.a := by simpa using h2
            simp only [↓uL.1, Bool.false_eq_true, if_false, if_true, F58_s15]
            exact no (by rw [hlt', decide_eq_false_iff_not]; omega)
          · have h2' : e.a = x.a := by simpa using h2
            simp only [↓uL.1, tL.1, cellIn_cells, frzIn_00, setIn_cells, cellsIn_cells, List.getElem?_toArray, List.getElem?_cons_zero, List.getElem?_cons_succ, Option.isSome_some, Option.getD_some, Nat.zero_add, Nat.add_zero, List.setIfInBounds_toArray, List.set_cons_zero, List.set_cons_succ, put_same, add_new, add_old, oneV, Value.cells, List.size_toArray, List.length_cons, List.length_nil, List.extract_toArray, List.extract_eq_take_drop, Nat.reduceAdd, Nat.reduceSub, Nat.reduceLeDiff, if_true, List.drop_zero, List.take_succ_cons, List.take_zero, List.drop_succ_cons, drew_heap, hby, hbx2]
            cases h3 : decide (e.b < x.b)
            · have h3' : ¬ e.b < x.b := by simpa using h3
              simp only [↓uL.1, Bool.false_eq_true, if_false, if_true, F58_s15]
              exact no (by rw [hlt', decide_eq_false_iff_not]; omega)
            · have h3' : e.b < x.b := by simpa using h3
              simp only [↓uL.1, Bool.false_eq_true, if_false, if_true, F58_s15]
              exact yes (by rw [hlt', decide_eq_true_eq]; omega)
        · have h1' : e.a < x.a := by simpa using h1
          simp only [↓uL.1, Bool.false_eq_true, if_false, if_true, F58_s15]
          exact yes (by rw [hlt', decide_eq_true_eq]; omega)
  · have e1 : decide ((i : Int) < (l.length : Int)) = false := by rw [decide_eq_false_iff_not]; omega
    have hil : i = l.length := by omega
    rw [hil, List.take_length] at hr1 hd0 hd1 hne hlen1
    have hnin : e ∉ l := fun hin => hne e hin rfl
    have her : edgeR l e = insE l e := by unfold edgeR; rw [if_neg hnin]
    rw [her] at h
    simp only [e1, ↓uL.1, F58_s3, F58_s3_t, F58_s4]
    cases d with
    | true =>
      simp only [if_true] at hr1
      simp only [Bool.not_true, ↓uL.1, F58_s5, F58_s5_t]
      exact h v5 w1 hr1 (.inr fun g hg => by have := hf1 g hg; omega) hk1
    | false =>
      simp only [Bool.false_eq_true, if_false] at hr1 hlen1
      have hldx : (Instr.loadAt 83 (ptr bx)).run Tryz.prog w1 = .ok (.agg #[.int .i64 e.a, .int .i64 e.b]) w1 := run_loadN (n := 2) (by kernel_rfl) (by rw [hbx1]; rfl)
      simp only [Bool.not_false, ↓uL.1, F58_s6, F58_s6_t, uv_eq hldx]
      refine un_appE (x := e) hr1 (by omega) fun v4 w4 hr4 hf4 hk4 => ?_
      simp only [F58_s5, F58_s5_t]
      refine h v4 w4 (by rw [insE_none l e (hd0 rfl)]; exact hr4) (.inr fun g hg => ?_) (hk1.trans hk4 (fun b hb hv => by have := hf1 b hv; omega))
      rcases hf4 with e' | ⟨g2, e', hg2⟩
      · rw [e'] at hg; have := hf1 g hg; omega
      · rw [e'] at hg; cases hg; omega
end Go.Proofs.YtpghlemcgjogpaaGreat
