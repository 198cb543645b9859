/- The document's table of locks: Drop, the whole. -/
import Derived.Test.YtpghlemcgjogpaaGreatEG
set_option linter.unusedVariables false
set_option linter.unusedSimpArgs false
set_option linter.unnecessarySimpa false
set_option maxRecDepth 100000
namespace Go.Proofs.YtpghlemcgjogpaaGreat
open Go.Sx

theorem strs_set : ∀ (l : List ByteArray) (i : Nat) (x : ByteArray), i < l.length → (strs l).take (i * 1) ++ [.string x] ++ (strs l).drop ((i + 1) * 1) = strs (l.set i x) := by
  intro l i x hi
  rw [Nat.mul_one, Nat.mul_one, List.set_eq_take_append_cons_drop, if_pos hi]
  unfold strs
  rw [List.map_append, List.map_cons, List.map_take, List.map_drop]
  simp
theorem swapS (H : List ByteArray) (l : ByteArray) (k : Nat) (y : ByteArray) (hy : H[k]? = some y) : ((H.take (k + 1) ++ l :: H.drop (k + 1)).set (k + 1) y).set k l = H.take k ++ l :: H.drop k := by
  obtain ⟨hk, e⟩ := List.getElem?_eq_some_iff.1 hy
  have h1 : H.take (k + 1) = H.take k ++ [y] := by rw [List.take_add_one, hy]; rfl
  have h2 : H.drop k = y :: H.drop (k + 1) := by rw [List.drop_eq_getElem_cons hk, e]
  have hl : (H.take (k + 1)).length = k + 1 := by rw [List.length_take]; omega
  have hl0 : (H.take k).length = k := by rw [List.length_take]; omega
  rw [List.set_append_right _ _ (by omega), hl, Nat.sub_self, List.set_cons_zero, h1, List.append_assoc, List.set_append_right _ _ (by omega), hl0, Nat.sub_self, h2]
  rfl
theorem run_strlt {P : Program} {w : World} {t : Nat} {x y : Operand} {s u : ByteArray} : (binS .lss t x y (.string s) (.string u)).run P w = .ok (.bool (ltB s u)) w := by simp [binS, eqGuard, binOp, Op.stringOp, ltB]
/-- A name is brought to its place. -/
theorem tIns_c (L : List ByteArray) (hL : L.length ≤ 1099511627776) (r : ByteArray) (v0 v1 v5 v6 v7 : Value) (w : World) (hS : RowS w v5 (L ++ [r])) (R : Ending → World → Prop) (h : ∀ w', RowS w' v5 (insS L r) → Keep (fun b => rowB v5 = some b) w w' → F10_s5 R v0 v1 v5 v6 v7 w') :
    F10_s23 R v0 v1 v5 v6 v7 (.int .i64 L.length) w := by
  simp only [F10_s23]
  refine ⟨fun v11 w' => ∃ k : Nat, v11 = .int .i64 k ∧ k ≤ L.length ∧ RowS w' v5 (L.take k ++ r :: L.drop k) ∧ Keep (fun b => rowB v5 = some b) w w' ∧ insPosS L r k = insPosS L r L.length, fun v11 _ => match v11 with | .int _ k => k.toNat | _ => 0,
    ⟨L.length, rfl, Nat.le_refl _, by simpa using hS, Keep.refl _ w, rfl⟩, ?_⟩
  rintro v11 w1 ⟨k, rfl, hk, hS1, hk1, hp1⟩
  simp only [F10_s24, F10_s24_t]
  refine ⟨fun w' => w'.heap = w1.heap, rfl, HV_of (fun w' _ => run_gtI) ?_⟩
  have hkd : Keep (fun b => rowB v5 = some b) w w1.drew := hk1.drew
  have hSd : RowS w1.drew v5 (L.take k ++ r :: L.drop k) := hS1
  have done : insPosS L r L.length = k → F10_s5 R v0 v1 v5 v6 v7 w1.drew := fun e => h _ (by unfold insS; rw [e]; exact hSd) hkd
  cases k with
  | zero =>
    have e1 : decide (((0 : Nat) : Int) > 0) = false := by decide
    simp only [e1, GH_tf, GH_undef, GH_ft]
    refine HV_of (fun w' _ => run_pick) ?_
    simp only [Bool.false_eq_true, if_false, F10_s25, ↓uL.1]
    exact done (by rw [← hp1]; rfl)
  | succ k =>
    have e1 : decide (((k + 1 : Nat) : Int) > 0) = true := by rw [decide_eq_true_eq]; omega
    have e2 : IntKind.i64.wrap (((k + 1 : Nat) : Int) - 1) = (k : Int) := by rw [wrap_id (by omega) (by omega)]; omega
    obtain ⟨y, hy⟩ : ∃ y, L[k]? = some y := ⟨L[k], List.getElem?_eq_getElem (by omega)⟩
    have hlt : (L.take (k + 1)).length = k + 1 := by rw [List.length_take]; omega
    have hxl : (L.take (k + 1) ++ r :: L.drop (k + 1))[k + 1]? = some r := by
      rw [List.getElem?_append_right (by omega), hlt, Nat.sub_self]; rfl
    have hxy : (L.take (k + 1) ++ r :: L.drop (k + 1))[k]? = some y := by
      rw [List.getElem?_append_left (by omega), List.getElem?_take_of_lt (by omega)]; exact hy
    have hlen1 : (L.take (k + 1) ++ r :: L.drop (k + 1)).length = L.length + 1 := by
      rw [List.length_append, List.length_cons, List.length_drop, hlt]; omega
    obtain ⟨gx, ox, hgx, ixx, cx⟩ := RowS.read hS1 hxl
    obtain ⟨gy, oy, hgy, ixy, cy⟩ := RowS.read hS1 hxy
    simp only [e1, GH_hit]
    refine HV_of (fun w' _ => ixx w') (HV_load1 (v := .string r) (by kernel_rfl) (fun w' hw => by rw [hw]; exact cx) (HV_of (fun w' _ => run_sub) ?_))
    rw [e2]
    refine HV_of (fun w' _ => ixy w') (HV_load1 (v := .string y) (by kernel_rfl) (fun w' hw => by rw [hw]; exact cy) (HV_of (fun w' _ => run_strlt) (HV_of (fun w' _ => run_pick) ?_)))
    have hstep : insPosS L r (k + 1) = if ltB r y = true then insPosS L r k else k + 1 := by
      conv => lhs; unfold insPosS
      rw [hy]
    simp only [if_true, F10_s25]
    cases hah : ltB r y
    · rw [hah] at hstep
      simp only [Bool.false_eq_true, if_false] at hstep
      simp only [↓uL.1]
      exact done (by rw [← hp1, hstep])
    · rw [hah, if_pos rfl] at hstep
      obtain ⟨p4, ip4, w4, st4, hr4, hk4⟩ := Row.store (w := w1.drew) hSd (P := Tryz.prog) (q := .i64) (i := k + 1) (ys := [.string y]) (val := .string y) (by omega) und68 siz9' rfl (by simp [oneV]) rfl
      rw [strs_set _ _ _ (by omega)] at hr4
      have hr4' : RowS w4 v5 ((L.take (k + 1) ++ r :: L.drop (k + 1)).set (k + 1) y) := by
        unfold RowS; rw [List.length_set]; exact hr4
      obtain ⟨p5, ip5, w5, st5, hr5, hk5⟩ := Row.store (w := w4) hr4' (P := Tryz.prog) (q := .i64) (i := k) (ys := [.string r]) (val := .string r) (by rw [List.length_set]; omega) und68 siz9' rfl (by simp [oneV]) rfl
      rw [strs_set _ _ _ (by rw [List.length_set]; omega), swapS L r k y hy] at hr5
      have cx' : Sx.cellIn (w1.drew.heap[gx]?) ox = some (.string r) := cx
      have cy' : Sx.cellIn (w1.drew.heap[gy]?) oy = some (.string y) := cy
      simp only [↓uL.1, F10_s28, F10_s28_t, uv_eq (ixx _), uv_eq (ixy _), tL.1, cellIn_cells, frzIn_00, setIn_cells, cellsIn_cells, List.getElem?_toArray, List.getElem?_cons_zero, List.getElem?_cons_succ, Option.isSome_some, Option.getD_some, Nat.zero_add, Nat.add_zero, List.setIfInBounds_toArray, List.set_cons_zero, List.set_cons_succ, put_same, add_new, add_old, oneV, Value.cells, List.size_toArray, List.length_cons, List.length_nil, List.extract_toArray, List.extract_eq_take_drop, Nat.reduceAdd, Nat.reduceSub, Nat.reduceLeDiff, if_true, List.drop_zero, List.take_succ_cons, List.take_zero, List.drop_succ_cons, drew_heap, cx, cy, e2]
      have e4 : p4 = .pointer (some ⟨gx, ox, none⟩) := by
        have := (ip4 w1).symm.trans (ixx w1)
        simpa using this
      have e5 : p5 = .pointer (some ⟨gy, oy, none⟩) := by
        have := (ip5 w1).symm.trans (ixy w1)
        simpa using this
      rw [e4] at st4
      rw [e5] at st5
      rw [uu_eq st4, uu_eq st5]
      simp only [F10_s27, F10_s27_t, ↓uL.1, e2]
      refine ⟨⟨k, rfl, by omega, ?_, (hkd.trans hk4 (fun _ _ h => h)).trans hk5 (fun _ _ h => h), by rw [← hp1, hstep]⟩, by simp⟩
      have e9 : (L.take k ++ r :: L.drop k).length = ((L.take (k + 1) ++ r :: L.drop (k + 1)).set (k + 1) y).length := by
        rw [List.length_set, hlen1, List.length_append, List.length_cons, List.length_take, List.length_drop]; omega
      unfold RowS
      rw [e9]
      exact hr5
/-- What remains to be done once the things are known. -/
theorem tDropRest_c (M : MT) (B : Nat) (hB : B ≤ 1048576) (hG : MG B M) (t : Int) (w0 w : World) (hM0 : MTAt w0 M) (hk : Keep0 w0 w) (things : List ByteArray) (v5 v6 v7 : Value) (hS : RowS w v5 things) (hL : RowL w v6 (M.H.filter fun h => h.txn != t)) (hL0 : ∀ g, rowB v6 = some g → w0.heap.size ≤ g) (hro : RowI w v7 []) (hfo : ∀ g, rowB v7 = some g → w0.heap.size ≤ g) (R : Ending → World → Prop)
    (h : ∀ v w' M', MAfter M w0 w' M' → MG B M' → M'.H = (things.foldl serveR (M.H.filter fun h => h.txn != t, forgetR M.W t, [])).1 → M'.W = (things.foldl serveR (M.H.filter fun h => h.txn != t, forgetR M.W t, [])).2.1 → RowI w' v (things.foldl serveR (M.H.filter fun h => h.txn != t, forgetR M.W t, [])).2.2 → (∀ g, rowB v = some g → w0.heap.size ≤ g) → R (.returned v) w') :
    F10_s5 R (ptr M.bm) (.int .i64 t) v5 v6 v7 w := by
  have hM := hM0.keep0 hk
  have hlen := hG.len
  have hone : oneV v6 = true := by obtain ⟨a, c, rfl⟩ := hL.len; rfl
  simp only [F10_s5, F10_s5_t, ↓uL.1, tL.1, cellIn_cells, frzIn_00, setIn_cells, cellsIn_cells, List.getElem?_toArray, List.getElem?_cons_zero, List.getElem?_cons_succ, Option.isSome_some, Option.getD_some, Nat.zero_add, Nat.add_zero, List.setIfInBounds_toArray, List.set_cons_zero, List.set_cons_succ, put_same, add_new, add_old, oneV, Value.cells, List.size_toArray, List.length_cons, List.length_nil, List.extract_toArray, List.extract_eq_take_drop, Nat.reduceAdd, Nat.reduceSub, Nat.reduceLeDiff, if_true, List.drop_zero, List.take_succ_cons, List.take_zero, List.drop_succ_cons, drew_heap]
  rw [uu_store1 (by kernel_rfl) (by kernel_rfl) hone (by rw [hM.cell]; rfl) (by rw [hM.cell]; rfl), hM.cell]
  have hset : Sx.setIn (some (.cells #[M.vh, M.vw] 30 (0, 0))) 0 v6 = .cells #[v6, M.vw] 30 (0, 0) := rfl
  rw [hset]
  have hM1 := hM.setH hL (rowL_ne hM hL)
  have hbmlt := hM0.lt (b := M.bm) (.inl rfl)
  have hfl := List.length_filter_le (fun h : Lk => h.txn != t) M.H
  have hA1 : MAfter M w0 (World.put w M.bm (.cells #[v6, M.vw] 30 (0, 0))) { M with vh := v6, H := M.H.filter fun h => h.txn != t } := by
    refine ⟨hM1, rfl, (hk.mono (fun _ _ h => h.elim)).put (fun _ => .inl rfl), fun b hb => ?_⟩
    rcases hb with hb | hb | hb
    · exact .inl (.inl hb)
    · exact .inr (hL0 b hb)
    · exact .inl (.inr (.inr hb))
  have hneS : ∀ g, rowB v5 = some g → M.bm ≠ g := fun g hg e => row_notFoot hM hS (by decide) g hg (.inl e.symm)
  have hneO : ∀ g, rowB v7 = some g → M.bm ≠ g := fun g hg e => row_notFoot hM hro (by decide) g hg (.inl e.symm)
  have hS1 : RowS (World.put w M.bm (.cells #[v6, M.vw] 30 (0, 0))) v5 things := Row.congr hS fun g hg => put_ne (hneS g hg)
  have hro1 : RowI (World.put w M.bm (.cells #[v6, M.vw] 30 (0, 0))) v7 [] := Row.congr hro fun g hg => put_ne (hneO g hg)
  generalize World.put w M.bm (.cells #[v6, M.vw] 30 (0, 0)) = w1 at hM1 hA1 hS1 hro1 ⊢
  refine un_enter (enters Tryz.func35 (by kernel_rfl) (by kernel_rfl) _ _) (tforget_c { M with vh := v6, H := M.H.filter fun h => h.txn != t } t w1 hM1 (by simp only; omega) _ fun w2 M2 hA2 hH2 hW2 => ?_)
  have hS2 : RowS w2 v5 things := Row.keep hS1 hA2.keep (row_notFoot hM1 hS1 (by decide))
  have hro2 : RowI w2 v7 [] := Row.keep hro1 hA2.keep (row_notFoot hM1 hro1 (by decide))
  have hG2 : MG B M2 := by
    have hfw := List.length_filter_le (fun x : Ws => x.l.txn != t) M.W
    refine ⟨fun x hx => ?_, fun x hx => ?_, ?_, ?_⟩
    · rw [hH2] at hx; exact hG.oh x (List.mem_filter.1 hx).1
    · rw [hW2] at hx; exact hG.ow x (List.mem_filter.1 hx).1
    · rw [hW2]; exact hG.nd.sublist (List.filter_sublist.map _)
    · rw [hH2, hW2]; unfold forgetR; simp only; omega
  refine tServes_c M w0 B hB things M2 w2 (hA1.trans hA2) hG2 v7 v5 hS2 hro2 hfo R fun v w3 M3 hA3 hG3 hH3 hW3 hro3 hfo3 => ?_
  rw [hH2, hW2] at hH3 hW3 hro3
  exact h v w3 M3 hA3 hG3 hH3 hW3 hro3 hfo3
theorem tDrop_c (M : MT) (B : Nat) (hB : B ≤ 1048576) (hG : MG B M) (t : Int) (w : World) (hM : MTAt w M) (R : Ending → World → Prop)
    (h : ∀ v w' M', MAfter M w w' M' → MG B M' → M'.H = (dropR M.H M.W t).1 → M'.W = (dropR M.H M.W t).2.1 → RowI w' v (dropR M.H M.W t).2.2 → (∀ g, rowB v = some g → w.heap.size ≤ g) → R (.returned v) w') :
    Calls Tryz.prog 10 #[ptr M.bm, .int .i64 t] w R := by
  apply F10_calls
  have hlen := hG.len
  simp only [F10_s1, F10_s1_t, uv_eq (bslS0 _), uv_eq (bslL0' _), uv_eq (bslI0 _), hadd_size]
  have hS0 : RowS (World.add w (.cells #[] 9)) (.slice (some ⟨w.heap.size, 0, none⟩) 0 0) [] := Row.fresh (cs := []) rfl (by decide)
  have hL0 : RowL (World.add (World.add w (.cells #[] 9)) (.cells #[] 42)) (.slice (some ⟨(World.add w (.cells #[] 9)).heap.size, 0, none⟩) 0 0) [] := Row.fresh (cs := []) rfl (by decide)
  have hO0 : RowI (World.add (World.add (World.add w (.cells #[] 9)) (.cells #[] 42)) (.cells #[] 3)) (.slice (some ⟨(World.add (World.add w (.cells #[] 9)) (.cells #[] 42)).heap.size, 0, none⟩) 0 0) [] := Row.fresh (cs := []) rfl (by decide)
  have hka : Keep0 (World.add w (.cells #[] 9)) (World.add (World.add (World.add w (.cells #[] 9)) (.cells #[] 42)) (.cells #[] 3)) := ((Keep.refl _ _).add).add
  have hkb : Keep0 (World.add (World.add w (.cells #[] 9)) (.cells #[] 42)) (World.add (World.add (World.add w (.cells #[] 9)) (.cells #[] 42)) (.cells #[] 3)) := (Keep.refl _ _).add
  have hk0 : Keep0 w (World.add (World.add (World.add w (.cells #[] 9)) (.cells #[] 42)) (.cells #[] 3)) := (((Keep.refl _ w).add).add).add
  replace hS0 := Row.keep hS0 hka (fun _ _ => id)
  replace hL0 := Row.keep hL0 hkb (fun _ _ => id)
  simp only [hadd_size] at hL0 hO0
  have hsz : (World.add (World.add (World.add w (.cells #[] 9)) (.cells #[] 42)) (.cells #[] 3)).heap.size = w.heap.size + 3 := by simp only [hadd_size]
  generalize World.add (World.add (World.add w (.cells #[] 9)) (.cells #[] 42)) (.cells #[] 3) = w1 at hS0 hL0 hO0 hk0 hsz ⊢
  refine un_enter (enters Tryz.func23 (by kernel_rfl) (by kernel_rfl) _ _) (tWish_c M t w1 (hM.keep0 hk0) _ fun w2 hk2 => ?_)
  simp only [uv_eq run_tupA0, uv_eq run_tupA1]
  rw [uv_allocS (vs := (wishR M.W t).1.cells) zer37 siz37 rfl rfl (by intro u hu; exact lcells_one [(wishR M.W t).1] u (by simpa [lcells] using hu))]
  have hk3 : Keep0 w2 (World.add w2 (.cells (wishR M.W t).1.cells.toArray 42)) := (Keep.refl _ w2).add
  have hbx : (World.add w2 (.cells (wishR M.W t).1.cells.toArray 42)).heap[w2.heap.size]? = some (.cells #[.int .i64 (wishR M.W t).1.txn, .string (wishR M.W t).1.res, .int .i64 (wishR M.W t).1.mode] 42 (0, 0)) := add_new
  have hs2 := hk2.size
  have hk13 : Keep0 w1 (World.add w2 (.cells (wishR M.W t).1.cells.toArray 42)) := hk2.trans hk3 (fun _ _ h => h)
  have hs3 : (World.add w2 (.cells (wishR M.W t).1.cells.toArray 42)).heap.size = w2.heap.size + 1 := hadd_size
  generalize World.add w2 (.cells (wishR M.W t).1.cells.toArray 42) = w3 at hbx hk13 hs3 ⊢
  generalize hbxe : w2.heap.size = bx at hbx hs2 hs3 ⊢
  have hk03 : Keep0 w w3 := hk0.trans hk13 (fun _ _ h => h)
  simp only [F10_s29]
  refine ⟨fun v5 v6 v10 w' => ∃ i : Nat, v10 = .int .i64 i ∧ i ≤ M.H.length ∧ RowS w' v5 (((M.H.take i).filter fun h => h.txn == t).map (·.res)) ∧ RowL w' v6 ((M.H.take i).filter fun h => h.txn != t) ∧ RowI w' (.slice (some ⟨w.heap.size + 1 + 1, 0, none⟩) 0 0) [] ∧
      (∀ g, rowB v5 = some g → w.heap.size ≤ g) ∧ (∀ g, rowB v6 = some g → w.heap.size ≤ g ∧ g ≠ bx) ∧ w'.heap[bx]? = some (.cells #[.int .i64 (wishR M.W t).1.txn, .string (wishR M.W t).1.res, .int .i64 (wishR M.W t).1.mode] 42 (0, 0)) ∧ Keep0 w w',
    fun _ _ v10 _ => match v10 with | .int _ i => M.H.length - i.toNat | _ => 0, ⟨0, rfl, by omega, Row.keep hS0 hk13 (fun _ _ => id), Row.keep hL0 hk13 (fun _ _ => id), Row.keep hO0 hk13 (fun _ _ => id), fun g hg => ?_, fun g hg => ?_, hbx, hk03⟩, ?_⟩
  · have e : w.heap.size = g := by simpa [rowB] using hg
    omega
  · have e : w.heap.size + 1 = g := by simpa [rowB] using hg
    omega
  rintro v5 v6 v10 w4 ⟨i, rfl, hi, hS4, hL4, hO4, hf5, hf6, hbx4, hk4⟩
  have hM4 := hM.keep0 hk4
  have hs4 := hk4.size
  simp only [F10_s30, F10_s30_t, ↓uL.1, tL.1, cellIn_cells, frzIn_00, setIn_cells, cellsIn_cells, List.getElem?_toArray, List.getElem?_cons_zero, List.getElem?_cons_succ, Option.isSome_some, Option.getD_some, Nat.zero_add, Nat.add_zero, List.setIfInBounds_toArray, List.set_cons_zero, List.set_cons_succ, put_same, add_new, add_old, oneV, Value.cells, List.size_toArray, List.length_cons, List.length_nil, List.extract_toArray, List.extract_eq_take_drop, Nat.reduceAdd, Nat.reduceSub, Nat.reduceLeDiff, if_true, List.drop_zero, List.take_succ_cons, List.take_zero, List.drop_succ_cons, drew_heap, hM4.cell, un_lenR und32 hM4.rh, F10_s31]
  by_cases hlt : i < M.H.length
  · have e1 : decide ((i : Int) < (M.H.length : Int)) = true := by rw [decide_eq_true_eq]; omega
    have e4 : IntKind.i64.wrap ((i : Int) + 1) = ((i + 1 : Nat) : Int) := by rw [wrap_id (by omega) (by omega)]; omega
    obtain ⟨y, hy⟩ : ∃ y, M.H[i]? = some y := ⟨M.H[i], List.getElem?_eq_getElem hlt⟩
    have htk : M.H.take (i + 1) = M.H.take i ++ [y] := by rw [List.take_add_one, hy]; rfl
    obtain ⟨g, o, hg, hgl, ix, cl⟩ := RowL.read hM4.rh hy
    have c0 := lk0 cl
    have c1 := lk1 cl
    simp only [Nat.add_zero] at c0
    have hl1 := List.length_filter_le (fun h : Lk => h.txn == t) (M.H.take i)
    have hl2 := List.length_filter_le (fun h : Lk => h.txn != t) (M.H.take i)
    rw [List.length_take] at hl1 hl2
    simp only [e1, ↓uL.1, F10_s34, F10_s34_t, tL.1, cellIn_cells, frzIn_00, setIn_cells, cellsIn_cells, List.getElem?_toArray, List.getElem?_cons_zero, List.getElem?_cons_succ, Option.isSome_some, Option.getD_some, Nat.zero_add, Nat.add_zero, List.setIfInBounds_toArray, List.set_cons_zero, List.set_cons_succ, put_same, add_new, add_old, oneV, Value.cells, List.size_toArray, List.length_cons, List.length_nil, List.extract_toArray, List.extract_eq_take_drop, Nat.reduceAdd, Nat.reduceSub, Nat.reduceLeDiff, if_true, List.drop_zero, List.take_succ_cons, List.take_zero, List.drop_succ_cons, drew_heap, hM4.cell, uv_eq (ix _), c0, F10_s35]
    cases h1 : (y.txn == t)
    · have h1' : (y.txn != t) = true := by rw [bne, h1]; rfl
      have hld : (Instr.loadAt 42 (.pointer (some ⟨g, o, none⟩))).run Tryz.prog w4 = .ok (.agg #[.int .i64 y.txn, .string y.res, .int .i64 y.mode]) w4 := run_loadN (n := 3) (by kernel_rfl) cl
      simp only [↓uL.1, F10_s37, F10_s37_t, tL.1, cellIn_cells, frzIn_00, setIn_cells, cellsIn_cells, List.getElem?_toArray, List.getElem?_cons_zero, List.getElem?_cons_succ, Option.isSome_some, Option.getD_some, Nat.zero_add, Nat.add_zero, List.setIfInBounds_toArray, List.set_cons_zero, List.set_cons_succ, put_same, add_new, add_old, oneV, Value.cells, List.size_toArray, List.length_cons, List.length_nil, List.extract_toArray, List.extract_eq_take_drop, Nat.reduceAdd, Nat.reduceSub, Nat.reduceLeDiff, if_true, List.drop_zero, List.take_succ_cons, List.take_zero, List.drop_succ_cons, drew_heap, hM4.cell, uv_eq (ix _), uv_eq hld]
      refine un_appL2 (x := y) hL4 (by omega) fun v' w5 hL5 hf' hk5 => ?_
      simp only [F10_s33, F10_s33_t, ↓uL.1, e4]
      refine ⟨⟨i + 1, rfl, by omega, ?_, ?_, Row.keep hO4 hk5 (fun g hg e => row_apart hO4 hL4 (by decide) g hg e), hf5, fun g' hg' => ?_, hk5.at hbx4 (fun e => (hf6 _ e).2 rfl), hk4.trans hk5 (fun b hb hv => by have := (hf6 b hv).1; omega)⟩, by simp; omega⟩
      · rw [htk, List.filter_append]
        simp only [List.filter_cons, h1, Bool.false_eq_true, if_false, List.filter_nil, List.append_nil]
        exact Row.keep hS4 hk5 (fun g hg e => row_apart hS4 hL4 (by decide) g hg e)
      · rw [htk, List.filter_append]
        simp only [List.filter_cons, h1', if_true, List.filter_nil]
        exact hL5
      · rcases hf' with e | ⟨g2, e, hg2⟩
        · rw [e] at hg'; exact hf6 g' hg'
        · rw [e] at hg'; cases hg'
          have := lt_of_at hbx4
          exact ⟨by omega, by omega⟩
    · have h1' : (y.txn != t) = false := by rw [bne, h1]; rfl
      simp only [↓uL.1, F10_s36, F10_s36_t, tL.1, cellIn_cells, frzIn_00, setIn_cells, cellsIn_cells, List.getElem?_toArray, List.getElem?_cons_zero, List.getElem?_cons_succ, Option.isSome_some, Option.getD_some, Nat.zero_add, Nat.add_zero, List.setIfInBounds_toArray, List.set_cons_zero, List.set_cons_succ, put_same, add_new, add_old, oneV, Value.cells, List.size_toArray, List.length_cons, List.length_nil, List.extract_toArray, List.extract_eq_take_drop, Nat.reduceAdd, Nat.reduceSub, Nat.reduceLeDiff, if_true, List.drop_zero, List.take_succ_cons, List.take_zero, List.drop_succ_cons, drew_heap, hM4.cell, uv_eq (ix _), c1]
      refine un_appS (x := y.res) hS4 (by rw [List.length_map]; omega) fun v' w5 hS5 hf' hk5 => ?_
      simp only [F10_s33, F10_s33_t, ↓uL.1, e4]
      have hnb : ¬ rowB v5 = some bx := fun e => by
        obtain ⟨c, hc⟩ := row_block hS4 e
        rw [hbx4] at hc
        simp only [Option.some.injEq, Obj.cells.injEq] at hc
        exact absurd hc.2.1 (by decide)
      refine ⟨⟨i + 1, rfl, by omega, ?_, ?_, Row.keep hO4 hk5 (fun g hg e => row_apart hO4 hS4 (by decide) g hg e), fun g' hg' => ?_, hf6, hk5.at hbx4 hnb, hk4.trans hk5 (fun b hb hv => by have := hf5 b hv; omega)⟩, by simp; omega⟩
      · rw [htk, List.filter_append, List.map_append]
        simp only [List.filter_cons, h1, if_true, List.filter_nil, List.map_cons, List.map_nil]
        exact hS5
      · rw [htk, List.filter_append]
        simp only [List.filter_cons, h1', Bool.false_eq_true, if_false, List.filter_nil, List.append_nil]
        exact Row.keep hL4 hk5 (fun g hg e => row_apart hL4 hS4 (by decide) g hg e)
      · rcases hf' with e | ⟨g2, e, hg2⟩
        · rw [e] at hg'; exact hf5 g' hg'
        · rw [e] at hg'; cases hg'; omega
  · have e1 : decide ((i : Int) < (M.H.length : Int)) = false := by rw [decide_eq_false_iff_not]; omega
    have hil : i = M.H.length := by omega
    rw [hil, List.take_length] at hS4 hL4
    simp only [e1, ↓uL.1]
    unfold dropR thingsR at h
    have rest : ∀ (w5 : World) (v : Value) (things : List ByteArray), Keep0 w w5 → RowS w5 v things → RowL w5 v6 (M.H.filter fun h => h.txn != t) → RowI w5 (.slice (some ⟨w.heap.size + 1 + 1, 0, none⟩) 0 0) [] →
        (∀ v w' M', MAfter M w w' M' → MG B M' → M'.H = (things.foldl serveR (M.H.filter fun h => h.txn != t, forgetR M.W t, [])).1 → M'.W = (things.foldl serveR (M.H.filter fun h => h.txn != t, forgetR M.W t, [])).2.1 → RowI w' v (things.foldl serveR (M.H.filter fun h => h.txn != t, forgetR M.W t, [])).2.2 → (∀ g, rowB v = some g → w.heap.size ≤ g) → R (.returned v) w') →
        F10_s5 R (ptr M.bm) (.int .i64 t) v v6 (.slice (some ⟨w.heap.size + 1 + 1, 0, none⟩) 0 0) w5 := fun w5 v things hk hS hL hO hh =>
      tDropRest_c M B hB hG t w w5 hM hk things v v6 _ hS hL (fun g hg => (hf6 g hg).1) hO (fun g hg => by
        have e : w.heap.size + 1 + 1 = g := by simpa [rowB] using hg
        omega) R hh
    have hlb : ((M.H.filter fun h => h.txn == t).map (·.res)).length ≤ M.H.length := by rw [List.length_map]; exact List.length_filter_le _ _
    simp only [F10_s3, F10_s3_t]
    cases hw : (wishR M.W t).2
    · rw [hw] at h
      simp only [Bool.false_and, Bool.false_eq_true, if_false] at h
      simp only [↓uL.1, Bool.false_eq_true, if_false, F10_s4]
      exact rest w4 v5 _ hk4 hS4 hL4 hO4 h
    · rw [hw] at h
      simp only [Bool.true_and] at h
      simp only [↓uL.1, tL.1, cellIn_cells, frzIn_00, setIn_cells, cellsIn_cells, List.getElem?_toArray, List.getElem?_cons_zero, List.getElem?_cons_succ, Option.isSome_some, Option.getD_some, Nat.zero_add, Nat.add_zero, List.setIfInBounds_toArray, List.set_cons_zero, List.set_cons_succ, put_same, add_new, add_old, oneV, Value.cells, List.size_toArray, List.length_cons, List.length_nil, List.extract_toArray, List.extract_eq_take_drop, Nat.reduceAdd, Nat.reduceSub, Nat.reduceLeDiff, if_true, List.drop_zero, List.take_succ_cons, List.take_zero, List.drop_succ_cons, drew_heap, hbx4]
      refine un_enter (enters Tryz.func25 (by kernel_rfl) (by kernel_rfl) _ _) (tMode_c M t (wishR M.W t).1.res w4 hM4 _ ?_)
      simp only [↓uL.1, if_true, F10_s4]
      cases hm : (modeR M.H t (wishR M.W t).1.res == 0)
      · rw [hm] at h
        simp only [Bool.false_eq_true, if_false] at h
        simp only [↓uL.1]
        exact rest w4 v5 _ hk4 hS4 hL4 hO4 h
      · rw [hm] at h
        simp only [if_true] at h
        simp only [↓uL.1, F10_s21, F10_s21_t, tL.1, cellIn_cells, frzIn_00, setIn_cells, cellsIn_cells, List.getElem?_toArray, List.getElem?_cons_zero, List.getElem?_cons_succ, Option.isSome_some, Option.getD_some, Nat.zero_add, Nat.add_zero, List.setIfInBounds_toArray, List.set_cons_zero, List.set_cons_succ, put_same, add_new, add_old, oneV, Value.cells, List.size_toArray, List.length_cons, List.length_nil, List.extract_toArray, List.extract_eq_take_drop, Nat.reduceAdd, Nat.reduceSub, Nat.reduceLeDiff, if_true, List.drop_zero, List.take_succ_cons, List.take_zero, List.drop_succ_cons, drew_heap, hbx4]
        refine un_appS (x := (wishR M.W t).1.res) hS4 (by omega) fun v' w5 hS5 hf' hk5 => ?_
        have e6 : IntKind.i64.wrap (((((M.H.filter fun h => h.txn == t).map (·.res)) ++ [(wishR M.W t).1.res]).length : Nat) - 1 : Int) = ((((M.H.filter fun h => h.txn == t).map (·.res)).length : Nat) : Int) := by
          have e7 : (((M.H.filter fun h => h.txn == t).map (·.res)) ++ [(wishR M.W t).1.res]).length = ((M.H.filter fun h => h.txn == t).map (·.res)).length + 1 := by simp
          rw [e7, wrap_id (by omega) (by omega)]; omega
        simp only [un_lenR und68 hS5, ↓uL.1, e6]
        have hL5 := Row.keep hL4 hk5 (fun g hg e => row_apart hL4 hS4 (by decide) g hg e)
        have hO5 := Row.keep hO4 hk5 (fun g hg e => row_apart hO4 hS4 (by decide) g hg e)
        refine tIns_c _ (by omega) _ _ _ v' _ _ w5 hS5 R fun w6 hS6 hk6 => ?_
        have hf5' : ∀ g, rowB v' = some g → w.heap.size ≤ g := fun g hg => by
          rcases hf' with e | ⟨g2, e, hg2⟩
          · rw [e] at hg; exact hf5 g hg
          · rw [e] at hg; cases hg; omega
        exact rest w6 v' _ ((hk4.trans hk5 (fun b hb hv => by have := hf5 b hv; omega)).trans hk6 (fun b hb hv => by have := hf5' b hv; omega)) hS6 (Row.keep hL5 hk6 (fun g hg e => row_apart hL5 hS5 (by decide) g hg e)) (Row.keep hO5 hk6 (fun g hg e => row_apart hO5 hS5 (by decide) g hg e)) h
end Go.Proofs.YtpghlemcgjogpaaGreat
