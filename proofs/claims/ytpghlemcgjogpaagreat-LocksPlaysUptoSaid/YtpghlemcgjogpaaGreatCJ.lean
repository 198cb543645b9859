/- Locks. -/
import Derived.Test.YtpghlemcgjogpaaGreatCI
set_option linter.unusedVariables false
set_option linter.unusedSimpArgs false
set_option linter.unnecessarySimpa false
set_option maxRecDepth 100000
namespace Go.Proofs.YtpghlemcgjogpaaGreat
open Go.Sx

def locksAt (A : Abs) (r : ByteArray) : List Lk := match pget A.things r with | some x => (sortI (x.1.map (·.1))).map fun t => ⟨t, r, modeOf x.1 t⟩ | none => []
def locksF (A : Abs) : List Lk := (sortS (A.things.map (·.1))).flatMap (locksAt A)
theorem sortI_perm (ks : List Int) : (sortI ks).Perm ks := List.mergeSort_perm _ _
theorem ints_at {l : List Int} {i : Nat} {s : Int} (h : l[i]? = some s) : ((ints l).drop (i * 1)).take 1 = [.int .i64 s] := by
  have hlt := (List.getElem?_eq_some_iff.1 h).1
  have hv := (List.getElem?_eq_some_iff.1 h).2
  rw [Nat.mul_one, ints, ← List.map_drop, List.drop_eq_getElem_cons hlt, hv]
  rfl
theorem key_some {l : List (ByteArray × List (Int × Int) × List Wi)} {r : ByteArray} (h : r ∈ sortS (l.map (·.1))) : ∃ x, pget l r = some x := by
  have := (sortS_perm _).subset h
  obtain ⟨p, hp, rfl⟩ := List.mem_map.1 this
  clear this h
  induction l with
  | nil => cases hp
  | cons a l ih =>
    simp only [pget]
    split
    · exact ⟨_, rfl⟩
    · rename_i hne
      rcases List.mem_cons.1 hp with rfl | hp
      · exact absurd rfl hne
      · exact ih hp
theorem locksAt_len {A : Abs} (hs : Small A) (r : ByteArray) : (locksAt A r).length ≤ 1048576 := by
  unfold locksAt
  cases hx : pget A.things r with
  | none => simp
  | some x =>
    simp only [List.length_map]
    rw [(sortI_perm _).length_eq, List.length_map]
    exact hs.hvn (r, x) (pget_mem hx)
theorem flat_len {A : Abs} (hs : Small A) (ks : List ByteArray) : (ks.flatMap (locksAt A)).length ≤ ks.length * 1048576 := by
  induction ks with
  | nil => simp
  | cons r ks ih =>
    have := locksAt_len hs r
    rw [List.flatMap_cons, List.length_append, List.length_cons, Nat.add_mul]; omega
/-- One more lock behind those there are: the same block, or a new one. -/
theorem un_appL2 {w : World} {v : Value} {l : List Lk} {x : Lk} {R : Ending → World → Prop} {k : Value → World → Prop} (h : RowL w v l) (hlt : l.length ≤ 2199023255552) {cs : Array Bool} {ty : Nat}
    (hk : ∀ v' w', RowL w' v' (l ++ [x]) → (rowB v' = rowB v ∨ ∃ g, rowB v' = some g ∧ w.heap.size ≤ g) → Keep (fun b => rowB v = some b) w w' → k v' w') :
    uv Tryz.prog R (Instr.buildSlice 27 1 #[(0, .agg #[.int .i64 x.txn, .string x.res, .int .i64 x.mode])]) w (fun s w => un Tryz.prog R (builtin .append #[27, 27] ty cs #[v, s]) w k) := by
  have hmx : 4398046511104 ≤ maxLen := by decide
  rw [uv_eq (bslL _ _ _ _)]
  have hka : Keep0 w (World.add w (.cells #[.int .i64 x.txn, .string x.res, .int .i64 x.mode] 42)) := (Keep.refl _ w).add
  have hsr : Row (World.add w (.cells #[.int .i64 x.txn, .string x.res, .int .i64 x.mode] 42)) 42 3 (.slice (some ⟨w.heap.size, 0, none⟩) 1 1) 1 x.cells := Row.fresh (cs := x.cells) rfl (by decide)
  refine un_appendR apL (by decide) (h.keep hka (fun _ _ => id)) hsr (by intro u hu; exact lcells_one [x] u (by simpa [lcells] using hu)) (by omega) (by omega) fun v' w' h1 hk1 hf1 => hk v' w' ?_ ?_ ?_
  · unfold RowL lcells at *
    rw [List.length_append, List.flatMap_append]
    simpa using h1
  · refine hf1.imp id ?_
    rintro ⟨g, e, hg⟩
    exact ⟨g, e, Nat.le_trans hka.size hg⟩
  · exact (hka.mono (fun _ _ h => h.elim)).trans hk1 (fun b _ hv => hv)
theorem locks_c (T : Tab) (w : World) (ht : TabAt w T) (hs : Small T.abs) (R : Ending → World → Prop)
    (h : ∀ v w', RowL w' v (locksF T.abs) → (∀ g, rowB v = some g → w.heap.size ≤ g) → Keep0 w w' → R (.returned v) w') :
    Calls Tryz.prog 16 #[ptr T.bt] w R := by
  apply F16_calls
  have hmax2 : maxLen ≤ 9223372036854775807 := by decide
  simp only [F16_s1, F16_s1_t, ↓uL.1, tL.1, cellIn_cells, frzIn_00, setIn_cells, cellsIn_cells, List.getElem?_toArray, List.getElem?_cons_zero, List.getElem?_cons_succ, Option.isSome_some, Option.getD_some, Nat.zero_add, Nat.add_zero, List.setIfInBounds_toArray, List.set_cons_zero, List.set_cons_succ, put_same, add_new, add_old, oneV, Value.cells, List.size_toArray, List.length_cons, List.length_nil, List.extract_toArray, List.extract_eq_take_drop, Nat.reduceAdd, Nat.reduceSub, Nat.reduceLeDiff, if_true, List.drop_zero, List.take_succ_cons, List.take_zero, List.drop_succ_cons, drew_heap, ht.cell]
  have hkeys : (T.things.map fun p => (p.1, ptr p.2.bx)).map (·.1) = T.abs.things.map (·.1) := by simp [Tab.abs, absT, List.map_map, Function.comp_def]
  have hlenT : T.abs.things.length = T.things.length := by simp [Tab.abs, absT]
  refine un_sortedS (l := T.things.map fun p => (p.1, ptr p.2.bx)) ht.mapT (by rw [hkeys]; exact hs.nd) (fun p hp => ?_) (by rw [List.length_map]; have := hs.n; omega) fun vk w1 hrk hfk hk1 => ?_
  · obtain ⟨q, hq, rfl⟩ := List.mem_map.1 hp
    exact hs.ks (q.1, q.2.hv, q.2.q) (List.mem_map.2 ⟨q, hq, rfl⟩)
  rw [hkeys] at hrk
  unfold locksF at h
  have hksome : ∀ r ∈ sortS (T.abs.things.map (·.1)), ∃ x, pget T.abs.things r = some x := fun r hr => key_some hr
  have hksl : (sortS (T.abs.things.map (·.1))).length ≤ 1048576 := by
    rw [(sortS_perm _).length_eq, List.length_map]; exact hs.n
  generalize sortS (T.abs.things.map (·.1)) = ks at *
  have ht1 := ht.keep0 hk1
  simp only [un_lenR und68 hrk, F16_s4]
  refine ⟨fun v2 v15 w' => ∃ i : Nat, v15 = .int .i64 i ∧ i ≤ ks.length ∧ RowL w' v2 ((ks.take i).flatMap (locksAt T.abs)) ∧ (∀ g, rowB v2 = some g → w1.heap.size ≤ g) ∧ Keep (fun b => w1.heap.size ≤ b) w1 w',
    fun _ v15 _ => match v15 with | .int _ i => ks.length - i.toNat | _ => 0, ⟨0, rfl, by omega, Row.nil, by simp [rowB], Keep.refl _ w1⟩, ?_⟩
  rintro v2 v15 w2 ⟨i, rfl, hi, hr2, hf2, hk2⟩
  simp only [F16_s5, F16_s5_t, ↓uL.1, F16_s6]
  by_cases hlt : i < ks.length
  · have e1 : decide ((i : Int) < (ks.length : Int)) = true := by rw [decide_eq_true_eq]; omega
    obtain ⟨r, hr⟩ : ∃ r, ks[i]? = some r := ⟨ks[i], List.getElem?_eq_getElem hlt⟩
    have htk : ks.take (i + 1) = ks.take i ++ [r] := by rw [List.take_add_one, hr]; rfl
    obtain ⟨xx, hxx⟩ := hksome r (List.mem_of_getElem? hr)
    have hgi : pget T.abs.things r = (fndT T.things r).map fun x => (x.hv, x.q) := absT_get T.things r
    obtain ⟨x, hx⟩ : ∃ x, fndT T.things r = some x := by
      rw [hgi] at hxx
      obtain ⟨x, hx, _⟩ := Option.map_eq_some_iff.1 hxx
      exact ⟨x, hx⟩
    rw [hx, Option.map_some] at hgi
    have hlat : locksAt T.abs r = (sortI (x.hv.map (·.1))).map fun t => ⟨t, r, modeOf x.hv t⟩ := by simp [locksAt, hgi]
    have ht2 := ht1.keep0 (keep_fresh hk2)
    have hrk2 := hrk.keep (keep_fresh hk2) (fun _ _ => id)
    obtain ⟨g, o, hg, hixx, hcl⟩ := hrk2.elem (P := Tryz.prog) (q := .i64) (i := i) hlt und68 siz9'
    rw [strs_at hr] at hcl
    have hcl1 : cellIn (w2.heap[g]?) o = some (.string r) := by
      have := cellIn_of_cells (j := 0) hcl (by omega)
      simpa using this
    have hX := ht2.ths _ (pget_mem hx)
    simp only [e1, ↓uL.1, F16_s9, F16_s9_t, uv_eq (hixx _), uv_load1 (by kernel_rfl : plainT Tryz.prog 9 = true) (by rw [hcl1]; rfl), hcl1, Option.getD_some]
    simp only [↓uL.1, tL.1, cellIn_cells, frzIn_00, setIn_cells, cellsIn_cells, List.getElem?_toArray, List.getElem?_cons_zero, List.getElem?_cons_succ, Option.isSome_some, Option.getD_some, Nat.zero_add, Nat.add_zero, List.setIfInBounds_toArray, List.set_cons_zero, List.set_cons_succ, put_same, add_new, add_old, oneV, Value.cells, List.size_toArray, List.length_cons, List.length_nil, List.extract_toArray, List.extract_eq_take_drop, Nat.reduceAdd, Nat.reduceSub, Nat.reduceLeDiff, if_true, List.drop_zero, List.take_succ_cons, List.take_zero, List.drop_succ_cons, drew_heap, ht2.cell, uv_lookS ht2.mapT und50 zer56, aget_things, hx, Option.map_some, hX.cell]
    have hm : (r, x.hv, x.q) ∈ T.abs.things := pget_mem hgi
    have hkh : (hvV x.hv).map (·.1) = x.hv.map (·.1) := by simp [hvV, List.map_map, Function.comp_def]
    refine un_sortedI (l := hvV x.hv) hX.map (by rw [hkh]; exact hs.hvnd _ hm) (fun p hp => ?_) (by have := hs.hvn _ hm; simp only [hvV, List.length_map]; simp only [] at this; omega) fun vt w3 hrt hft hk3 => ?_
    · obtain ⟨e, he, rfl⟩ := List.mem_map.1 hp
      exact hs.hvin _ hm e he
    rw [hkh] at hrt
    have hns : (sortI (x.hv.map (·.1))).length ≤ 1048576 := by
      rw [(sortI_perm _).length_eq, List.length_map]; exact hs.hvn _ hm
    generalize sortI (x.hv.map (·.1)) = ts at *
    have hs1 := hk1.size
    have hs2 := hk2.size
    have hs3 := hk3.size
    have hk13 : Keep (fun b => w1.heap.size ≤ b) w1 w3 := hk2.trans hk3 (fun _ _ h => h.elim)
    have hr3 := hr2.keep hk3 (fun _ _ => id)
    have hle1 : ((ks.take i).flatMap (locksAt T.abs)).length ≤ 1048576 * 1048576 := by
      refine Nat.le_trans (flat_len hs _) (Nat.mul_le_mul_right _ ?_)
      rw [List.length_take]; omega
    simp only [un_lenR und55' hrt, F16_s11]
    refine ⟨fun v2 v32 w' => ∃ j : Nat, v32 = .int .i64 j ∧ j ≤ ts.length ∧ RowL w' v2 ((ks.take i).flatMap (locksAt T.abs) ++ (ts.take j).map fun t => ⟨t, r, modeOf x.hv t⟩) ∧ (∀ g, rowB v2 = some g → w1.heap.size ≤ g) ∧ Keep (fun b => w1.heap.size ≤ b) w1 w' ∧ RowI w' vt ts ∧ (∀ g, rowB vt = some g → rowB v2 ≠ some g),
      fun _ v32 _ => match v32 with | .int _ i => ts.length - i.toNat | _ => 0, ⟨0, rfl, by omega, by simpa [RowL] using hr3, hf2, hk13, hrt, fun g hg e => ?_⟩, ?_⟩
    · have h1 := hft g hg
      have h2 := hr2.lt e
      omega
    rintro v2' v32 w4 ⟨j, rfl, hj, hr4, hf4, hk4, hrt4, hne4⟩
    simp only [F16_s12, F16_s12_t, ↓uL.1, F16_s13]
    by_cases hlj : j < ts.length
    · have e2 : decide ((j : Int) < (ts.length : Int)) = true := by rw [decide_eq_true_eq]; omega
      obtain ⟨t, htj⟩ : ∃ t, ts[j]? = some t := ⟨ts[j], List.getElem?_eq_getElem hlj⟩
      obtain ⟨g', o', hg', hixx', hcl'⟩ := hrt4.elem (P := Tryz.prog) (q := .i64) (i := j) hlj und55' siz3'
      rw [ints_at htj] at hcl'
      have hcl1' : cellIn (w4.heap[g']?) o' = some (.int .i64 t) := by
        have := cellIn_of_cells (j := 0) hcl' (by omega)
        simpa using this
      have ht4 := ht1.keep0 (keep_fresh hk4)
      have hX4 := ht4.ths _ (pget_mem hx)
      simp only [e2, ↓uL.1, F16_s16, F16_s16_t, uv_eq (hixx' _), uv_load1 (by kernel_rfl : plainT Tryz.prog 3 = true) (by rw [hcl1']; rfl), hcl1', Option.getD_some]
      simp only [↓uL.1, tL.1, cellIn_cells, frzIn_00, setIn_cells, cellsIn_cells, List.getElem?_toArray, List.getElem?_cons_zero, List.getElem?_cons_succ, Option.isSome_some, Option.getD_some, Nat.zero_add, Nat.add_zero, List.setIfInBounds_toArray, List.set_cons_zero, List.set_cons_succ, put_same, add_new, add_old, oneV, Value.cells, List.size_toArray, List.length_cons, List.length_nil, List.extract_toArray, List.extract_eq_take_drop, Nat.reduceAdd, Nat.reduceSub, Nat.reduceLeDiff, if_true, List.drop_zero, List.take_succ_cons, List.take_zero, List.drop_succ_cons, drew_heap, hX4.cell, uv_lookI hX4.map und35 zer3, aget_hv, uv_eq (bldL _ _ _ _)]
      have hs4 := hk4.size
      have hs4b := hrt4.bound
      refine un_appL2 (x := ⟨t, r, modeOf x.hv t⟩) hr4 (by simp only [List.length_append, List.length_map, List.length_take]; omega) fun v' w5 h5 hf5 hk5 => ?_
      have e3 : IntKind.i64.wrap ((j : Int) + 1) = ((j + 1 : Nat) : Int) := by rw [wrap_id (by omega) (by omega)]; omega
      simp only [F16_s15, F16_s15_t, ↓uL.1, e3]
      have htj' : (ts.take (j + 1)).map (fun t => (⟨t, r, modeOf x.hv t⟩ : Lk)) = (ts.take j).map (fun t => (⟨t, r, modeOf x.hv t⟩ : Lk)) ++ [⟨t, r, modeOf x.hv t⟩] := by
        rw [List.take_add_one, htj]; simp
      refine ⟨⟨j + 1, rfl, by omega, by rw [htj', ← List.append_assoc]; exact h5, ?_, hk4.trans hk5 (fun b _ hb => hf4 b hb), hrt4.keep hk5 (fun g hg hb => hne4 g hg hb), ?_⟩, by simp; omega⟩
      · intro g hg
        rcases hf5 with e | ⟨g', e, hg'⟩
        · rw [e] at hg; exact hf4 g hg
        · rw [e] at hg; cases hg; omega
      · intro g hg e
        rcases hf5 with e' | ⟨g', e', hg'⟩
        · rw [e'] at e; exact hne4 g hg e
        · rw [e'] at e; cases e
          have := hrt4.lt hg
          omega
    · have e2 : decide ((j : Int) < (ts.length : Int)) = false := by rw [decide_eq_false_iff_not]; omega
      have hkb := hrk.bound
      have e3 : IntKind.i64.wrap ((i : Int) + 1) = ((i + 1 : Nat) : Int) := by rw [wrap_id (by omega) (by omega)]; omega
      simp only [e2, ↓uL.1, F16_s8, F16_s8_t, e3]
      have hst : ts.take j = ts := List.take_of_length_le (by omega)
      rw [hst, ← hlat] at hr4
      have hfl : (ks.take (i + 1)).flatMap (locksAt T.abs) = (ks.take i).flatMap (locksAt T.abs) ++ locksAt T.abs r := by rw [htk, List.flatMap_append]; simp
      exact ⟨⟨i + 1, rfl, by omega, by rw [hfl]; exact hr4, hf4, hk4⟩, by simp; omega⟩
  · have e1 : decide ((i : Int) < (ks.length : Int)) = false := by rw [decide_eq_false_iff_not]; omega
    simp only [e1, ↓uL.1, F16_s3, F16_s3_t]
    rw [List.take_of_length_le (by omega)] at hr2
    have hs1 := hk1.size
    exact h v2 w2 hr2 (fun g hg => Nat.le_trans hs1 (hf2 g hg)) (hk1.trans (keep_fresh hk2) (fun _ _ h => h))
end Go.Proofs.YtpghlemcgjogpaaGreat
