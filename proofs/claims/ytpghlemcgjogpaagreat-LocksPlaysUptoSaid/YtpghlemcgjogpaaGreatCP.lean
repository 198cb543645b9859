/- Edges: the loop over those that wait. -/
import Derived.Test.YtpghlemcgjogpaaGreatCO
set_option linter.unusedVariables false
set_option linter.unusedSimpArgs false
set_option linter.unnecessarySimpa false
set_option maxRecDepth 100000
namespace Go.Proofs.YtpghlemcgjogpaaGreat
open Go.Sx

theorem edAt_len (x : List (Int × Int) × List Wi) (t : Int) : (edAt x t).length ≤ x.1.length + x.2.length := by
  unfold edAt
  cases h : x.2.findIdx? fun y => y.txn == t with
  | none => simp
  | some i =>
    simp only [List.length_append, edHv, edQ, List.length_map, List.length_take]
    have := List.length_filter_le (fun e : Int × Int => e.1 != t && !tg e.2 ((x.2[i]?.map (·.mode)).getD 0)) x.1
    omega
theorem edgesL_c (T : Tab) (w : World) (ht : TabAt w T) (hs : Small T.abs) (hw : Waits T.abs) (hwn : T.waits.length ≤ 1048576) (R : Ending → World → Prop)
    (h : ∀ v w' l, RowE w' v l → l.Perm (T.abs.waits.flatMap (edgesOf T.abs)) → l.length ≤ 2199023255552 → (∀ g, rowB v = some g → w.heap.size ≤ g) → Keep0 w w' → F12_s3 R v w') :
    Calls Tryz.prog 12 #[ptr T.bt] w R := by
  apply F12_calls
  simp only [F12_s1, F12_s1_t, ↓uL.1, tL.1, cellIn_cells, frzIn_00, setIn_cells, cellsIn_cells, List.getElem?_toArray, List.getElem?_cons_zero, List.getElem?_cons_succ, Option.isSome_some, Option.getD_some, Nat.zero_add, Nat.add_zero, List.setIfInBounds_toArray, List.set_cons_zero, List.set_cons_succ, put_same, add_new, add_old, oneV, Value.cells, List.size_toArray, List.length_cons, List.length_nil, List.extract_toArray, List.extract_eq_take_drop, Nat.reduceAdd, Nat.reduceSub, Nat.reduceLeDiff, if_true, List.drop_zero, List.take_succ_cons, List.take_zero, List.drop_succ_cons, drew_heap, ht.cell]
  obtain ⟨o, hr, hit⟩ := run_rangeK (keyI undI) und51 ht.mapW
  simp only [uv_eq hr]
  have hk1 : Keep (fun b => w.heap.size ≤ b) w (World.add w o) := (Keep.refl _ w).add
  have hs1 : (World.add w o).heap.size = w.heap.size + 1 := hadd_size
  generalize World.add w o = w1 at *
  have hbW := ht.lt (b := T.bW) (.inr (.inr (.inl rfl)))
  simp only [F12_s4]
  refine ⟨fun v2 w' => ∃ (todo : List (Int × Nat × ByteArray)) (l : List Ed), IterK (keyI undI) w' w.heap.size T.bW (todo.map fun p => (p.1, ptr p.2.1)) ∧ RowE w' v2 l ∧ (l ++ (absW todo).flatMap (edgesOf T.abs)).Perm (T.abs.waits.flatMap (edgesOf T.abs)) ∧ (∀ g, rowB v2 = some g → w.heap.size ≤ g) ∧ Keep (fun b => w.heap.size ≤ b) w w' ∧ (∀ p ∈ todo, p ∈ T.waits) ∧ l.length + todo.length * 2097152 ≤ T.waits.length * 2097152 ∧ w.heap.size < w'.heap.size,
    fun _ w' => leftK w' w.heap.size T.bW, ⟨T.waits, [], hit, Row.nil, List.Perm.refl _, by simp [rowB], hk1, fun _ h => h, by simp, by omega⟩, ?_⟩
  rintro v2 w2 ⟨todo, l, hit2, hr2, hp2, hf2, hk2, hsub, hlen, hsz2⟩
  have hl2 := hit2.left
  simp only [List.length_map] at hl2
  simp only [F12_s5, F12_s5_t]
  by_cases hnil : todo = []
  · subst hnil
    simp only [uv_eq (run_next_over _ hit2), ↓uL.1, tL.1, cellIn_cells, frzIn_00, setIn_cells, cellsIn_cells, List.getElem?_toArray, List.getElem?_cons_zero, List.getElem?_cons_succ, Option.isSome_some, Option.getD_some, Nat.zero_add, Nat.add_zero, List.setIfInBounds_toArray, List.set_cons_zero, List.set_cons_succ, put_same, add_new, add_old, oneV, Value.cells, List.size_toArray, List.length_cons, List.length_nil, List.extract_toArray, List.extract_eq_take_drop, Nat.reduceAdd, Nat.reduceSub, Nat.reduceLeDiff, if_true, List.drop_zero, List.take_succ_cons, List.take_zero, List.drop_succ_cons, drew_heap, F12_s6]
    refine h v2 w2 l hr2 (by simpa [absW] using hp2) ?_ hf2 (keep_fresh hk2)
    have : T.waits.length * 2097152 ≤ 1048576 * 2097152 := Nat.mul_le_mul_right _ hwn
    omega
  · obtain ⟨j, pv, o2, wd, hj, hwd, hrun, hit3, hcur⟩ := run_next_some (keyI undI) (ty := 0) (by simp [hnil]) (show w.heap.size ≠ T.bW by omega) hit2
    obtain ⟨p, hp, rfl⟩ : ∃ p : Int × Nat × ByteArray, todo[j]? = some p ∧ pv = (p.1, ptr p.2.1) := by
      simp only [List.getElem?_map, Option.map_eq_some_iff] at hj
      obtain ⟨p, h1, h2⟩ := hj
      exact ⟨p, h1, h2.symm⟩
    have hpW := hsub p (List.mem_of_getElem? hp)
    simp only [uv_eq hrun, ↓uL.1, tL.1, cellIn_cells, frzIn_00, setIn_cells, cellsIn_cells, List.getElem?_toArray, List.getElem?_cons_zero, List.getElem?_cons_succ, Option.isSome_some, Option.getD_some, Nat.zero_add, Nat.add_zero, List.setIfInBounds_toArray, List.set_cons_zero, List.set_cons_succ, put_same, add_new, add_old, oneV, Value.cells, List.size_toArray, List.length_cons, List.length_nil, List.extract_toArray, List.extract_eq_take_drop, Nat.reduceAdd, Nat.reduceSub, Nat.reduceLeDiff, if_true, List.drop_zero, List.take_succ_cons, List.take_zero, List.drop_succ_cons, drew_heap, F12_s6, F12_s8, F12_s8_t, uv_eq (run_entryK _ hcur), keyI_vk]
    have hkd : Keep (fun b => w.heap.size ≤ b) w wd := by rcases hwd with rfl | rfl; exact hk2; exact hk2.drew
    have hhd : wd.heap = w2.heap := by rcases hwd with rfl | rfl <;> rfl
    have hk3 : Keep (fun b => w.heap.size ≤ b) w (World.put wd w.heap.size o2) := hkd.put (fun _ => Nat.le_refl _)
    have hr3 : RowE (World.put wd w.heap.size o2) v2 l := hr2.congr fun g hg => by
      rw [put_ne (fun e => row_not_iter hr2 hit2 (by rw [e]; exact hg)), hhd]
    have hs3 : w.heap.size < (World.put wd w.heap.size o2).heap.size := by rw [hput_size, hhd]; exact hsz2
    generalize World.put wd w.heap.size o2 = w3 at *
    have hit4 : IterK (keyI undI) w3 w.heap.size T.bW ((todo.eraseIdx j).map fun p => (p.1, ptr p.2.1)) := by simpa only [map_eraseIdx'] using hit3
    have hjl : j < todo.length := (List.getElem?_eq_some_iff.1 hp).1
    have hel : (todo.eraseIdx j).length = todo.length - 1 := by rw [List.length_eraseIdx, if_pos hjl]
    -- the box
    rw [uv_allocS (vs := [.int .i64 p.1]) zer3 siz3' rfl rfl (by simp [oneV])]
    have hka : Keep0 w3 (World.add w3 (.cells [.int .i64 p.1].toArray 3)) := (Keep.refl _ w3).add
    have hc4 : (World.add w3 (.cells [.int .i64 p.1].toArray 3)).heap[w3.heap.size]? = some (.cells #[.int .i64 p.1] 3 (0, 0)) := add_new
    have hs4 : (World.add w3 (.cells [.int .i64 p.1].toArray 3)).heap.size = w3.heap.size + 1 := hadd_size
    generalize World.add w3 (.cells [.int .i64 p.1].toArray 3) = w4 at *
    have hk4 : Keep (fun b => w.heap.size ≤ b) w w4 := hk3.trans hka (fun _ _ h => h.elim)
    have ht4 := ht.keep0 (keep_fresh hk4)
    have hsp := ht4.spots p hpW
    obtain ⟨x, i, hgx, hix⟩ : ∃ x i, fndT T.things p.2.2 = some x ∧ (x.q.findIdx? fun y => y.txn == p.1) = some i := by
      obtain ⟨xx, hxx, i, hi⟩ := hw (p.1, p.2.2) (List.mem_map.2 ⟨p, hpW, rfl⟩)
      have e : pget T.abs.things p.2.2 = (fndT T.things p.2.2).map fun x => (x.hv, x.q) := absT_get T.things p.2.2
      simp only [] at hxx
      rw [e] at hxx
      obtain ⟨x, hx, rfl⟩ := Option.map_eq_some_iff.1 hxx
      exact ⟨x, i, hx, hi⟩
    have hagx : pget T.abs.things p.2.2 = some (x.hv, x.q) := by
      have e : pget T.abs.things p.2.2 = (fndT T.things p.2.2).map fun x => (x.hv, x.q) := absT_get T.things p.2.2
      rw [e, hgx]; rfl
    have hma : (p.2.2, x.hv, x.q) ∈ T.abs.things := pget_mem hagx
    have hqn : x.q.length ≤ 1048576 := hs.q _ hma
    have hhn : x.hv.length ≤ 1048576 := hs.hvn _ hma
    have hil := (List.findIdx?_eq_some_iff_getElem.1 hix).1
    obtain ⟨y, hy⟩ : ∃ y, x.q[i]? = some y := ⟨x.q[i], List.getElem?_eq_getElem hil⟩
    refine ⟨fun w' => w'.heap[T.bt]? = some (.cells #[.map (some T.bT), .map (some T.bW)] 51 (0, 0)) ∧ w'.heap[p.2.1]? = some (.cells #[.string p.2.2] 66 (0, 0)) ∧ MapS undS (w'.heap[T.bT]?) (T.things.map fun p : ByteArray × Th => (p.1, ptr p.2.bx)), ⟨ht4.cell, hsp, ht4.mapT⟩, ?_⟩
    refine HN_nil (HV_field (off := 0) (by kernel_rfl) (HV_load1 (v := .map (some T.bT)) (by kernel_rfl) (fun w hw => by rw [hw.1]; rfl) ?_))
    refine HN_nil (HV_field (off := 0) (by kernel_rfl) (HV_load1 (v := .string p.2.2) (by kernel_rfl) (fun w hw => by rw [hw.2.1]; rfl) ?_))
    refine HV_of (v := (aget (T.things.map fun p : ByteArray × Th => (p.1, ptr p.2.bx)) p.2.2).getD (.pointer none)) (fun w' hw => run_lookupK (keyS undS) (k := p.2.2) und50 zer56 hw.2.2 false) ?_
    rw [aget_things, hgx]
    have ht5 : TabAt w4.drew T := ht4.keep0 (Keep.refl _ w4).drew
    have hk5 : Keep (fun b => w.heap.size ≤ b) w w4.drew := hk4.drew
    have hX : ThAt w4.drew x := ht5.ths _ (pget_mem hgx)
    have hc5 : w4.drew.heap[w3.heap.size]? = some (.cells #[.int .i64 p.1] 3 (0, 0)) := hc4
    have hr5 : RowE w4.drew v2 l := hr3.keep hka.drew (fun _ _ => id)
    have hit5 : IterK (keyI undI) w4.drew w.heap.size T.bW ((todo.eraseIdx j).map fun p => (p.1, ptr p.2.1)) := IterK.keep (keyI undI) hit4 (hka.keep _ (by omega) id) (hka.keep _ hs3 id)
    have hs5 : w4.drew.heap.size = w3.heap.size + 1 := hs4
    generalize w4.drew = w5 at *
    simp only [Option.map_some, Option.getD_some, ↓uL.1, tL.1, cellIn_cells, frzIn_00, setIn_cells, cellsIn_cells, List.getElem?_toArray, List.getElem?_cons_zero, List.getElem?_cons_succ, Option.isSome_some, Option.getD_some, Nat.zero_add, Nat.add_zero, List.setIfInBounds_toArray, List.set_cons_zero, List.set_cons_succ, put_same, add_new, add_old, oneV, Value.cells, List.size_toArray, List.length_cons, List.length_nil, List.extract_toArray, List.extract_eq_take_drop, Nat.reduceAdd, Nat.reduceSub, Nat.reduceLeDiff, if_true, List.drop_zero, List.take_succ_cons, List.take_zero, List.drop_succ_cons, drew_heap, hX.cell, uv_func]
    refine un_enter (enters Tryz.func20 (by kernel_rfl) (by kernel_rfl) _ _) (indexFunc_c _ x.qv (fun y => y.txn == p.1) x.q w5 hX.row (testsE _ _ w3.heap.size p.1 hc5 id) _ fun w6 hk6 => ?_)
    have ht6 := ht5.keep0 hk6
    have hX6 : ThAt w6 x := ht6.ths _ (pget_mem hgx)
    have hc6 := hk6.at hc5 id
    have hs6 := hk6.size
    have hk06 : Keep (fun b => w.heap.size ≤ b) w w6 := hk5.trans hk6 (fun _ _ h => h.elim)
    have hr6 : RowE w6 v2 l := hr5.keep hk6 (fun _ _ => id)
    have hit6 : IterK (keyI undI) w6 w.heap.size T.bW ((todo.eraseIdx j).map fun p => (p.1, ptr p.2.1)) := IterK.keep (keyI undI) hit5 (hk6.keep _ (by omega) id) (hk6.keep _ (by omega) id)
    have hidx : idx (fun y => y.txn == p.1) x.q = (i : Int) := by simp [idx, hix]
    rw [hidx]
    obtain ⟨o7, hr7, hit7⟩ := run_rangeK (keyI undI) und35 hX6.map
    simp only [↓uL.1, tL.1, cellIn_cells, frzIn_00, setIn_cells, cellsIn_cells, List.getElem?_toArray, List.getElem?_cons_zero, List.getElem?_cons_succ, Option.isSome_some, Option.getD_some, Nat.zero_add, Nat.add_zero, List.setIfInBounds_toArray, List.set_cons_zero, List.set_cons_succ, put_same, add_new, add_old, oneV, Value.cells, List.size_toArray, List.length_cons, List.length_nil, List.extract_toArray, List.extract_eq_take_drop, Nat.reduceAdd, Nat.reduceSub, Nat.reduceLeDiff, if_true, List.drop_zero, List.take_succ_cons, List.take_zero, List.drop_succ_cons, drew_heap, hX6.cell, uv_eq hr7]
    have hkb : Keep0 w6 (World.add w6 o7) := (Keep.refl _ w6).add
    have hs7 : (World.add w6 o7).heap.size = w6.heap.size + 1 := hadd_size
    generalize World.add w6 o7 = w7 at *
    have hk07 : Keep (fun b => w.heap.size ≤ b) w w7 := hk06.trans hkb (fun _ _ h => h.elim)
    have hr7' : RowE w7 v2 l := hr6.keep hkb (fun _ _ => id)
    have hit8 : IterK (keyI undI) w7 w.heap.size T.bW ((todo.eraseIdx j).map fun p => (p.1, ptr p.2.1)) := IterK.keep (keyI undI) hit6 (hkb.keep _ (by omega) id) (hkb.keep _ (by omega) id)
    have htl : T.waits.length * 2097152 ≤ 1048576 * 2097152 := Nat.mul_le_mul_right _ hwn
    refine edgesH_c T p.2.2 x p.1 i y w w7 ht hgx hy hix hqn hhn hk07 w3.heap.size w6.heap.size (by omega) (by omega) (by omega) (hkb.at hc6 id) hit7 v2 _ l hr7' hf2 (by omega) R _ fun v' w8 l' h8 hp8 hf8 hk8 => ?_
    have hit9 : IterK (keyI undI) w8 w.heap.size T.bW ((todo.eraseIdx j).map fun p => (p.1, ptr p.2.1)) := IterK.keep (keyI undI) hit8 (hk8.keep _ (by omega) (fun hb => by
      rcases hb with hb | hb | hb
      · have := hf2 _ hb; omega
      · omega
      · omega)) (hk8.keep _ (by omega) (fun hb => by
      rcases hb with hb | hb | hb
      · exact row_not_iter hr7' hit8 hb
      · omega
      · omega))
    have hl9 := hit9.left
    simp only [List.length_map, hel] at hl9
    have hs8 := hk8.size
    have hpe := (perm_erase hp).map fun p : Int × Nat × ByteArray => (p.1, p.2.2)
    have hed : edgesOf T.abs (p.1, p.2.2) = edAt (x.hv, x.q) p.1 := by simp [edgesOf, hagx]
    have hfl : ((absW todo).flatMap (edgesOf T.abs)).Perm (edAt (x.hv, x.q) p.1 ++ (absW (todo.eraseIdx j)).flatMap (edgesOf T.abs)) := by
      refine (hpe.flatMap_right (edgesOf T.abs)).trans (List.Perm.of_eq ?_)
      rw [List.map_cons, List.flatMap_cons, hed]; rfl
    refine ⟨⟨todo.eraseIdx j, l', hit9, h8, ?_, hf8, hk07.trans hk8 (fun b _ hb => ?_), fun q hq => hsub q ((List.eraseIdx_sublist ..).subset hq), ?_, by omega⟩, by omega⟩
    · refine (hp8.append_right _).trans ?_
      rw [List.append_assoc]
      exact (hfl.symm.append_left l).trans hp2
    · rcases hb with hb | hb | hb
      · exact hf2 b hb
      · omega
      · omega
    · have h1 := hp8.length_eq
      have h2 := edAt_len (x.hv, x.q) p.1
      rw [List.length_append] at h1
      simp only [] at h2
      have : todo.length * 2097152 = (todo.length - 1) * 2097152 + 2097152 := by
        have : todo.length = (todo.length - 1) + 1 := by omega
        conv => lhs; rw [this, Nat.add_mul, Nat.one_mul]
      rw [hel]; omega
end Go.Proofs.YtpghlemcgjogpaaGreat
