/- Drop, the whole. -/
import Derived.Test.YtpghlemcgjogpaaGreatCH
set_option linter.unusedVariables false
set_option linter.unusedSimpArgs false
set_option linter.unnecessarySimpa false
set_option maxRecDepth 100000
namespace Go.Proofs.YtpghlemcgjogpaaGreat
open Go.Sx

theorem und68 : Tryz.prog.underlying 71 = some (.slice 9) := by kernel_rfl
theorem siz9' : (Tryz.prog.info? 9).map (·.size) = some 1 := by kernel_rfl
theorem bytes_eq (a b : ByteArray) : (a.toList == b.toList) = decide (a = b) := by
  rw [ByteArray.toList_eq, ByteArray.toList_eq, Bool.eq_iff_iff, decide_eq_true_eq, beq_iff_eq]
  constructor
  · intro h
    cases a; cases b
    simp only [ByteArray.mk.injEq]
    exact Array.toList_inj.1 h
  · rintro rfl; rfl
theorem bytes_ne (a b : ByteArray) : (a.toList != b.toList) = !decide (a = b) := by rw [bne, bytes_eq]
theorem strs_at {l : List ByteArray} {i : Nat} {s : ByteArray} (h : l[i]? = some s) : ((strs l).drop (i * 1)).take 1 = [.string s] := by
  have hlt := (List.getElem?_eq_some_iff.1 h).1
  have hv := (List.getElem?_eq_some_iff.1 h).2
  rw [Nat.mul_one, strs, ← List.map_drop, List.drop_eq_getElem_cons hlt, hv]
  rfl
theorem dropF_isSome {A : Abs} {outs : List Int} {t : Int} {at' : Option ByteArray} {r r' : ByteArray} (h : r ≠ r') : (pget (dropAt t at' (outs, A) r).2.things r').isSome = (pget A.things r').isSome := by
  unfold dropAt
  split
  · rfl
  · simp only []
    split
    · rfl
    · simp only []
      split
      · rw [pget_pdel_ne h, pget_pset_ne h]
      · rw [pget_pset_ne h]
theorem drop_c (T : Tab) (t : Int) (w : World) (ht : TabAt w T) (hs : Small T.abs) (R : Ending → World → Prop)
    (h : ∀ v w' T', TabAt w' T' → T'.bt = T.bt → T'.abs = (dropF T.abs t).2 → (∀ b, T'.foot b → T.foot b) → Keep T.foot w w' → RowI w' v (dropF T.abs t).1 → (∀ g, rowB v = some g → w.heap.size ≤ g) → R (.returned v) w') :
    Calls Tryz.prog 9 #[ptr T.bt, .int .i64 t] w R := by
  apply F9_calls
  have hmx : 4398046511104 ≤ maxLen := by decide
  have hmax2 : maxLen ≤ 9223372036854775807 := by decide
  simp only [F9_s1, F9_s1_t, ↓uL.1, Value.cells]
  have hka : Keep0 w (World.add w (.cells #[.int .i64 t] 3)) := (Keep.refl _ w).add
  have hc1 : (World.add w (.cells #[.int .i64 t] 3)).heap[w.heap.size]? = some (.cells #[.int .i64 t] 3 (0, 0)) := add_new
  have hcf : ¬ T.foot w.heap.size := fun hb => by have := ht.lt hb; omega
  have hsz1 : (World.add w (.cells #[.int .i64 t] 3)).heap.size = w.heap.size + 1 := hadd_size
  generalize World.add w (.cells #[.int .i64 t] 3) = w1 at *
  have ht1 := ht.keep0 hka
  -- for what it waits
  refine ⟨fun w' => w'.heap[T.bt]? = some (.cells #[.map (some T.bT), .map (some T.bW)] 51 (0, 0)) ∧ w'.heap[w.heap.size]? = some (.cells #[.int .i64 t] 3 (0, 0)) ∧ MapI undI (w'.heap[T.bW]?) (T.waits.map fun p : Int × Nat × ByteArray => (p.1, ptr p.2.1)), ⟨ht1.cell, hc1, ht1.mapW⟩, ?_⟩
  refine HN_nil (HV_field (off := 1) (by kernel_rfl) (HV_load1 (v := .map (some T.bW)) (by kernel_rfl) (fun w hw => by rw [hw.1]; rfl) (HV_load1 (v := .int .i64 t) (by kernel_rfl) (fun w hw => by rw [hw.2.1]; rfl) ?_)))
  refine HV_of (v := (aget (T.waits.map fun p : Int × Nat × ByteArray => (p.1, ptr p.2.1)) t).getD (.pointer none)) (fun w' hw => run_lookupK (keyI undI) (k := t) und51 zer55 hw.2.2 false) ?_
  rw [aget_waits]
  -- it does not wait any more
  have ht1d : TabAt w1.drew T := ht1.keep0 (Keep.refl _ w1).drew
  have hc1d : w1.drew.heap[w.heap.size]? = some (.cells #[.int .i64 t] 3 (0, 0)) := hc1
  refine ⟨fun w' => w'.heap[T.bt]? = some (.cells #[.map (some T.bT), .map (some T.bW)] 51 (0, 0)) ∧ w'.heap[w.heap.size]? = some (.cells #[.int .i64 t] 3 (0, 0)), ⟨ht1d.cell, hc1d⟩, ?_⟩
  refine HN_nil (HV_field (off := 1) (by kernel_rfl) (HV_load1 (v := .map (some T.bW)) (by kernel_rfl) (fun w hw => by rw [hw.1]; rfl) (HV_load1 (v := .int .i64 t) (by kernel_rfl) (fun w hw => by rw [hw.2]; rfl) ?_)))
  have ht1e : TabAt w1.drew.drew T := ht1d.keep0 (Keep.refl _ w1.drew).drew
  refine un_delI ht1e.mapW und51 fun ow how => ?_
  have hA2 := After.delW ht1e how
  have ht2 := hA2.at'
  have hbWf : T.foot T.bW := .inr (.inr (.inl rfl))
  have hk02 : Keep T.foot w (World.put w1.drew.drew T.bW ow) := ((hka.mono fun _ _ h => h.elim).drew.drew).put (fun _ => hbWf)
  have hsz2 : (World.put w1.drew.drew T.bW ow).heap.size = w.heap.size + 1 := by rw [hput_size]; exact hsz1
  have hc2 : (World.put w1.drew.drew T.bW ow).heap[w.heap.size]? = some (.cells #[.int .i64 t] 3 (0, 0)) := by
    rw [put_ne (fun e => hcf (by rw [← e]; exact hbWf))]; exact hc1
  have hspot : ∀ s, fndW T.waits t = some s → (World.put w1.drew.drew T.bW ow).heap[s.1]? = some (.cells #[.string s.2] 66 (0, 0)) := fun s hs' => by
    have hm := pget_mem hs'
    have := ht1.spots _ hm
    have hw : w1.drew.drew.heap = w1.heap := rfl
    rw [put_ne (fun e => ?_), hw]
    · exact this
    · obtain ⟨es, cl, he, _⟩ := ht1.mapW
      simp only [] at this
      rw [← e, he] at this; cases this
  have habs2 : ({ T with waits := pdel T.waits t } : Tab).abs = { T.abs with waits := pdel T.abs.waits t } := hA2.abs
  have hfoot2 : ∀ b, ({ T with waits := pdel T.waits t } : Tab).foot b → T.foot b := fun b hb => by
    rcases hb with hb | hb | hb | hb | ⟨p, hp, rfl⟩
    · exact .inl hb
    · exact .inr (.inl hb)
    · exact .inr (.inr (.inl hb))
    · exact .inr (.inr (.inr (.inl hb)))
    · exact .inr (.inr (.inr (.inr ⟨p, pdel_sub.subset hp, rfl⟩)))
  clear hA2
  generalize World.put w1.drew.drew T.bW ow = w2 at *
  -- the keys
  simp only [↓uL.1, tL.1, cellIn_cells, frzIn_00, setIn_cells, cellsIn_cells, List.getElem?_toArray, List.getElem?_cons_zero, List.getElem?_cons_succ, Option.isSome_some, Option.getD_some, Nat.zero_add, Nat.add_zero, List.setIfInBounds_toArray, List.set_cons_zero, List.set_cons_succ, put_same, add_new, add_old, oneV, Value.cells, List.size_toArray, List.length_cons, List.length_nil, List.extract_toArray, List.extract_eq_take_drop, Nat.reduceAdd, Nat.reduceSub, Nat.reduceLeDiff, if_true, List.drop_zero, List.take_succ_cons, List.take_zero, List.drop_succ_cons, drew_heap, ht2.cell]
  have hkeys : (T.things.map fun p => (p.1, ptr p.2.bx)).map (·.1) = T.abs.things.map (·.1) := by simp [Tab.abs, absT, List.map_map, Function.comp_def]
  have hlenT : T.abs.things.length = T.things.length := by simp [Tab.abs, absT]
  refine un_sortedS (l := T.things.map fun p => (p.1, ptr p.2.bx)) ht2.mapT (by rw [hkeys]; exact hs.nd) (fun p hp => ?_) (by rw [List.length_map]; have := hs.n; omega) fun vk w3 hrk hfk hk3 => ?_
  · obtain ⟨q, hq, rfl⟩ := List.mem_map.1 hp
    exact hs.ks (q.1, q.2.hv, q.2.q) (List.mem_map.2 ⟨q, hq, rfl⟩)
  rw [hkeys] at hrk
  unfold dropF at h
  have hksn : (sortS (T.abs.things.map (·.1))).Nodup := (sortS_perm _).nodup_iff.2 hs.nd
  have hksm : ∀ r ∈ sortS (T.abs.things.map (·.1)), (pget T.abs.things r).isSome := fun r hr => by
    have := (sortS_perm _).subset hr
    obtain ⟨p, hp, rfl⟩ := List.mem_map.1 this
    generalize T.abs.things = l at hp
    induction l with
    | nil => cases hp
    | cons a l ih =>
      simp only [pget]
      split
      · rfl
      · rename_i hne
        rcases List.mem_cons.1 hp with rfl | hp
        · exact absurd rfl hne
        · exact ih hp
  have hksl : (sortS (T.abs.things.map (·.1))).length ≤ 1048576 := by
    rw [(sortS_perm _).length_eq, List.length_map]; exact hs.n
  generalize sortS (T.abs.things.map (·.1)) = ks at *
  have ht3 := ht2.keep0 hk3
  have hk03 : Keep T.foot w w3 := hk02.trans hk3 (fun _ _ h => h.elim)
  have hc3 := hk3.at hc2 id
  have hsp3 := fun s hs' => hk3.at (hspot s hs') id
  have hs3 := hk3.size
  simp only [un_lenR und68 hrk, F9_s4]
  have hat : pget T.abs.waits t = (fndW T.waits t).map fun s => s.2 := absW_get T.waits t
  rw [hat] at h
  refine ⟨fun v4 v29 w' => ∃ (i : Nat) (Ti : Tab) (outs : List Int), v29 = .int .i64 i ∧ i ≤ ks.length ∧ TabAt w' Ti ∧ Ti.bt = T.bt ∧ (outs, Ti.abs) = (ks.take i).foldl (dropAt t ((fndW T.waits t).map fun s => s.2)) ([], { T.abs with waits := pdel T.abs.waits t }) ∧ (∀ b, Ti.foot b → ({ T with waits := pdel T.waits t } : Tab).foot b) ∧
      Keep (fun b => ({ T with waits := pdel T.waits t } : Tab).foot b ∨ w3.heap.size ≤ b) w3 w' ∧ RowI w' v4 outs ∧ (∀ g, rowB v4 = some g → w3.heap.size ≤ g) ∧ outs.length ≤ i * 1048576 ∧ (∀ r ∈ ks.drop i, (pget Ti.abs.things r).isSome) ∧ (∀ p ∈ Ti.things, p.2.q.length ≤ 1048576),
    fun _ v29 _ => match v29 with | .int _ i => ks.length - i.toNat | _ => 0,
    ⟨0, { T with waits := pdel T.waits t }, [], rfl, by omega, ht3, rfl, by rw [habs2]; rfl, fun _ h => h, Keep.refl _ w3, Row.nil, by simp [rowB], by simp, (by rw [habs2]; exact hksm), fun p hp => hs.q (p.1, p.2.hv, p.2.q) (List.mem_map.2 ⟨p, hp, rfl⟩)⟩, ?_⟩
  rintro v4 v29 w4 ⟨i, Ti, outs, rfl, hi, ht4, hbt4, hfold, hfoot4, hk4, hro, hfr, hol, hsome, hqs⟩
  have hk04 : Keep T.foot w w4 := hk03.trans hk4 (fun b hb hx => hx.elim (fun hx => hfoot2 b hx) (fun hx => by omega))
  have hfw : ∀ b, Ti.foot b → b < w.heap.size := fun b hb => ht.lt (hfoot2 b (hfoot4 b hb))
  have hs4 := hk4.size
  simp only [F9_s5, F9_s5_t, ↓uL.1, F9_s6]
  by_cases hlt : i < ks.length
  · have e1 : decide ((i : Int) < (ks.length : Int)) = true := by rw [decide_eq_true_eq]; omega
    obtain ⟨r, hr⟩ : ∃ r, ks[i]? = some r := ⟨ks[i], List.getElem?_eq_getElem hlt⟩
    have hdr : ks.drop i = r :: ks.drop (i + 1) := by
      rw [List.drop_eq_getElem_cons hlt]
      congr 1
      exact (List.getElem?_eq_some_iff.1 hr).2
    have htk : ks.take (i + 1) = ks.take i ++ [r] := by rw [List.take_add_one, hr]; rfl
    have hrs := hsome r (by rw [hdr]; exact List.mem_cons_self)
    have hgi : pget Ti.abs.things r = (fndT Ti.things r).map fun x => (x.hv, x.q) := absT_get Ti.things r
    rw [hgi, Option.isSome_map] at hrs
    obtain ⟨x, hx⟩ := Option.isSome_iff_exists.1 hrs
    rw [hx, Option.map_some] at hgi
    have hrk4 : Row w4 9 1 vk ks.length (strs ks) := hrk.keep hk4 (fun g hg hb => by
      have h1 := hfk g hg
      have h2 := hrk.lt hg
      rcases hb with hb | hb
      · have := ht.lt (hfoot2 g hb); omega
      · omega)
    obtain ⟨g, o, hg, hixx, hcl⟩ := hrk4.elem (P := Tryz.prog) (q := .i64) (i := i) hlt und68 siz9'
    rw [strs_at hr] at hcl
    have hcl1 : cellIn (w4.heap[g]?) o = some (.string r) := by
      have := cellIn_of_cells (j := 0) hcl (by omega)
      simpa using this
    have hX := ht4.ths _ (pget_mem hx)
    have hc4 : w4.heap[w.heap.size]? = some (.cells #[.int .i64 t] 3 (0, 0)) := hk4.at hc3 (fun hb => by
      rcases hb with hb | hb
      · exact hcf (hfoot2 _ hb)
      · omega)
    have hcfi : ¬ Ti.foot w.heap.size := fun hb => hcf (hfoot2 _ (hfoot4 _ hb))
    simp only [e1, ↓uL.1, F9_s9, F9_s9_t, uv_eq (hixx _), uv_load1 (by kernel_rfl : plainT Tryz.prog 9 = true) (by rw [hcl1]; rfl), hcl1, Option.getD_some]
    have hcell4 : w4.heap[T.bt]? = some (.cells #[.map (some Ti.bT), .map (some Ti.bW)] 51 (0, 0)) := by rw [← hbt4]; exact ht4.cell
    simp only [↓uL.1, tL.1, cellIn_cells, frzIn_00, setIn_cells, cellsIn_cells, List.getElem?_toArray, List.getElem?_cons_zero, List.getElem?_cons_succ, Option.isSome_some, Option.getD_some, Nat.zero_add, Nat.add_zero, List.setIfInBounds_toArray, List.set_cons_zero, List.set_cons_succ, put_same, add_new, add_old, oneV, Value.cells, List.size_toArray, List.length_cons, List.length_nil, List.extract_toArray, List.extract_eq_take_drop, Nat.reduceAdd, Nat.reduceSub, Nat.reduceLeDiff, if_true, List.drop_zero, List.take_succ_cons, List.take_zero, List.drop_succ_cons, drew_heap, hcell4, uv_lookS ht4.mapT und50 zer56, aget_things, hx, Option.map_some]
    -- does it have it?
    refine ⟨fun w' => w'.heap[x.bx]? = some (.cells #[.map (some x.bh), x.qv] 58 (0, 0)) ∧ w'.heap[w.heap.size]? = some (.cells #[.int .i64 t] 3 (0, 0)) ∧ MapI undI (w'.heap[x.bh]?) (hvV x.hv), ⟨hX.cell, hc4, hX.map⟩, ?_⟩
    refine HN_nil (HV_field (off := 0) (by kernel_rfl) (HV_load1 (v := .map (some x.bh)) (by kernel_rfl) (fun w hw => by rw [hw.1]; rfl) (HV_load1 (v := .int .i64 t) (by kernel_rfl) (fun w hw => by rw [hw.2.1]; rfl) ?_)))
    refine HV_of (v := .tuple #[(aget (hvV x.hv) t).getD (.int .i64 0), .bool (aget (hvV x.hv) t).isSome]) (fun w' hw => run_lookupK (keyI undI) (k := t) und35 zer3 hw.2.2 true) ?_
    refine HV_of (v := (aget (hvV x.hv) t).getD (.int .i64 0)) (fun w' hw => by simp [Instr.extract]) (HV_of (v := .bool (aget (hvV x.hv) t).isSome) (fun w' hw => by simp [Instr.extract]) ?_)
    have hiss : (aget (hvV x.hv) t).isSome = (pget x.hv t).isSome := by rw [aget_hv0, Option.isSome_map]
    rw [hiss]
    have ht4d : TabAt w4.drew Ti := ht4.keep0 (Keep.refl _ w4).drew
    have hro4d : RowI w4.drew v4 outs := hro
    have hk4d : Keep (fun b => ({ T with waits := pdel T.waits t } : Tab).foot b ∨ w3.heap.size ≤ b) w3 w4.drew := hk4.drew
    have e3 : IntKind.i64.wrap ((i : Int) + 1) = ((i + 1 : Nat) : Int) := by rw [wrap_id (by omega) (by omega)]; omega
    have hstep : (ks.take (i + 1)).foldl (dropAt t ((fndW T.waits t).map fun s => s.2)) ([], { T.abs with waits := pdel T.abs.waits t }) = dropAt t ((fndW T.waits t).map fun s => s.2) (outs, Ti.abs) r := by
      rw [htk, List.foldl_append, ← hfold]; rfl
    have hsome' : ∀ r' ∈ ks.drop (i + 1), (pget (dropAt t ((fndW T.waits t).map fun s => s.2) (outs, Ti.abs) r).2.things r').isSome := fun r' hr' => by
      have hne : r ≠ r' := by
        have := hksn.sublist (List.drop_sublist i ks)
        rw [hdr, List.nodup_cons] at this
        exact fun e => this.1 (e ▸ hr')
      rw [dropF_isSome hne]
      exact hsome r' (by rw [hdr]; exact List.mem_cons_of_mem _ hr')
    -- behind the question
    have rest : F9_s10 R (fun v4 v29 w' => (∃ (i : Nat) (Ti : Tab) (outs : List Int), v29 = .int .i64 i ∧ i ≤ ks.length ∧ TabAt w' Ti ∧ Ti.bt = T.bt ∧ (outs, Ti.abs) = (ks.take i).foldl (dropAt t ((fndW T.waits t).map fun s => s.2)) ([], { T.abs with waits := pdel T.abs.waits t }) ∧ (∀ b, Ti.foot b → ({ T with waits := pdel T.waits t } : Tab).foot b) ∧
        Keep (fun b => ({ T with waits := pdel T.waits t } : Tab).foot b ∨ w3.heap.size ≤ b) w3 w' ∧ RowI w' v4 outs ∧ (∀ g, rowB v4 = some g → w3.heap.size ≤ g) ∧ outs.length ≤ i * 1048576 ∧ (∀ r ∈ ks.drop i, (pget Ti.abs.things r).isSome) ∧ (∀ p ∈ Ti.things, p.2.q.length ≤ 1048576)) ∧
        (match v29 with | .int _ i => ks.length - i.toNat | _ => 0) < ks.length - i) (ptr T.bt) (ptr w.heap.size) v4 (((fndW T.waits t).map fun x => ptr x.1).getD (.pointer none)) (.string r) (ptr x.bx) vk (.int .i64 ks.length) (.int .i64 i) (.bool (!(pget x.hv t).isSome && !decide (((fndW T.waits t).map fun s => s.2) = some r))) w4.drew := by
      simp only [F9_s10]
      cases hcond : (!(pget x.hv t).isSome && !decide (((fndW T.waits t).map fun s => s.2) = some r))
      · simp only [↓uL.1]
        refine dropX_c Ti T.bt hbt4 t r x w4.drew ht4d hx (hqs _ (pget_mem hx)) w.heap.size hc4 hcfi w3.heap.size (fun b hb => by have := hfw b hb; omega) (by exact hs4) v4 outs hro4d hfr (by have : i * 1048576 ≤ 1048576 * 1048576 := Nat.mul_le_mul_right _ (by omega); omega) R _ _ _ _ _ fun v5' w5 T5 ht5 hbt5 habs5 hfoot5 hk5 hro5 hfr5 => ?_
        simp only [F9_s8, F9_s8_t, ↓uL.1, e3]
        have hd : dropAt t ((fndW T.waits t).map fun s => s.2) (outs, Ti.abs) r = (outs ++ (servF (pdel x.hv t) Ti.abs.waits (x.q.filter fun y => !(y.txn == t))).out, T5.abs) := by
          unfold dropAt
          simp only [hgi, hcond, Bool.false_eq_true, if_false]
          rw [habs5]
        refine ⟨⟨i + 1, T5, _, rfl, by omega, ht5, hbt5.trans hbt4, by rw [hstep, hd], fun b hb => hfoot4 b (hfoot5 b hb), hk4d.trans hk5 (fun b _ hb => hb.imp (hfoot4 b) id), hro5, hfr5, ?_, ?_, ?_⟩, by simp; omega⟩
        · have h1 := servF_len (pdel x.hv t) Ti.abs.waits (x.q.filter fun y => !(y.txn == t))
          have h2 : (x.q.filter fun y => !(y.txn == t)).length ≤ x.q.length := List.length_filter_le _ _
          have h3 := hqs _ (pget_mem hx)
          simp only [] at h3
          rw [List.length_append, Nat.add_mul]; omega
        · have := hsome'
          rw [hd] at this
          exact this
        · intro p hp
          have hm : (p.1, p.2.hv, p.2.q) ∈ T5.abs.things := List.mem_map.2 ⟨p, hp, rfl⟩
          rw [habs5] at hm
          simp only [] at hm
          have hm' : (p.1, p.2.hv, p.2.q) ∈ pset Ti.abs.things r ((servF (pdel x.hv t) Ti.abs.waits (x.q.filter fun y => !(y.txn == t))).hv, (servF (pdel x.hv t) Ti.abs.waits (x.q.filter fun y => !(y.txn == t))).q) := by
            split at hm
            · exact pdel_sub.subset hm
            · exact hm
          rcases pset_mem hm' with e | hm'
          · have h1 := servF_len (pdel x.hv t) Ti.abs.waits (x.q.filter fun y => !(y.txn == t))
            have h2 : (x.q.filter fun y => !(y.txn == t)).length ≤ x.q.length := List.length_filter_le _ _
            have h3 := hqs _ (pget_mem hx)
            simp only [Prod.mk.injEq] at e h3
            rw [e.2.2]; omega
          · obtain ⟨p', hp', e⟩ := List.mem_map.1 hm'
            simp only [Prod.mk.injEq] at e
            rw [← e.2.2]
            exact hqs p' hp'
      · simp only [↓uL.1, F9_s8, F9_s8_t, e3]
        have hd : dropAt t ((fndW T.waits t).map fun s => s.2) (outs, Ti.abs) r = (outs, Ti.abs) := by
          unfold dropAt
          simp only [hgi, hcond, if_true]
        refine ⟨⟨i + 1, Ti, outs, rfl, by omega, ht4d, hbt4, by rw [hstep, hd], hfoot4, hk4d, hro4d, hfr, Nat.le_trans hol (Nat.mul_le_mul_right _ (Nat.le_succ i)), ?_, hqs⟩, by simp; omega⟩
        have := hsome'
        rw [hd] at this
        exact this
    -- the question itself
    cases hhad : (pget x.hv t).isSome
    · rw [hhad] at rest
      simp only [Bool.not_false, Bool.true_and] at rest
      cases hw : fndW T.waits t with
      | none =>
        rw [hw] at rest
        simp only [Option.map_none, Option.getD_none, ↓uL.1, tL.1, Bool.not_false, Option.isNone_none, if_true] at rest ⊢
        exact rest
      | some s =>
        have hs4' : w4.drew.heap[s.1]? = some (.cells #[.string s.2] 66 (0, 0)) := hk4.at (hsp3 s hw) (fun hb => by
          rcases hb with hb | hb
          · exact spot_free ht hw hb
          · have := ht.lt (b := s.1) (.inr (.inr (.inr (.inr ⟨_, pget_mem hw, rfl⟩)))); omega)
        have hs5' : w4.heap[s.1]? = some (.cells #[.string s.2] 66 (0, 0)) := hs4'
        rw [hw] at rest
        have hbeq : (s.2.toList != r.toList) = !decide (some s.2 = some r) := by
          rw [bytes_ne]; simp
        simp only [Option.map_some, Option.getD_some, ↓uL.1, tL.1, cellIn_cells, frzIn_00, setIn_cells, cellsIn_cells, List.getElem?_toArray, List.getElem?_cons_zero, List.getElem?_cons_succ, Option.isSome_some, Option.getD_some, Nat.zero_add, Nat.add_zero, List.setIfInBounds_toArray, List.set_cons_zero, List.set_cons_succ, put_same, add_new, add_old, oneV, Value.cells, List.size_toArray, List.length_cons, List.length_nil, List.extract_toArray, List.extract_eq_take_drop, Nat.reduceAdd, Nat.reduceSub, Nat.reduceLeDiff, if_true, List.drop_zero, List.take_succ_cons, List.take_zero, List.drop_succ_cons, drew_heap, Bool.not_false, Option.isNone_some, if_true, hs4', hs5', hbeq, Bool.false_eq_true, if_false] at rest ⊢
        exact rest
    · rw [hhad] at rest
      simp only [Bool.not_true, Bool.false_and] at rest
      simp only [↓uL.1, Bool.not_true, Bool.false_eq_true, if_false]
      exact rest
  · have e1 : decide ((i : Int) < (ks.length : Int)) = false := by rw [decide_eq_false_iff_not]; omega
    simp only [e1, ↓uL.1, F9_s3, F9_s3_t]
    rw [List.take_of_length_le (by omega)] at hfold
    rw [← hfold] at h
    exact h v4 w4 Ti ht4 hbt4 rfl (fun b hb => hfoot2 b (hfoot4 b hb)) hk04 hro (fun g hg => by have := hfr g hg; omega)
end Go.Proofs.YtpghlemcgjogpaaGreat
