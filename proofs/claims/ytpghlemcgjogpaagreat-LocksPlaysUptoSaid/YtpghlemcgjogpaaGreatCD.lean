/- What the functions that change a table come to: serve. -/
import Derived.Test.YtpghlemcgjogpaaGreatCB
import Derived.Test.YtpghlemcgjogpaaGreatCC
set_option linter.unusedVariables false
set_option linter.unusedSimpArgs false
set_option linter.unnecessarySimpa false
set_option maxRecDepth 100000
namespace Go.Proofs.YtpghlemcgjogpaaGreat
open Go.Sx

theorem und55' : Tryz.prog.underlying 35 = some (.slice 3) := by kernel_rfl
theorem apI : apB Tryz.prog 35 3 1 8 = true := by kernel_rfl
theorem siz3' : (Tryz.prog.info? 3).map (·.size) = some 1 := by kernel_rfl
def ints (l : List Int) : List Value := l.map fun a => .int .i64 a
theorem ints_one (l : List Int) : ∀ u ∈ ints l, oneV u = true := by
  intro u hu
  simp only [ints, List.mem_map] at hu
  obtain ⟨a, _, rfl⟩ := hu; rfl
/-- A slice of ints of a world's own. -/
abbrev RowI (w : World) (v : Value) (l : List Int) : Prop := Row w 3 1 v l.length (ints l)
theorem bsl1 (a : Int) (w : World) : (Instr.buildSlice 35 1 #[(0, .int .i64 a)]).run Tryz.prog w = .ok (.slice (some ⟨w.heap.size, 0, none⟩) 1 1) (World.add w (.cells #[.int .i64 a] 3)) := by kernel_rfl
theorem bslw (x : Wi) (w : World) : (Instr.buildSlice 56 1 #[(0, .agg x.cells.toArray)]).run Tryz.prog w = .ok (.slice (some ⟨w.heap.size, 0, none⟩) 1 1) (World.add w (.cells x.cells.toArray 61)) := by
  obtain ⟨a, b, c⟩ := x; kernel_rfl

structure Sv (β : Type) where
  hv : List (Int × Int)
  q : List Wi
  W : List (Int × β)
  out : List Int
def servF {β : Type} (hv : List (Int × Int)) (W : List (Int × β)) : List Wi → Sv β
  | [] => ⟨hv, [], W, []⟩
  | x :: q => if canB hv x.txn x.mode then (let r := servF (pset hv x.txn x.mode) (pdel W x.txn) q; ⟨r.hv, r.q, r.W, x.txn :: r.out⟩) else ⟨hv, x :: q, W, []⟩
/-- A thing with another queue, other locks. -/
def lenQ (w : World) (b : Nat) : Nat := match cellIn (w.heap[b]?) 1 with | some (.slice _ n _) => n | _ => 0
theorem ThAt.lenQ {w : World} {x : Th} (h : ThAt w x) : lenQ w x.bx = x.q.length := by
  obtain ⟨a, c, hv⟩ := h.row.len
  unfold YtpghlemcgjogpaaGreat.lenQ
  rw [h.cell, cellIn_cells]
  simp [hv]
/-- The queue's value is stored. -/
theorem ThAt.setq {w : World} {x : Th} {v : Value} {q : List Wi} (h : ThAt w x) (hr : Row w 61 3 v q.length (wcells q)) : ThAt (World.put w x.bx (.cells #[.map (some x.bh), v] 58 (0, 0))) { x with qv := v, q := q } := by
  have hne : x.bx ≠ x.bh := by
    intro e
    obtain ⟨es, cl, he, _⟩ := h.map
    rw [← e, h.cell] at he; cases he
  refine ⟨put_same (by rw [h.cell]; rfl), by rw [put_ne hne]; exact h.map, hr.congr fun g hg => put_ne fun e => ?_⟩
  obtain ⟨c, hc⟩ := row_block hr hg
  rw [← e, h.cell] at hc
  simp only [Option.some.injEq, Obj.cells.injEq] at hc
  exact absurd hc.2.1 (by decide)
/-- The locks change. -/
theorem ThAt.sethv {w : World} {x : Th} {o : Obj} {l : List (Int × Int)} (h : ThAt w x) (ho : MapI undI (some o) (hvV l)) : ThAt (World.put w x.bh o) { x with hv := l } := by
  have hne : x.bh ≠ x.bx := by
    intro e
    obtain ⟨es, cl, he, _⟩ := h.map
    rw [e, h.cell] at he; cases he
  have hlt := MapK_lt h.map
  refine ⟨by rw [put_ne hne]; exact h.cell, ?_, h.row.congr fun g hg => put_ne fun e => ?_⟩
  · rw [put_same (by rw [Array.getElem?_eq_getElem hlt]; rfl)]; exact ho
  · obtain ⟨c, hc⟩ := row_block h.row hg
    obtain ⟨es, cl, he, _⟩ := h.map
    rw [← e, he] at hc; cases hc

theorem serve_c (T : Tab) (r : ByteArray) (x : Th) (w : World) (ht : TabAt w T) (hf : fndT T.things r = some x) (hbig : x.q.length ≤ 1099511627776) (R : Ending → World → Prop)
    (h : ∀ (v : Value) (w' : World) (x' : Th), TabAt w' { T with things := pset T.things r x', waits := (servF x.hv T.waits x.q).W } → x'.bx = x.bx → x'.bh = x.bh → x'.hv = (servF x.hv T.waits x.q).hv → x'.q = (servF x.hv T.waits x.q).q → rowB x'.qv = rowB x.qv →
      RowI w' v (servF x.hv T.waits x.q).out → (∀ g, rowB v = some g → w.heap.size ≤ g) → Keep T.foot w w' → R (.returned v) w') :
    Calls Tryz.prog 34 #[ptr T.bt, ptr x.bx] w R := by
  apply F34_calls
  have hmx : 4398046511104 ≤ maxLen := by decide
  simp only [F34_s1, F34_s1_t, F34_s4]
  refine ⟨fun v4 w' => ∃ (x' : Th) (W' : List (Int × Nat × ByteArray)) (outs : List Int), TabAt w' { T with things := pset T.things r x', waits := W' } ∧ x'.bx = x.bx ∧ x'.bh = x.bh ∧ rowB x'.qv = rowB x.qv ∧ RowI w' v4 outs ∧ (∀ g, rowB v4 = some g → w.heap.size ≤ g) ∧ Keep T.foot w w' ∧
      x'.q.length + outs.length ≤ x.q.length ∧ (∀ p ∈ W', p ∈ T.waits) ∧ servF x.hv T.waits x.q = ⟨(servF x'.hv W' x'.q).hv, (servF x'.hv W' x'.q).q, (servF x'.hv W' x'.q).W, outs ++ (servF x'.hv W' x'.q).out⟩,
    fun _ w' => lenQ w' x.bx, ⟨x, T.waits, [], by rw [pset_self hf]; exact ht, rfl, rfl, rfl, Row.nil, by simp [rowB], Keep.refl _ w, by simp, fun _ h => h, by simp⟩, ?_⟩
  rintro v4 w1 ⟨x1, W1, outs, ht1, hbx, hbh, hrb, hro, hfr, hk1, hlen, hsub, hsv⟩
  have hf1 : fndT (pset T.things r x1) r = some x1 := pget_pset_same
  have hmem : (r, x1) ∈ (pset T.things r x1) := pget_mem hf1
  have hx1 : ThAt w1 x1 := ht1.ths _ hmem
  have hxm : (r, x) ∈ T.things := pget_mem hf
  have hxlt := fun b hb => ht.lt (b := b) (.inr (.inr (.inr (.inl ⟨_, hxm, hb⟩))))
  rw [← hbx]
  simp only [F34_s5, F34_s5_t, ↓uL.1, tL.1, cellIn_cells, frzIn_00, setIn_cells, cellsIn_cells, List.getElem?_toArray, List.getElem?_cons_zero, List.getElem?_cons_succ, Option.isSome_some, Option.getD_some, Nat.zero_add, Nat.add_zero, List.setIfInBounds_toArray, List.set_cons_zero, List.set_cons_succ, put_same, add_new, add_old, oneV, Value.cells, List.size_toArray, List.length_cons, List.length_nil, List.extract_toArray, List.extract_eq_take_drop, Nat.reduceAdd, Nat.reduceSub, Nat.reduceLeDiff, if_true, List.drop_zero, List.take_succ_cons, List.take_zero, List.drop_succ_cons, drew_heap, hx1.cell, un_lenR und57 hx1.row, hx1.lenQ]
  cases hq : x1.q with
  | nil =>
    have e1 : decide ((([] : List Wi).length : Int) > 0) = false := by simp
    simp only [e1, ↓uL.1, Bool.false_eq_true, if_false, F34_s6, F34_s3, F34_s3_t]
    rw [hq] at hsv
    simp only [servF, List.append_nil] at hsv
    rw [hsv] at h
    exact h v4 w1 x1 ht1 hbx hbh rfl hq hrb hro hfr hk1
  | cons y q1 =>
    have e1 : decide (((q1.length + 1 : Nat) : Int) > 0) = true := by rw [decide_eq_true_eq]; omega
    have hy0 : x1.q[0]? = some y := by rw [hq]; rfl
    obtain ⟨g, o, hg, hixx, hcl⟩ := hx1.row.elem (P := Tryz.prog) (q := .i64) (i := 0) (by rw [hq]; simp) und57 siz62
    rw [wcells_at hy0] at hcl
    have hix0 : ∀ w1, (Instr.indexAt 56 x1.qv (.int .i64 0)).run Tryz.prog w1 = .ok (.pointer (some ⟨g, o, none⟩)) w1 := hixx
    simp only [e1, ↓uL.1, tL.1, cellIn_cells, frzIn_00, setIn_cells, cellsIn_cells, List.getElem?_toArray, List.getElem?_cons_zero, List.getElem?_cons_succ, Option.isSome_some, Option.getD_some, Nat.zero_add, Nat.add_zero, List.setIfInBounds_toArray, List.set_cons_zero, List.set_cons_succ, put_same, add_new, add_old, oneV, Value.cells, List.size_toArray, List.length_cons, List.length_nil, List.extract_toArray, List.extract_eq_take_drop, Nat.reduceAdd, Nat.reduceSub, Nat.reduceLeDiff, if_true, List.drop_zero, List.take_succ_cons, List.take_zero, List.drop_succ_cons, drew_heap, hx1.cell, uv_eq (hix0 _), hcl]
    refine un_enter (enters Tryz.func19 (by kernel_rfl) (by kernel_rfl) _ _) (can_c x1 y.txn y.mode y.ch w1 hx1 _ fun w2 hk2 => ?_)
    have ht2 := ht1.keep0 hk2
    have hx2 := hx1.keep hk2 (fun _ _ => id)
    have hro2 := hro.keep hk2 (fun _ _ => id)
    have hk02 : Keep T.foot w w2 := hk1.trans hk2 (fun _ _ h => h.elim)
    simp only [↓uL.1, if_true, F34_s6]
    cases hcan : canB x1.hv y.txn y.mode
    · simp only [↓uL.1, F34_s3, F34_s3_t]
      rw [hq] at hsv
      simp only [servF, hcan, Bool.false_eq_true, if_false, List.append_nil] at hsv
      rw [hsv] at h
      exact h v4 w2 x1 ht2 hbx hbh rfl hq hrb hro2 hfr hk02
    · have hcl2 : Sx.cellsIn (w2.heap[g]?) o 3 = some y.cells.toArray := by
        rw [hk2.keep g (hx1.row.lt hg) id]; exact hcl
      simp only [↓uL.1, F34_s8, F34_s8_t, tL.1, cellIn_cells, frzIn_00, setIn_cells, cellsIn_cells, List.getElem?_toArray, List.getElem?_cons_zero, List.getElem?_cons_succ, Option.isSome_some, Option.getD_some, Nat.zero_add, Nat.add_zero, List.setIfInBounds_toArray, List.set_cons_zero, List.set_cons_succ, put_same, add_new, add_old, oneV, Value.cells, List.size_toArray, List.length_cons, List.length_nil, List.extract_toArray, List.extract_eq_take_drop, Nat.reduceAdd, Nat.reduceSub, Nat.reduceLeDiff, if_true, List.drop_zero, List.take_succ_cons, List.take_zero, List.drop_succ_cons, drew_heap, hx2.cell, uv_eq (hix0 _), hcl2]
      rw [uv_allocS (vs := y.cells) zer62 siz62 rfl rfl (by intro u hu; exact wcells_one [y] u (by simpa [wcells] using hu))]
      have hka : Keep0 w2 (World.add w2 (.cells y.cells.toArray 61)) := (Keep.refl _ w2).add
      have hbox : (World.add w2 (.cells y.cells.toArray 61)).heap[w2.heap.size]? = some (.cells y.cells.toArray 61 (0, 0)) := add_new
      generalize hw3 : World.add w2 (.cells y.cells.toArray 61) = w3 at hka hbox
      have hs3 : w3.heap.size = w2.heap.size + 1 := by rw [← hw3, hadd_size]
      have ht3 := ht2.keep0 hka
      have hx3 := hx2.keep hka (fun _ _ => id)
      have hro3 := hro2.keep hka (fun _ _ => id)
      have hk03 : Keep T.foot w w3 := hk02.trans hka (fun _ _ h => h.elim)
      have hq1 : 1 ≤ x1.q.length := by rw [hq]; simp
      have hD := hx3.row.drp (l := 1) hq1
      have hqd : x1.q.length - 1 = q1.length := by rw [hq]; rfl
      have hwd : (wcells x1.q).drop (1 * 3) = wcells q1 := by rw [wcells_drop, hq]; rfl
      rw [hqd, hwd] at hD
      have hone : oneV (dropV 3 x1.qv 1) = true := by
        obtain ⟨a, c, hv⟩ := hx3.row.len
        rw [hv]; rfl
      have hsl : ∀ w1, (Instr.sliceAt 56 x1.qv (some (.int .i64 1)) none none).run Tryz.prog w1 = .ok (dropV 3 x1.qv 1) w1 := fun w1 => hx3.row.run_drop (P := Tryz.prog) (l := 1) hq1 und57 siz62 w1
      simp only [↓uL.1, tL.1, cellIn_cells, frzIn_00, setIn_cells, cellsIn_cells, List.getElem?_toArray, List.getElem?_cons_zero, List.getElem?_cons_succ, Option.isSome_some, Option.getD_some, Nat.zero_add, Nat.add_zero, List.setIfInBounds_toArray, List.set_cons_zero, List.set_cons_succ, put_same, add_new, add_old, oneV, Value.cells, List.size_toArray, List.length_cons, List.length_nil, List.extract_toArray, List.extract_eq_take_drop, Nat.reduceAdd, Nat.reduceSub, Nat.reduceLeDiff, if_true, List.drop_zero, List.take_succ_cons, List.take_zero, List.drop_succ_cons, drew_heap, hx3.cell, uv_eq (hsl _)]
      rw [uu_store1 (by kernel_rfl) (by kernel_rfl) hone (by rw [hx3.cell]; rfl) (by rw [hx3.cell]; rfl), hx3.cell]
      simp only [cellIn_cells, frzIn_00, setIn_cells, cellsIn_cells, List.getElem?_toArray, List.getElem?_cons_zero, List.getElem?_cons_succ, Option.isSome_some, Option.getD_some, Nat.zero_add, Nat.add_zero, List.setIfInBounds_toArray, List.set_cons_zero, List.set_cons_succ, put_same, add_new, add_old, oneV, Value.cells, List.size_toArray, List.length_cons, List.length_nil, List.extract_toArray, List.extract_eq_take_drop, Nat.reduceAdd, Nat.reduceSub, Nat.reduceLeDiff, if_true, List.drop_zero, List.take_succ_cons, List.take_zero, List.drop_succ_cons, drew_heap]
      have hx4 := hx3.setq hD
      have ht4 := ht3.upd hf1 ((Keep.refl _ w3).put (b := x1.bx) (fun _ => .inl rfl)) hx4 rfl rfl (.inl rowB_drop)
      rw [pset_pset] at ht4
      have hbxf : T.foot x1.bx := .inr (.inr (.inr (.inl ⟨_, hxm, by rw [hbx]; exact .inl rfl⟩)))
      have hbhf : T.foot x1.bh := .inr (.inr (.inr (.inl ⟨_, hxm, by rw [hbh]; exact .inr (.inl rfl)⟩)))
      have hk04 := hk03.put (b := x1.bx) (o := .cells #[.map (some x1.bh), dropV 3 x1.qv 1] 58 (0, 0)) (fun _ => hbxf)
      have hsz := hk2.size
      have hsz1 := hk1.size
      have hnr : ∀ b, T.foot b → rowB v4 ≠ some b := fun b hb hv => by have := hfr b hv; have := ht.lt hb; omega
      have hro4 : RowI (World.put w3 x1.bx (.cells #[.map (some x1.bh), dropV 3 x1.qv 1] 58 (0, 0))) v4 outs := hro3.congr fun g hg => put_ne fun e => hnr _ hbxf (by rw [e]; exact hg)
      have hbox4 : (World.put w3 x1.bx (.cells #[.map (some x1.bh), dropV 3 x1.qv 1] 58 (0, 0))).heap[w2.heap.size]? = some (.cells y.cells.toArray 61 (0, 0)) := by
        rw [put_ne (fun e => by have := lt_of_at hx2.cell; omega)]; exact hbox
      have hs4 : (World.put w3 x1.bx (.cells #[.map (some x1.bh), dropV 3 x1.qv 1] 58 (0, 0))).heap.size = w2.heap.size + 1 := by rw [hput_size, hs3]
      generalize World.put w3 x1.bx (.cells #[.map (some x1.bh), dropV 3 x1.qv 1] 58 (0, 0)) = w4 at *
      -- the lock
      refine ⟨fun w' => w'.heap[x1.bx]? = some (.cells #[.map (some x1.bh), dropV 3 x1.qv 1] 58 (0, 0)) ∧ w'.heap[w2.heap.size]? = some (.cells y.cells.toArray 61 (0, 0)), ⟨hx4.cell, hbox4⟩, ?_⟩
      refine HN_nil (HV_field (off := 0) (by kernel_rfl) (HV_load1 (v := .map (some x1.bh)) (by kernel_rfl) (fun w hw => by rw [hw.1]; rfl) (HV_field (off := 0) (by kernel_rfl) (HV_load1 (v := .int .i64 y.txn) (by kernel_rfl) (fun w hw => by rw [hw.2]; rfl) (HV_field (off := 1) (by kernel_rfl) (HV_load1 (v := .int .i64 y.mode) (by kernel_rfl) (fun w hw => by rw [hw.2]; rfl) ?_))))))
      have ht5 : TabAt w4.drew _ := ht4.keep0 (Keep.refl _ w4).drew
      have hx5 : ThAt w4.drew { x1 with qv := dropV 3 x1.qv 1, q := q1 } := hx4.keep (Keep.refl (fun _ => False) w4).drew (fun _ _ => id)
      refine uu_updI hx5.map und35 fun ob hob => ?_
      rw [aset_hv] at hob
      have hf5 : fndT (pset T.things r { x1 with qv := dropV 3 x1.qv 1, q := q1 }) r = some { x1 with qv := dropV 3 x1.qv 1, q := q1 } := pget_pset_same
      have hx6 := hx5.sethv hob
      have ht6 := ht5.upd hf5 ((Keep.refl _ w4.drew).put (b := x1.bh) (fun _ => .inr (.inl rfl))) hx6 rfl rfl (.inl rfl)
      rw [pset_pset] at ht6
      have hk06 := (hk04.drew).put (b := x1.bh) (o := ob) (fun _ => hbhf)
      have hs6 : (World.put w4.drew x1.bh ob).heap.size = w2.heap.size + 1 := by rw [hput_size]; exact hs4
      have hro5 : RowI w4.drew v4 outs := hro4
      have hro6 : RowI (World.put w4.drew x1.bh ob) v4 outs := hro5.congr fun g hg => put_ne fun e => hnr _ hbhf (by rw [e]; exact hg)
      have hbox5 : w4.drew.heap[w2.heap.size]? = some (.cells y.cells.toArray 61 (0, 0)) := hbox4
      have hbox6 : (World.put w4.drew x1.bh ob).heap[w2.heap.size]? = some (.cells y.cells.toArray 61 (0, 0)) := by
        rw [put_ne (fun e => by have := MapK_lt hx2.map; omega)]; exact hbox5
      generalize World.put w4.drew x1.bh ob = w6 at *
      -- the wait
      refine ⟨fun w' => w'.heap[T.bt]? = some (.cells #[.map (some T.bT), .map (some T.bW)] 51 (0, 0)) ∧ w'.heap[w2.heap.size]? = some (.cells y.cells.toArray 61 (0, 0)), ⟨ht6.cell, hbox6⟩, ?_⟩
      refine HN_nil (HV_field (off := 1) (by kernel_rfl) (HV_load1 (v := .map (some T.bW)) (by kernel_rfl) (fun w hw => by rw [hw.1]; rfl) (HV_field (off := 0) (by kernel_rfl) (HV_load1 (v := .int .i64 y.txn) (by kernel_rfl) (fun w hw => by rw [hw.2]; rfl) ?_))))
      have ht7 : TabAt w6.drew _ := ht6.keep0 (Keep.refl _ w6).drew
      refine un_delI ht7.mapW und51 fun ow how => ?_
      have how' : MapI undI (some ow) ((pdel W1 y.txn).map fun p => (p.1, ptr p.2.1)) := by
        have e := adel_map (fun p : Nat × ByteArray => ptr p.1) W1 y.txn
        simp only [] at how
        rw [← e]; exact how
      have hltW := MapK_lt ht7.mapW
      have hsub' : ∀ p ∈ pdel W1 y.txn, p ∈ W1 := fun p hp => pdel_sub.subset hp
      have ht8 := ht7.updW (W' := pdel W1 y.txn) ((Keep.refl _ w6.drew).put (b := T.bW) (o := ow) (fun _ => rfl)) (by
        rw [put_same (by rw [Array.getElem?_eq_getElem hltW]; rfl)]; exact how') (fun p hp => by
        rw [put_ne (fun e => ?_)]
        · exact ht7.spots p (hsub' p hp)
        · obtain ⟨es, cl, he, _⟩ := ht7.mapW
          have := ht7.spots p (hsub' p hp)
          rw [← e] at this
          rw [this] at he; cases he) (ht7.sp.sublist pdel_sub)
      have hbWf : T.foot T.bW := .inr (.inr (.inl rfl))
      have hk08 := (hk06.drew).put (b := T.bW) (o := ow) (fun _ => hbWf)
      have hs8 : (World.put w6.drew T.bW ow).heap.size = w2.heap.size + 1 := by rw [hput_size]; exact hs6
      have hro7 : RowI w6.drew v4 outs := hro6
      have hro8 : RowI (World.put w6.drew T.bW ow) v4 outs := hro7.congr fun g hg => put_ne fun e => hnr _ hbWf (by rw [e]; exact hg)
      have hbox7 : w6.drew.heap[w2.heap.size]? = some (.cells y.cells.toArray 61 (0, 0)) := hbox6
      have hbox8 : (World.put w6.drew T.bW ow).heap[w2.heap.size]? = some (.cells y.cells.toArray 61 (0, 0)) := by
        rw [put_ne (fun e => by have := ht2.lt (b := T.bW) (.inr (.inr (.inl rfl))); omega)]; exact hbox7
      generalize World.put w6.drew T.bW ow = w8 at *
      simp only [hbox8, Wi.cells, ↓uL.1, tL.1, cellIn_cells, frzIn_00, setIn_cells, cellsIn_cells, List.getElem?_toArray, List.getElem?_cons_zero, List.getElem?_cons_succ, Option.isSome_some, Option.getD_some, Nat.zero_add, Nat.add_zero, List.setIfInBounds_toArray, List.set_cons_zero, List.set_cons_succ, put_same, add_new, add_old, oneV, Value.cells, List.size_toArray, List.length_cons, List.length_nil, List.extract_toArray, List.extract_eq_take_drop, Nat.reduceAdd, Nat.reduceSub, Nat.reduceLeDiff, if_true, List.drop_zero, List.take_succ_cons, List.take_zero, List.drop_succ_cons, drew_heap, uv_eq (bsl1 _ _)]
      have hro9 : RowI (World.add w8 (.cells #[.int .i64 y.txn] 3)) v4 outs := hro8.keep ((Keep.refl (fun _ => False) w8).add) (fun _ _ => id)
      have hsr : Row (World.add w8 (.cells #[.int .i64 y.txn] 3)) 3 1 (.slice (some ⟨w8.heap.size, 0, none⟩) 1 1) 1 [.int .i64 y.txn] := Row.fresh (cs := [.int .i64 y.txn]) rfl (by decide)
      simp only [hq, List.length_cons] at hlen
      refine un_appendR apI (by decide) hro9 hsr (by simp [oneV]) (by omega) (by omega) fun v' w9 h9 hk9 hf9 => ?_
      have hkA : Keep0 w8 (World.add w8 (.cells #[.int .i64 y.txn] 3)) := (Keep.refl _ w8).add
      have hk10 : Keep T.foot w (World.add w8 (.cells #[.int .i64 y.txn] 3)) := hk08.trans hkA (fun _ _ h => h.elim)
      have hk11 : Keep T.foot w w9 := hk10.trans hk9 (fun b hb hv => absurd (hfr b hv) (by omega))
      have ht9 := ht8.keep0 hkA
      have hsub2 : ∀ p ∈ pdel W1 y.txn, p ∈ T.waits := fun p hp => hsub p (hsub' p hp)
      have ht10 := ht9.keep hk9 (fun b hb hv => by
        have h1 := hfr b hv
        have h2 : b < w.heap.size := by
          rcases hb with rfl | rfl | rfl | ⟨p, hp, hb⟩ | ⟨p, hp, rfl⟩
          · exact ht.lt (.inl rfl)
          · exact ht.lt (.inr (.inl rfl))
          · exact ht.lt (.inr (.inr (.inl rfl)))
          · obtain ⟨l1, l2, e1, e2, _⟩ := pget_split hf
            simp only [e2] at hp
            rcases List.mem_append.1 hp with hp | hp
            · exact ht.lt (.inr (.inr (.inr (.inl ⟨p, by rw [e1]; exact List.mem_append_left _ hp, hb⟩))))
            · rcases List.mem_cons.1 hp with rfl | hp
              · rcases hb with rfl | rfl | hb
                · exact ht.lt hbxf
                · exact ht.lt hbhf
                · rw [show rowB (dropV 3 x1.qv 1) = rowB x.qv from rowB_drop.trans hrb] at hb
                  exact hxlt b (.inr (.inr hb))
              · exact ht.lt (.inr (.inr (.inr (.inl ⟨p, by rw [e1]; exact List.mem_append_right _ (List.mem_cons_of_mem _ hp), hb⟩))))
          · exact ht.lt (.inr (.inr (.inr (.inr ⟨p, hsub2 p hp, rfl⟩))))
        omega)
      have hro10 : RowI w9 v' (outs ++ [y.txn]) := by
        unfold RowI ints
        rw [List.length_append, List.map_append]
        exact h9
      have hx10 := ht10.ths _ (pget_mem (pget_pset_same (l := T.things) (k := r)))
      have hlq := hx10.lenQ
      simp only [] at hlq
      refine ⟨⟨_, pdel W1 y.txn, outs ++ [y.txn], ht10, rfl, hbh, (show rowB (dropV 3 x1.qv 1) = rowB x.qv from rowB_drop.trans hrb), hro10, ?_, hk11, by simp only [List.length_append, List.length_cons, List.length_nil]; omega, hsub2, ?_⟩, by rw [hlq]; omega⟩
      · intro g hg
        rcases hf9 with e | ⟨g', e, hg'⟩
        · rw [e] at hg; exact hfr g hg
        · rw [e] at hg; cases hg
          have := hkA.size
          omega
      · rw [hsv, hq]
        simp only [servF, hcan, if_true, List.append_assoc, List.cons_append, List.nil_append]
end Go.Proofs.YtpghlemcgjogpaaGreat
