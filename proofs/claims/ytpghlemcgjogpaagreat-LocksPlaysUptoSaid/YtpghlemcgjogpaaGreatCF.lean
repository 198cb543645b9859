/- Ask. -/
import Derived.Test.YtpghlemcgjogpaaGreatCE
set_option linter.unusedVariables false
set_option linter.unusedSimpArgs false
set_option linter.unnecessarySimpa false
set_option maxRecDepth 100000
namespace Go.Proofs.YtpghlemcgjogpaaGreat
open Go.Sx

theorem bldW (a b : Int) (c : Bool) (w : World) : (Instr.build 61 #[(0, .int .i64 a), (1, .int .i64 b), (2, .bool c)]).run Tryz.prog w = .ok (.agg #[.int .i64 a, .int .i64 b, .bool c]) w := by kernel_rfl
theorem bldS (r : ByteArray) (w : World) : (Instr.build 66 #[(0, .string r)]).run Tryz.prog w = .ok (.agg #[.string r]) w := by kernel_rfl
theorem bldT (b : Nat) (w : World) : (Instr.build 58 #[(0, .map (some b))]).run Tryz.prog w = .ok (.agg #[.map (some b), .slice none 0 0]) w := by kernel_rfl
theorem pset_mem {κ β : Type} [DecidableEq κ] {l : List (κ × β)} {k : κ} {v : β} {p : κ × β} (h : p ∈ pset l k v) : p = (k, v) ∨ p ∈ l := by
  induction l with
  | nil => exact .inl (by simpa [pset] using h)
  | cons a l ih =>
    simp only [pset] at h
    split at h
    · rcases List.mem_cons.1 h with h | h
      · exact .inl h
      · exact .inr (List.mem_cons_of_mem _ h)
    · rcases List.mem_cons.1 h with h | h
      · exact .inr (by rw [h]; exact List.mem_cons_self)
      · rcases ih h with h | h
        · exact .inl h
        · exact .inr (List.mem_cons_of_mem _ h)
theorem pset_sp {l : List (Int × Nat × ByteArray)} {t : Int} {v : Nat × ByteArray} (h : l.Pairwise fun p p' => p.2.1 ≠ p'.2.1) (hv : ∀ p ∈ l, v.1 ≠ p.2.1) : (pset l t v).Pairwise fun p p' => p.2.1 ≠ p'.2.1 := by
  induction l with
  | nil => simp [pset]
  | cons p l ih =>
    obtain ⟨h1, h2⟩ := List.pairwise_cons.1 h
    simp only [pset]
    split
    · exact List.pairwise_cons.2 ⟨fun q hq => hv q (List.mem_cons_of_mem _ hq), h2⟩
    · refine List.pairwise_cons.2 ⟨fun q hq => ?_, ih h2 fun q hq => hv q (List.mem_cons_of_mem _ hq)⟩
      rcases pset_mem hq with rfl | hq
      · exact fun e => hv p List.mem_cons_self e.symm
      · exact h1 q hq
/-- The thing is changed: all of it. -/
theorem After.upd {w w' : World} {T : Tab} {r : ByteArray} {x x' : Th} (h : TabAt w T) (hf : fndT T.things r = some x) (hk : Keep x.foot w w') (hx : ThAt w' x') (h1 : x'.bx = x.bx) (h2 : x'.bh = x.bh)
    (h3 : rowB x'.qv = rowB x.qv ∨ ∃ g, rowB x'.qv = some g ∧ w.heap.size ≤ g) : After T w w' { T with things := pset T.things r x' } { T.abs with things := pset T.abs.things r (x'.hv, x'.q) } :=
  ⟨h.upd hf hk hx h1 h2 h3, rfl, by simp only [Tab.abs, absT_set], hk.mono (fun b _ hb => .inr (.inr (.inr (.inl ⟨_, pget_mem hf, hb⟩)))), foot_upd (w' := w') h hf h1 h2 h3⟩
/-- A wish is noted. -/
theorem TabAt.addW {w : World} {T : Tab} {t : Int} {r : ByteArray} {ow : Obj} (h : TabAt w T) (how : MapI undI (some ow) (aset (T.waits.map fun p => (p.1, ptr p.2.1)) t (ptr w.heap.size))) :
    After T w (World.put (World.add w (.cells #[.string r] 66)) T.bW ow) { T with waits := pset T.waits t (w.heap.size, r) } { T.abs with waits := pset T.abs.waits t r } := by
  have e := aset_map (fun p : Nat × ByteArray => ptr p.1) T.waits t (w.heap.size, r)
  have how' : MapI undI (some ow) ((pset T.waits t (w.heap.size, r)).map fun p => (p.1, ptr p.2.1)) := by
    rw [← e]; exact how
  have hka : Keep0 w (World.add w (.cells #[.string r] 66)) := (Keep.refl _ w).add
  have h' := h.keep0 hka
  have hltW := MapK_lt h'.mapW
  have hltW0 := MapK_lt h.mapW
  refine ⟨h'.updW ((Keep.refl _ _).put (b := T.bW) (fun _ => rfl)) (by rw [put_same (by rw [Array.getElem?_eq_getElem hltW]; rfl)]; exact how') (fun p hp => ?_) (pset_sp h.sp fun p hp => ?_), rfl, by simp only [Tab.abs, absW_set], ((hka.mono fun _ _ h => h.elim)).put (fun _ => .inr (.inr (.inl rfl))), ?_⟩
  · have hne : w.heap.size ≠ T.bW := fun e => by omega
    rcases pset_mem hp with rfl | hp
    · rw [put_ne (fun e => hne e.symm), add_new]
    · rw [put_ne (fun e => ?_)]
      · exact h'.spots p hp
      · obtain ⟨es, cl, he, _⟩ := h'.mapW
        have := h'.spots p hp
        rw [← e, he] at this; cases this
  · have := h.lt (b := p.2.1) (.inr (.inr (.inr (.inr ⟨p, hp, rfl⟩))))
    simp only; omega
  · intro b hb
    rcases hb with hb | hb | hb | hb | ⟨p, hp, rfl⟩
    · exact .inl (.inl hb)
    · exact .inl (.inr (.inl hb))
    · exact .inl (.inr (.inr (.inl hb)))
    · exact .inl (.inr (.inr (.inr (.inl hb))))
    · rcases pset_mem hp with rfl | hp
      · exact .inr (Nat.le_refl _)
      · exact .inl (.inr (.inr (.inr (.inr ⟨p, hp, rfl⟩))))

theorem abs_q {A : Abs} {B : List (ByteArray × List (Int × Int) × List Wi)} : ({ A with things := B } : Abs) = ⟨B, A.waits⟩ := rfl

/-- The end of Ask: the wish is put into the queue. -/
theorem askQ_c (T : Tab) (r : ByteArray) (x : Th) (t nm : Int) (ch : Bool) (at' : Nat) (w : World) (ht : TabAt w T) (hf : fndT T.things r = some x) (hbig : x.q.length ≤ 1099511627776) (hat : at' ≤ x.q.length) (bb : Nat) (hbb : w.heap[bb]? = some (.cells #[.int .i64 t, .int .i64 nm, .bool ch] 61 (0, 0)))
    (hnb : ¬ T.foot bb) (R : Ending → World → Prop)
    (h : ∀ w' T', After T w w' T' ⟨pset T.abs.things r (x.hv, x.q.take at' ++ ⟨t, nm, ch⟩ :: x.q.drop at'), pset T.abs.waits t r⟩ → R (.returned (.int .i64 2)) w') :
    F6_s11 R (ptr T.bt) (.int .i64 t) (.string r) (ptr x.bx) (ptr bb) (.int .i64 at') w := by
  simp only [F6_s11, F6_s11_t]
  have hmem : (r, x) ∈ T.things := pget_mem hf
  have hx := ht.ths _ hmem
  refine ⟨fun w' => w'.heap[x.bx]? = some (.cells #[.map (some x.bh), x.qv] 58 (0, 0)) ∧ w'.heap[bb]? = some (.cells #[.int .i64 t, .int .i64 nm, .bool ch] 61 (0, 0)), ⟨hx.cell, hbb⟩, ?_⟩
  have htd : TabAt w.drew T := ht.keep0 (Keep.refl _ w).drew
  refine HN_nil (HV_field (off := 1) (by kernel_rfl) (HV_load1 (v := x.qv) (by kernel_rfl) (fun w hw => by rw [hw.1]; rfl) (HV_loadN (n := 3) (cs := #[.int .i64 t, .int .i64 nm, .bool ch]) (by kernel_rfl) (fun w hw => by rw [hw.2]; rfl) ?_)))
  have hbs := bslw ⟨t, nm, ch⟩ w.drew
  simp only [Wi.cells] at hbs
  rw [uv_eq hbs]
  have hka : Keep0 w.drew (World.add w.drew (.cells #[.int .i64 t, .int .i64 nm, .bool ch] 61)) := (Keep.refl _ _).add
  have hta := htd.keep0 hka
  have hxa := hta.ths _ hmem
  have hbba : (World.add w.drew (.cells #[.int .i64 t, .int .i64 nm, .bool ch] 61)).heap[bb]? = some (.cells #[.int .i64 t, .int .i64 nm, .bool ch] 61 (0, 0)) := by
    rw [add_old (by rw [show w.drew.heap = w.heap from rfl, hbb]; rfl)]; exact hbb
  have hsr : Row (World.add w.drew (.cells #[.int .i64 t, .int .i64 nm, .bool ch] 61)) 61 3 (.slice (some ⟨w.drew.heap.size, 0, none⟩) 1 1) 1 (Wi.cells ⟨t, nm, ch⟩) := Row.fresh (cs := [.int .i64 t, .int .i64 nm, .bool ch]) rfl (by decide)
  refine ⟨⟨hxa.cell, hbba⟩, ?_⟩
  have hsz : w.drew.heap.size = w.heap.size := rfl
  refine un_enter (enters Tryz.func22 (by kernel_rfl) (by kernel_rfl) _ _) (insert_c x.qv _ x.q ⟨t, nm, ch⟩ at' _ hxa.row hsr (fun g hg hv => ?_) hat hbig _ fun v' w2 hr2 hk2 hf2 => ?_)
  · have e : w.drew.heap.size = g := by simpa [rowB] using hg
    have := hx.row.lt hv
    omega
  generalize hwa : World.add w.drew (.cells #[.int .i64 t, .int .i64 nm, .bool ch] 61) = wa at *
  have hsa : wa.heap.size = w.heap.size + 1 := by rw [← hwa, hadd_size, hsz]
  have hnx : ¬ rowB x.qv = some x.bx := fun hv => by
    obtain ⟨c, hc⟩ := row_block hx.row hv
    rw [hx.cell] at hc
    simp only [Option.some.injEq, Obj.cells.injEq] at hc
    exact absurd hc.2.1 (by decide)
  have hnh : ¬ rowB x.qv = some x.bh := fun hv => by
    obtain ⟨c, hc⟩ := row_block hx.row hv
    obtain ⟨es, cl, he, _⟩ := hx.map
    rw [he] at hc; cases hc
  have hcell2 : w2.heap[x.bx]? = some (.cells #[.map (some x.bh), x.qv] 58 (0, 0)) := hk2.at hxa.cell hnx
  have hbt2 : w2.heap[T.bt]? = some (.cells #[.map (some T.bT), .map (some T.bW)] 51 (0, 0)) := hk2.at hta.cell (fun hv => (hta.th_sep hmem (.inr (.inr hv))).1 rfl)
  have hone : oneV v' = true := by obtain ⟨a, c, rfl⟩ := hr2.len; rfl
  refine HN_nil (HV_field (off := 1) (by kernel_rfl) ?_)
  rw [uu_store1 (by kernel_rfl) (by kernel_rfl) hone (by rw [hcell2]; rfl) (by rw [hcell2]; rfl), hcell2]
  simp only [cellIn_cells, frzIn_00, setIn_cells, cellsIn_cells, List.getElem?_toArray, List.getElem?_cons_zero, List.getElem?_cons_succ, Option.isSome_some, Option.getD_some, Nat.zero_add, Nat.add_zero, List.setIfInBounds_toArray, List.set_cons_zero, List.set_cons_succ, put_same, add_new, add_old, oneV, Value.cells, List.size_toArray, List.length_cons, List.length_nil, List.extract_toArray, List.extract_eq_take_drop, Nat.reduceAdd, Nat.reduceSub, Nat.reduceLeDiff, if_true, List.drop_zero, List.take_succ_cons, List.take_zero, List.drop_succ_cons, drew_heap]
  have hq' : (x.q.take at' ++ (⟨t, nm, ch⟩ : Wi) :: x.q.drop at').length = x.q.length + 1 := by simp; omega
  have hr3 : Row w2 61 3 v' (x.q.take at' ++ (⟨t, nm, ch⟩ : Wi) :: x.q.drop at').length (wcells (x.q.take at' ++ ⟨t, nm, ch⟩ :: x.q.drop at')) := by rw [hq']; exact hr2
  have hvx : rowB v' ≠ some x.bx := fun hv => by
    obtain ⟨c, hc⟩ := row_block hr2 hv
    rw [hcell2] at hc
    simp only [Option.some.injEq, Obj.cells.injEq] at hc
    exact absurd hc.2.1 (by decide)
  have hk3 : Keep x.foot wa (World.put w2 x.bx (.cells #[.map (some x.bh), v'] 58 (0, 0))) := (hk2.mono (fun b _ hb => .inr (.inr hb))).put (fun _ => .inl rfl)
  have hx3 : ThAt (World.put w2 x.bx (.cells #[.map (some x.bh), v'] 58 (0, 0))) { x with qv := v', q := x.q.take at' ++ ⟨t, nm, ch⟩ :: x.q.drop at' } := by
    refine ⟨put_same (by rw [hcell2]; rfl), ?_, hr3.congr fun g hg => put_ne fun e => hvx (by rw [e]; exact hg)⟩
    have hne : x.bx ≠ x.bh := by
      intro e
      obtain ⟨es, cl, he, _⟩ := hx.map
      rw [← e, hx.cell] at he; cases he
    rw [put_ne hne, hk2.keep _ (MapK_lt hxa.map) hnh]
    exact hxa.map
  have hA3 := After.upd hta hf hk3 hx3 rfl rfl hf2
  have hA : After T w wa T T.abs := After.of0 ht (by rw [← hwa]; exact ((Keep.refl _ w).drew).add)
  have hA4 := hA.trans hA3
  have ht3 := hA3.at'
  generalize World.put w2 x.bx (.cells #[.map (some x.bh), v'] 58 (0, 0)) = w3 at *
  simp only [↓uL.1, tL.1, cellIn_cells, frzIn_00, setIn_cells, cellsIn_cells, List.getElem?_toArray, List.getElem?_cons_zero, List.getElem?_cons_succ, Option.isSome_some, Option.getD_some, Nat.zero_add, Nat.add_zero, List.setIfInBounds_toArray, List.set_cons_zero, List.set_cons_succ, put_same, add_new, add_old, oneV, Value.cells, List.size_toArray, List.length_cons, List.length_nil, List.extract_toArray, List.extract_eq_take_drop, Nat.reduceAdd, Nat.reduceSub, Nat.reduceLeDiff, if_true, List.drop_zero, List.take_succ_cons, List.take_zero, List.drop_succ_cons, drew_heap, ht3.cell, uv_eq (bldS _ _)]
  have hkb : Keep0 w3 (World.add w3 (.cells #[.string r] 66)) := (Keep.refl _ _).add
  have ht4 := ht3.keep0 hkb
  refine uu_updI ht4.mapW und51 fun ow how => ?_
  have hA5 := TabAt.addW (r := r) ht3 how
  have hA6 := hA4.trans hA5
  have habs : ({ T with things := pset T.things r { x with qv := v', q := x.q.take at' ++ ⟨t, nm, ch⟩ :: x.q.drop at' } } : Tab).abs = { T.abs with things := pset T.abs.things r (x.hv, x.q.take at' ++ ⟨t, nm, ch⟩ :: x.q.drop at') } := hA3.abs
  rw [habs] at hA6
  exact h _ _ hA6

theorem ask2_c (T : Tab) (r : ByteArray) (x : Th) (t m : Int) (w : World) (ht : TabAt w T) (hf : fndT T.things r = some x) (hbig : x.q.length ≤ 1099511627776) (R : Ending → World → Prop)
    (h : ∀ w' T', After T w w' T' (ask2 T.abs t r m x.hv x.q).2 → R (.returned (.int .i64 (ask2 T.abs t r m x.hv x.q).1)) w') :
    F6_s5 R (ptr T.bt) (.int .i64 t) (.string r) (.int .i64 m) (ptr x.bx) w := by
  have hmem : (r, x) ∈ T.things := pget_mem hf
  have hx := ht.ths _ hmem
  have hA0 := After.of0 ht (Keep.refl (fun _ => False) w)
  simp only [F6_s5, F6_s5_t, ↓uL.1, tL.1, cellIn_cells, frzIn_00, setIn_cells, cellsIn_cells, List.getElem?_toArray, List.getElem?_cons_zero, List.getElem?_cons_succ, Option.isSome_some, Option.getD_some, Nat.zero_add, Nat.add_zero, List.setIfInBounds_toArray, List.set_cons_zero, List.set_cons_succ, put_same, add_new, add_old, oneV, Value.cells, List.size_toArray, List.length_cons, List.length_nil, List.extract_toArray, List.extract_eq_take_drop, Nat.reduceAdd, Nat.reduceSub, Nat.reduceLeDiff, if_true, List.drop_zero, List.take_succ_cons, List.take_zero, List.drop_succ_cons, drew_heap, hx.cell, uv_lookI hx.map und35 zer3, aget_hv]
  refine un_enter (enters Tryz.func18 (by kernel_rfl) (by kernel_rfl) _ _) (join_c _ _ _ _ ?_)
  unfold ask2 at h
  simp only [] at h
  generalize hhad : modeOf x.hv t = had at h ⊢
  generalize hnm : jn had m = nm at h ⊢
  simp only [↓uL.1, uv_eq (bldW _ _ _ _)]
  generalize hch : (had != 0) = ch at h ⊢
  rw [uv_allocS (vs := [.int .i64 t, .int .i64 nm, .bool ch]) zer62 siz62 rfl rfl (by intro u hu; exact wcells_one [⟨t, nm, ch⟩] u (by simpa [wcells, Wi.cells] using hu))]
  have hbox : (World.add w (.cells #[.int .i64 t, .int .i64 nm, .bool ch] 61)).heap[w.heap.size]? = some (.cells #[.int .i64 t, .int .i64 nm, .bool ch] 61 (0, 0)) := add_new
  have hka : Keep0 w (World.add w (.cells #[.int .i64 t, .int .i64 nm, .bool ch] 61)) := (Keep.refl _ _).add
  have hlt : ¬ T.foot w.heap.size := fun hb => by have := ht.lt hb; omega
  generalize hw1 : World.add w (.cells #[.int .i64 t, .int .i64 nm, .bool ch] 61) = w1 at hka hbox
  have ht1 := ht.keep0 hka
  have hx1 := ht1.ths _ hmem
  have hA1 := After.of0 ht hka
  simp only [hbox, ↓uL.1, tL.1, cellIn_cells, frzIn_00, setIn_cells, cellsIn_cells, List.getElem?_toArray, List.getElem?_cons_zero, List.getElem?_cons_succ, Option.isSome_some, Option.getD_some, Nat.zero_add, Nat.add_zero, List.setIfInBounds_toArray, List.set_cons_zero, List.set_cons_succ, put_same, add_new, add_old, oneV, Value.cells, List.size_toArray, List.length_cons, List.length_nil, List.extract_toArray, List.extract_eq_take_drop, Nat.reduceAdd, Nat.reduceSub, Nat.reduceLeDiff, if_true, List.drop_zero, List.take_succ_cons, List.take_zero, List.drop_succ_cons, drew_heap, F6_s6]
  cases hsame : (nm == had)
  · simp only [hsame, Bool.false_eq_true, if_false] at h
    simp only [↓uL.1, F6_s7, F6_s7_t, hbox, tL.1, cellIn_cells, frzIn_00, setIn_cells, cellsIn_cells, List.getElem?_toArray, List.getElem?_cons_zero, List.getElem?_cons_succ, Option.isSome_some, Option.getD_some, Nat.zero_add, Nat.add_zero, List.setIfInBounds_toArray, List.set_cons_zero, List.set_cons_succ, put_same, add_new, add_old, oneV, Value.cells, List.size_toArray, List.length_cons, List.length_nil, List.extract_toArray, List.extract_eq_take_drop, Nat.reduceAdd, Nat.reduceSub, Nat.reduceLeDiff, if_true, List.drop_zero, List.take_succ_cons, List.take_zero, List.drop_succ_cons, drew_heap]
    -- what is left behind the question whether the wish can be granted
    have rest : ∀ w2, Keep0 w1 w2 → F6_s8 R (ptr T.bt) (.int .i64 t) (.string r) (ptr x.bx) (ptr w.heap.size) (.bool ((ch || x.q.isEmpty) && canB x.hv t nm)) w2 := by
      intro w2 hk2
      have ht2 := ht1.keep0 hk2
      have hx2 := ht2.ths _ hmem
      have hbox2 := hk2.at hbox id
      have hA2 := After.of0 ht (hka.trans hk2 (fun _ _ h => h))
      simp only [F6_s8]
      cases hg : ((ch || x.q.isEmpty) && canB x.hv t nm)
      · simp only [hg, Bool.false_eq_true, if_false] at h
        simp only [↓uL.1, F6_s9, F6_s9_t, hx2.cell, hbox2, tL.1, cellIn_cells, frzIn_00, setIn_cells, cellsIn_cells, List.getElem?_toArray, List.getElem?_cons_zero, List.getElem?_cons_succ, Option.isSome_some, Option.getD_some, Nat.zero_add, Nat.add_zero, List.setIfInBounds_toArray, List.set_cons_zero, List.set_cons_succ, put_same, add_new, add_old, oneV, Value.cells, List.size_toArray, List.length_cons, List.length_nil, List.extract_toArray, List.extract_eq_take_drop, Nat.reduceAdd, Nat.reduceSub, Nat.reduceLeDiff, if_true, List.drop_zero, List.take_succ_cons, List.take_zero, List.drop_succ_cons, drew_heap, un_lenR und57 hx2.row, F6_s10]
        have hput : ∀ w3, Keep0 w2 w3 → putAt x.q ch ≤ x.q.length → F6_s11 R (ptr T.bt) (.int .i64 t) (.string r) (ptr x.bx) (ptr w.heap.size) (.int .i64 (putAt x.q ch : Nat)) w3 := fun w3 hk3 hle =>
          askQ_c T r x t nm ch (putAt x.q ch) w3 (ht2.keep0 hk3) hf hbig hle w.heap.size (hk3.at hbox2 id) hlt R fun w' T' hA => h w' T' (by
            have := (After.of0 ht ((hka.trans hk2 (fun _ _ h => h)).trans hk3 (fun _ _ h => h))).trans hA
            exact this)
        cases hc : ch
        · simp only [↓uL.1]
          have := hput w2 (Keep.refl _ w2) (by simp [putAt, hc])
          simpa [putAt, hc] using this
        · simp only [↓uL.1, F6_s12, F6_s12_t, hx2.cell, tL.1, cellIn_cells, frzIn_00, setIn_cells, cellsIn_cells, List.getElem?_toArray, List.getElem?_cons_zero, List.getElem?_cons_succ, Option.isSome_some, Option.getD_some, Nat.zero_add, Nat.add_zero, List.setIfInBounds_toArray, List.set_cons_zero, List.set_cons_succ, put_same, add_new, add_old, oneV, Value.cells, List.size_toArray, List.length_cons, List.length_nil, List.extract_toArray, List.extract_eq_take_drop, Nat.reduceAdd, Nat.reduceSub, Nat.reduceLeDiff, if_true, List.drop_zero, List.take_succ_cons, List.take_zero, List.drop_succ_cons, drew_heap]
          refine un_enter (enters Tryz.func20 (by kernel_rfl) (by kernel_rfl) _ _) (indexFunc_c _ x.qv (fun x => !x.ch) x.q w2 hx2.row (testsF _ _) _ fun w3 hk3 => ?_)
          have ht3 := ht2.keep0 hk3
          have hx3 := ht3.ths _ hmem
          simp only [↓uL.1, F6_s13]
          cases hfi : x.q.findIdx? (fun x => !x.ch) with
          | none =>
            have e : idx (fun x => !x.ch) x.q = -1 := by simp [idx, hfi]
            have e1 : decide (idx (fun x => !x.ch) x.q < 0) = true := by rw [e]; decide
            simp only [e1, ↓uL.1, F6_s14, F6_s14_t, hx3.cell, tL.1, cellIn_cells, frzIn_00, setIn_cells, cellsIn_cells, List.getElem?_toArray, List.getElem?_cons_zero, List.getElem?_cons_succ, Option.isSome_some, Option.getD_some, Nat.zero_add, Nat.add_zero, List.setIfInBounds_toArray, List.set_cons_zero, List.set_cons_succ, put_same, add_new, add_old, oneV, Value.cells, List.size_toArray, List.length_cons, List.length_nil, List.extract_toArray, List.extract_eq_take_drop, Nat.reduceAdd, Nat.reduceSub, Nat.reduceLeDiff, if_true, List.drop_zero, List.take_succ_cons, List.take_zero, List.drop_succ_cons, drew_heap, un_lenR und57 hx3.row]
            have := hput w3 hk3 (by simp [putAt, hc, hfi])
            simpa [putAt, hc, hfi] using this
          | some i =>
            have e : idx (fun x => !x.ch) x.q = (i : Int) := by simp [idx, hfi]
            have e1 : decide (idx (fun x => !x.ch) x.q < 0) = false := by rw [e, decide_eq_false_iff_not]; omega
            simp only [e1, ↓uL.1]
            rw [e]
            have hlt : i < x.q.length := (List.findIdx?_eq_some_iff_getElem.1 hfi).1
            have := hput w3 hk3 (by simp [putAt, hc, hfi]; omega)
            simpa [putAt, hc, hfi] using this
      · simp only [hg, if_true] at h
        simp only [↓uL.1, F6_s15, F6_s15_t]
        refine ⟨fun w' => w'.heap[x.bx]? = some (.cells #[.map (some x.bh), x.qv] 58 (0, 0)) ∧ w'.heap[w.heap.size]? = some (.cells #[.int .i64 t, .int .i64 nm, .bool ch] 61 (0, 0)), ⟨hx2.cell, hbox2⟩, ?_⟩
        refine HN_nil (HV_field (off := 0) (by kernel_rfl) (HV_load1 (v := .map (some x.bh)) (by kernel_rfl) (fun w hw => by rw [hw.1]; rfl) (HV_field (off := 1) (by kernel_rfl) (HV_load1 (v := .int .i64 nm) (by kernel_rfl) (fun w hw => by rw [hw.2]; rfl) ?_))))
        have htd : TabAt w2.drew T := ht2.keep0 (Keep.refl _ w2).drew
        have hxd := htd.ths _ hmem
        refine uu_updI hxd.map und35 fun ob hob => ?_
        rw [aset_hv] at hob
        have hA3 := After.upd htd hf ((Keep.refl _ w2.drew).put (b := x.bh) (o := ob) (fun _ => .inr (.inl rfl))) (hxd.sethv hob) rfl rfl (.inl rfl)
        have hAd := After.of0 ht ((hka.trans hk2 (fun _ _ h => h)).drew)
        exact h _ _ (hAd.trans hA3)
    -- the question itself
    have tail : ∀ c : Bool, c = (ch || x.q.isEmpty) → (Gk (.bool c) true (fun k => k (ptr x.bx) w1) w1 fun v70 w_1 => Gk (.bool c) true (fun k => uv Tryz.prog R (Instr.loadAt 61 (ptr w.heap.size)) w_1 k) w_1 fun v71 w_2 => Gk (.bool c) true (fun k => un Tryz.prog R (callFunc 19 #[v70, v71]) w_2 k) w_2 fun v72 w_3 => F6_s8 R (ptr T.bt) (.int .i64 t) (.string r) (ptr x.bx) (ptr w.heap.size) (if c = true then v72 else .bool false) w_3) := by
      intro c hc
      rw [← hc] at rest
      cases c
      · simp only [↓uL.1, Bool.false_eq_true, if_false]
        have := rest w1 (Keep.refl _ w1)
        simpa only [Bool.false_and] using this
      · simp only [↓uL.1, if_true, hbox, tL.1, cellIn_cells, frzIn_00, setIn_cells, cellsIn_cells, List.getElem?_toArray, List.getElem?_cons_zero, List.getElem?_cons_succ, Option.isSome_some, Option.getD_some, Nat.zero_add, Nat.add_zero, List.setIfInBounds_toArray, List.set_cons_zero, List.set_cons_succ, put_same, add_new, add_old, oneV, Value.cells, List.size_toArray, List.length_cons, List.length_nil, List.extract_toArray, List.extract_eq_take_drop, Nat.reduceAdd, Nat.reduceSub, Nat.reduceLeDiff, if_true, List.drop_zero, List.take_succ_cons, List.take_zero, List.drop_succ_cons, drew_heap]
        refine un_enter (enters Tryz.func19 (by kernel_rfl) (by kernel_rfl) _ _) (can_c x t nm ch w1 hx1 _ fun w2 hk2 => ?_)
        have := rest w2 hk2
        simpa only [Bool.true_and] using this
    have hlen0 : ((x.q.length : Int) == 0) = x.q.isEmpty := by
      cases x.q with
      | nil => rfl
      | cons y q =>
        have : ¬ (((y :: q).length : Int) = 0) := by simp only [List.length_cons]; omega
        simpa using this
    cases hc : ch
    · simp only [↓uL.1, tL.1, cellIn_cells, frzIn_00, setIn_cells, cellsIn_cells, List.getElem?_toArray, List.getElem?_cons_zero, List.getElem?_cons_succ, Option.isSome_some, Option.getD_some, Nat.zero_add, Nat.add_zero, List.setIfInBounds_toArray, List.set_cons_zero, List.set_cons_succ, put_same, add_new, add_old, oneV, Value.cells, List.size_toArray, List.length_cons, List.length_nil, List.extract_toArray, List.extract_eq_take_drop, Nat.reduceAdd, Nat.reduceSub, Nat.reduceLeDiff, if_true, List.drop_zero, List.take_succ_cons, List.take_zero, List.drop_succ_cons, drew_heap, hx1.cell, un_lenR und57 hx1.row, Bool.false_eq_true, if_false, hlen0]
      exact tail _ (by rw [hc]; rfl)
    · have := tail true (by rw [hc]; rfl)
      simp only [↓uL.1, if_true] at this ⊢
      exact this
  · simp only [hsame, if_true] at h
    simp only [↓uL.1, F6_s16, F6_s16_t]
    exact h _ _ hA1

theorem ask_c (T : Tab) (r : ByteArray) (t m : Int) (w : World) (ht : TabAt w T) (hbig : ∀ p ∈ T.things, p.2.q.length ≤ 1099511627776) (R : Ending → World → Prop)
    (h : ∀ w' T', After T w w' T' (ask T.abs t r m).2 → R (.returned (.int .i64 (ask T.abs t r m).1)) w') :
    Calls Tryz.prog 6 #[ptr T.bt, .int .i64 t, .string r, .int .i64 m] w R := by
  apply F6_calls
  have hA0 := After.of0 ht (Keep.refl (fun _ => False) w)
  have hgw : (pget T.abs.waits t).isSome = (fndW T.waits t).isSome := by
    show (pget (absW T.waits) t).isSome = _
    rw [absW_get, Option.isSome_map]
  have hgt : pget T.abs.things r = (fndT T.things r).map fun x => (x.hv, x.q) := absT_get T.things r
  unfold ask at h
  rw [hgw, hgt] at h
  simp only [F6_s1, F6_s1_t]
  refine un_enter (enters Tryz.func17 (by kernel_rfl) (by kernel_rfl) _ _) (right_c _ _ _ ?_)
  simp only [↓uL.1]
  generalize hrt : (!decide (1 ≤ m ∧ m ≤ 6)) = bad at h ⊢
  have rest : F6_s2 R (ptr T.bt) (.int .i64 t) (.string r) (.int .i64 m) (.bool (bad || (fndW T.waits t).isSome)) w := by
    simp only [F6_s2]
    cases hb : (bad || (fndW T.waits t).isSome)
    · simp only [hb, Bool.false_eq_true, if_false] at h
      simp only [↓uL.1, F6_s3, F6_s3_t, tL.1, cellIn_cells, frzIn_00, setIn_cells, cellsIn_cells, List.getElem?_toArray, List.getElem?_cons_zero, List.getElem?_cons_succ, Option.isSome_some, Option.getD_some, Nat.zero_add, Nat.add_zero, List.setIfInBounds_toArray, List.set_cons_zero, List.set_cons_succ, put_same, add_new, add_old, oneV, Value.cells, List.size_toArray, List.length_cons, List.length_nil, List.extract_toArray, List.extract_eq_take_drop, Nat.reduceAdd, Nat.reduceSub, Nat.reduceLeDiff, if_true, List.drop_zero, List.take_succ_cons, List.take_zero, List.drop_succ_cons, drew_heap, ht.cell, uv_lookS ht.mapT und50 zer56, aget_things, F6_s4]
      cases hx : fndT T.things r with
      | some x =>
        simp only [hx, Option.map_some] at h
        simp only [Option.map_some, ↓uL.1, tL.1, cellIn_cells, frzIn_00, setIn_cells, cellsIn_cells, List.getElem?_toArray, List.getElem?_cons_zero, List.getElem?_cons_succ, Option.isSome_some, Option.getD_some, Nat.zero_add, Nat.add_zero, List.setIfInBounds_toArray, List.set_cons_zero, List.set_cons_succ, put_same, add_new, add_old, oneV, Value.cells, List.size_toArray, List.length_cons, List.length_nil, List.extract_toArray, List.extract_eq_take_drop, Nat.reduceAdd, Nat.reduceSub, Nat.reduceLeDiff, if_true, List.drop_zero, List.take_succ_cons, List.take_zero, List.drop_succ_cons, drew_heap, Option.isNone_some]
        exact ask2_c T r x t m w ht hx (hbig _ (pget_mem hx)) R h
      | none =>
        simp only [hx, Option.map_none] at h
        simp only [Option.map_none, Option.getD_none, Option.isNone_none, ↓uL.1, tL.1, F6_s17, F6_s17_t, uv_eq (bldT _ _), Value.cells]
        have hka : Keep0 w (World.add (World.add w (.map #[] 0)) (.cells #[.map (some w.heap.size), .slice none 0 0] 58)) := ((Keep.refl _ w).add).add
        have ht1 := ht.keep0 hka
        have hmp : (World.add (World.add w (.map #[] 0)) (.cells #[.map (some w.heap.size), .slice none 0 0] 58)).heap[w.heap.size]? = some (.map #[] 0) := by rw [add_old (by rw [add_new]; rfl), add_new]
        have hbx : (World.add (World.add w (.map #[] 0)) (.cells #[.map (some w.heap.size), .slice none 0 0] 58)).heap[w.heap.size + 1]? = some (.cells #[.map (some w.heap.size), .slice none 0 0] 58 (0, 0)) := by
          have := add_new (w := World.add w (.map #[] 0)) (o := .cells #[.map (some w.heap.size), .slice none 0 0] 58)
          rwa [hadd_size] at this
        simp only [hadd_size]
        generalize World.add (World.add w (.map #[] 0)) (.cells #[.map (some w.heap.size), .slice none 0 0] 58) = w1 at *
        simp only [↓uL.1, tL.1, cellIn_cells, frzIn_00, setIn_cells, cellsIn_cells, List.getElem?_toArray, List.getElem?_cons_zero, List.getElem?_cons_succ, Option.isSome_some, Option.getD_some, Nat.zero_add, Nat.add_zero, List.setIfInBounds_toArray, List.set_cons_zero, List.set_cons_succ, put_same, add_new, add_old, oneV, Value.cells, List.size_toArray, List.length_cons, List.length_nil, List.extract_toArray, List.extract_eq_take_drop, Nat.reduceAdd, Nat.reduceSub, Nat.reduceLeDiff, if_true, List.drop_zero, List.take_succ_cons, List.take_zero, List.drop_succ_cons, drew_heap, ht1.cell]
        refine uu_updS ht1.mapT und50 fun o ho => ?_
        have hgT := ht.lt (b := T.bT) (.inr (.inl rfl))
        have hx1 : ThAt (World.put w1 T.bT o) ⟨w.heap.size + 1, w.heap.size, .slice none 0 0, [], []⟩ := by
          refine ⟨by rw [put_ne (by show T.bT ≠ w.heap.size + 1; omega)]; exact hbx, by rw [put_ne (by show T.bT ≠ w.heap.size; omega), hmp]; exact MapK.empty _, Row.nil⟩
        have e := aset_map (fun x : Th => ptr x.bx) T.things r ⟨w.heap.size + 1, w.heap.size, .slice none 0 0, [], []⟩
        have ho' : MapS undS (some o) ((pset T.things r ⟨w.heap.size + 1, w.heap.size, .slice none 0 0, [], []⟩).map fun p => (p.1, ptr p.2.bx)) := by rw [← e]; exact ho
        have hltT := MapK_lt ht1.mapT
        have hk1 : Keep (fun b => b = T.bT) w (World.put w1 T.bT o) := (hka.mono fun _ _ h => h.elim).put (fun _ => rfl)
        have ht2 := ht.addT hx hk1 (by rw [put_same (by rw [Array.getElem?_eq_getElem hltT]; rfl)]; exact ho') hx1 (Nat.le_succ _) (Nat.le_refl _) rfl
        have hA : After T w (World.put w1 T.bT o) { T with things := pset T.things r ⟨w.heap.size + 1, w.heap.size, .slice none 0 0, [], []⟩ } { T.abs with things := pset T.abs.things r ([], []) } := by
          refine ⟨ht2, rfl, by simp only [Tab.abs, absT_set], hk1.mono fun b _ hb => .inr (.inl hb), ?_⟩
          intro b hb
          rcases hb with hb | hb | hb | ⟨p, hp, hb⟩ | hb
          · exact .inl (.inl hb)
          · exact .inl (.inr (.inl hb))
          · exact .inl (.inr (.inr (.inl hb)))
          · rcases pset_mem hp with rfl | hp
            · rcases hb with rfl | rfl | hb
              · exact .inr (Nat.le_succ _)
              · exact .inr (Nat.le_refl _)
              · cases hb
            · exact .inl (.inr (.inr (.inr (.inl ⟨p, hp, hb⟩))))
          · exact .inl (.inr (.inr (.inr (.inr hb))))
        refine ask2_c _ r ⟨w.heap.size + 1, w.heap.size, .slice none 0 0, [], []⟩ t m _ ht2 pget_pset_same (by simp) R fun w' T' hA' => ?_
        rw [hA.abs] at hA'
        have := h w' T' (hA.trans hA')
        rw [hA.abs]
        exact this
    · simp only [hb, if_true] at h
      simp only [↓uL.1, F6_s18, F6_s18_t]
      exact h _ _ hA0
  cases bad
  · simp only [↓uL.1, tL.1, cellIn_cells, frzIn_00, setIn_cells, cellsIn_cells, List.getElem?_toArray, List.getElem?_cons_zero, List.getElem?_cons_succ, Option.isSome_some, Option.getD_some, Nat.zero_add, Nat.add_zero, List.setIfInBounds_toArray, List.set_cons_zero, List.set_cons_succ, put_same, add_new, add_old, oneV, Value.cells, List.size_toArray, List.length_cons, List.length_nil, List.extract_toArray, List.extract_eq_take_drop, Nat.reduceAdd, Nat.reduceSub, Nat.reduceLeDiff, if_true, List.drop_zero, List.take_succ_cons, List.take_zero, List.drop_succ_cons, drew_heap, ht.cell, uv_lookI ht.mapW und51 zer55, aget_waits, Bool.false_eq_true, if_false]
    simp only [Bool.false_or] at rest
    cases hfw : fndW T.waits t with
    | none =>
      rw [hfw] at rest
      simp only [Option.map_none, Option.getD_none, ↓uL.1, tL.1]
      exact rest
    | some s =>
      rw [hfw] at rest
      simp only [Option.map_some, Option.getD_some, ↓uL.1, tL.1]
      exact rest
  · simp only [↓uL.1, if_true]
    simp only [Bool.true_or] at rest
    exact rest
end Go.Proofs.YtpghlemcgjogpaaGreat
