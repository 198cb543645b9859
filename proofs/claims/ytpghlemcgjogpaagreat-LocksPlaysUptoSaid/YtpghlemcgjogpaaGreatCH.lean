/- Drop. -/
import Derived.Test.YtpghlemcgjogpaaGreatCK
import Derived.Test.YtpghlemcgjogpaaGreatCG
set_option linter.unusedVariables false
set_option linter.unusedSimpArgs false
set_option linter.unnecessarySimpa false
set_option maxRecDepth 100000
namespace Go.Proofs.YtpghlemcgjogpaaGreat
open Go.Sx

/-- Sizes that nothing runs over. -/
structure Small (A : Abs) : Prop where
  nd : (A.things.map (·.1)).Nodup
  ks : ∀ p ∈ A.things, p.1.size ≤ maxLen
  n : A.things.length ≤ 1048576
  q : ∀ p ∈ A.things, p.2.2.length ≤ 1048576
  hvnd : ∀ p ∈ A.things, (p.2.1.map (·.1)).Nodup
  hvin : ∀ p ∈ A.things, ∀ e ∈ p.2.1, (Lit.int .i64 e.1).wf = true
  hvn : ∀ p ∈ A.things, p.2.1.length ≤ 1048576
theorem servF_map {β γ : Type} (f : β → γ) (hv : List (Int × Int)) (W : List (Int × β)) (q : List Wi) :
    servF hv (W.map fun p => (p.1, f p.2)) q = ⟨(servF hv W q).hv, (servF hv W q).q, (servF hv W q).W.map fun p => (p.1, f p.2), (servF hv W q).out⟩ := by
  induction q generalizing hv W with
  | nil => rfl
  | cons x q ih =>
    simp only [servF]
    split
    · rw [← pdel_map, ih]
    · rfl
theorem servF_len {β : Type} (hv : List (Int × Int)) (W : List (Int × β)) (q : List Wi) : (servF hv W q).out.length + (servF hv W q).q.length = q.length := by
  induction q generalizing hv W with
  | nil => rfl
  | cons x q ih =>
    simp only [servF]
    split
    · have := ih (pset hv x.txn x.mode) (pdel W x.txn)
      simp only [List.length_cons]; omega
    · simp
theorem servF_sub {β : Type} (hv : List (Int × Int)) (W : List (Int × β)) (q : List Wi) : ∀ p ∈ (servF hv W q).W, p ∈ W := by
  induction q generalizing hv W with
  | nil => exact fun _ h => h
  | cons x q ih =>
    simp only [servF]
    split
    · exact fun p hp => pdel_sub.subset (ih _ _ p hp)
    · exact fun _ h => h

/-- One thing, dropped: by whom; for what he waits. -/
def dropAt (t : Int) (at' : Option ByteArray) (s : List Int × Abs) (r : ByteArray) : List Int × Abs :=
  match pget s.2.things r with
  | none => s
  | some x =>
    if (!(pget x.1 t).isSome && !decide (at' = some r)) = true then s else
    let sv := servF (pdel x.1 t) s.2.waits (x.2.filter fun y => !(y.txn == t))
    (s.1 ++ sv.out, ⟨if sv.hv.isEmpty = true then pdel (pset s.2.things r (sv.hv, sv.q)) r else pset s.2.things r (sv.hv, sv.q), sv.W⟩)
def dropF (A : Abs) (t : Int) : List Int × Abs :=
  (sortS (A.things.map (·.1))).foldl (dropAt t (pget A.waits t)) ([], { A with waits := pdel A.waits t })

theorem pget_pdel_ne {κ β : Type} [DecidableEq κ] {l : List (κ × β)} {k k' : κ} (h : k ≠ k') : pget (pdel l k) k' = pget l k' := by
  induction l with
  | nil => rfl
  | cons p l ih =>
    simp only [pdel]
    split
    · rename_i e; simp [pget, e, h]
    · simp only [pget]; rw [ih]
theorem sortS_perm (ks : List ByteArray) : (sortS ks).Perm ks := by
  unfold sortS
  have h := (List.mergeSort_perm (ks.map fun s => s.data.toList) Go.leB).map fun x => (⟨x.toArray⟩ : ByteArray)
  refine h.trans (List.Perm.of_eq ?_)
  simp [List.map_map, Function.comp_def]
/-- A thing goes. -/
theorem After.delT {w : World} {T : Tab} {r : ByteArray} {o : Obj} (h : TabAt w T) (ho : MapS undS (some o) (adel (T.things.map fun p => (p.1, ptr p.2.bx)) r)) :
    After T w (World.put w T.bT o) { T with things := pdel T.things r } { T.abs with things := pdel T.abs.things r } := by
  have e := adel_map (fun x : Th => ptr x.bx) T.things r
  have ho' : MapS undS (some o) ((pdel T.things r).map fun p => (p.1, ptr p.2.bx)) := by rw [← e]; exact ho
  have hltT := MapK_lt h.mapT
  have hk : Keep (fun b => b = T.bT) w (World.put w T.bT o) := (Keep.refl _ w).put fun _ => rfl
  have hsub : ∀ p ∈ pdel T.things r, p ∈ T.things := fun p hp => pdel_sub.subset hp
  refine ⟨⟨?_, by rw [put_same (by rw [Array.getElem?_eq_getElem hltT]; rfl)]; exact ho', ?_, ?_, ?_, h.neTW, fun p hp => h.neH p (hsub p hp), h.apart.sublist pdel_sub, h.sp⟩, rfl, by simp only [Tab.abs, absT_del], hk.mono fun b _ hb => .inr (.inl hb), ?_⟩
  · exact hk.at h.cell fun hb => by
      obtain ⟨es, cl, he, _⟩ := h.mapT
      have := h.cell
      rw [hb, he] at this; cases this
  · rw [hk.keep _ (h.lt (.inr (.inr (.inl rfl)))) (fun hb => h.neTW hb.symm)]; exact h.mapW
  · exact fun p hp => (h.ths p (hsub p hp)).keep hk fun b hb hb' => (h.th_sep (hsub p hp) hb).2.1 hb'
  · intro p hp
    exact hk.at (h.spots p hp) fun hb => by
      obtain ⟨es, cl, he, _⟩ := h.mapT
      have := h.spots p hp
      rw [hb, he] at this; cases this
  · intro b hb
    rcases hb with hb | hb | hb | ⟨p, hp, hb⟩ | hb
    · exact .inl (.inl hb)
    · exact .inl (.inr (.inl hb))
    · exact .inl (.inr (.inr (.inl hb)))
    · exact .inl (.inr (.inr (.inr (.inl ⟨p, hsub p hp, hb⟩))))
    · exact .inl (.inr (.inr (.inr (.inr hb))))
/-- A wait goes. -/
theorem After.delW {w : World} {T : Tab} {t : Int} {o : Obj} (h : TabAt w T) (ho : MapI undI (some o) (adel (T.waits.map fun p => (p.1, ptr p.2.1)) t)) :
    After T w (World.put w T.bW o) { T with waits := pdel T.waits t } { T.abs with waits := pdel T.abs.waits t } := by
  have e := adel_map (fun p : Nat × ByteArray => ptr p.1) T.waits t
  have ho' : MapI undI (some o) ((pdel T.waits t).map fun p => (p.1, ptr p.2.1)) := by rw [← e]; exact ho
  have hltW := MapK_lt h.mapW
  have hk : Keep (fun b => b = T.bW) w (World.put w T.bW o) := (Keep.refl _ w).put fun _ => rfl
  refine ⟨h.updW hk (by rw [put_same (by rw [Array.getElem?_eq_getElem hltW]; rfl)]; exact ho') (fun p hp => hk.at (h.spots p (pdel_sub.subset hp)) fun hb => by
      obtain ⟨es, cl, he, _⟩ := h.mapW
      have := h.spots p (pdel_sub.subset hp)
      rw [hb, he] at this; cases this) (h.sp.sublist pdel_sub), rfl, by simp only [Tab.abs, absW_del], hk.mono fun b _ hb => .inr (.inr (.inl hb)), ?_⟩
  intro b hb
  rcases hb with hb | hb | hb | hb | ⟨p, hp, rfl⟩
  · exact .inl (.inl hb)
  · exact .inl (.inr (.inl hb))
  · exact .inl (.inr (.inr (.inl hb)))
  · exact .inl (.inr (.inr (.inr (.inl hb))))
  · exact .inl (.inr (.inr (.inr (.inr ⟨p, pdel_sub.subset hp, rfl⟩))))
/-- A wait that went: its spot is none of the table's any more. -/
theorem spot_free {w : World} {T : Tab} {t : Int} {s : Nat × ByteArray} (h : TabAt w T) (hs : pget T.waits t = some s) : ¬ ({ T with waits := pdel T.waits t } : Tab).foot s.1 := by
  have hm := pget_mem hs
  have hsp := h.spots _ hm
  simp only [] at hsp
  rintro (hb | hb | hb | ⟨p, hp, hb⟩ | ⟨p, hp, hb⟩)
  · have := h.cell
    simp only [] at hb
    rw [← hb, hsp] at this
    simp only [Option.some.injEq, Obj.cells.injEq] at this
    exact absurd this.2.1 (by decide)
  · obtain ⟨es, cl, he, _⟩ := h.mapT
    simp only [] at hb
    rw [← hb, hsp] at he; cases he
  · obtain ⟨es, cl, he, _⟩ := h.mapW
    simp only [] at hb
    rw [← hb, hsp] at he; cases he
  · exact (h.th_sep hp hb).2.2.2 _ hm rfl
  · obtain ⟨l1, l2, e1, _, e3, _⟩ := pget_split hs
    have hpw := h.sp
    rw [e1, List.pairwise_append, List.pairwise_cons] at hpw
    simp only [e3, List.mem_append] at hp
    rcases hp with hp | hp
    · exact hpw.2.2 p hp _ List.mem_cons_self hb.symm
    · exact hpw.2.1.1 p hp hb

theorem within_upd {T : Tab} {r : ByteArray} {x x' : Th} {W' : List (Int × Nat × ByteArray)} (hf : fndT T.things r = some x) (h1 : x'.bx = x.bx) (h2 : x'.bh = x.bh) (h3 : rowB x'.qv = rowB x.qv) (hW : ∀ p ∈ W', p ∈ T.waits)
    (b : Nat) (hb : ({ T with things := pset T.things r x', waits := W' } : Tab).foot b) : T.foot b := by
  rcases hb with hb | hb | hb | ⟨p, hp, hb⟩ | ⟨p, hp, hb⟩
  · exact .inl hb
  · exact .inr (.inl hb)
  · exact .inr (.inr (.inl hb))
  · rcases pset_mem hp with rfl | hp
    · refine .inr (.inr (.inr (.inl ⟨_, pget_mem hf, ?_⟩)))
      rcases hb with hb | hb | hb
      · exact .inl (hb.trans h1)
      · exact .inr (.inl (hb.trans h2))
      · exact .inr (.inr (h3 ▸ hb))
    · exact .inr (.inr (.inr (.inl ⟨p, hp, hb⟩)))
  · exact .inr (.inr (.inr (.inr ⟨p, hW p hp, hb⟩)))
theorem un_lenM {P : Program} {R : Ending → World → Prop} {w : World} {mt kt et b : Nat} {κ : Type} [DecidableEq κ] {K : KeyK P kt κ} {l : List (κ × Value)} {ty : TypeId} {cs : Array Bool} {k : Value → World → Prop} (hm : P.underlying mt = some (.map kt et)) (h : MapK K (w.heap[b]?) l) :
    un P R (builtin .len #[mt] ty cs #[.map (some b)]) w k = k (.int .i64 l.length) w := by
  obtain ⟨es, clock, hb, hes, _⟩ := h
  have hl : es.size = l.length := by simpa using congrArg List.length hes
  exact un_eq (run_builtin .len Builtin.len_ (fun _ _ _ _ => rfl) (by simp [Builtin.len_, underlying, hm, getObj, Sem.run, hb, goInt, hl, go_sem]))

theorem servF_abs (hv : List (Int × Int)) (W : List (Int × Nat × ByteArray)) (q : List Wi) : servF hv (absW W) q = ⟨(servF hv W q).hv, (servF hv W q).q, absW (servF hv W q).W, (servF hv W q).out⟩ := servF_map (fun p : Nat × ByteArray => p.2) hv W q

/-- One round of Drop: what it does at a thing. -/
theorem dropX_c (T : Tab) (bt : Nat) (hbt : T.bt = bt) (t : Int) (r : ByteArray) (x : Th) (w : World) (ht : TabAt w T) (hf : fndT T.things r = some x) (hq : x.q.length ≤ 1048576) (c : Nat) (hc : w.heap[c]? = some (.cells #[.int .i64 t] 3 (0, 0))) (hcf : ¬ T.foot c)
    (base : Nat) (hbase : ∀ b, T.foot b → b < base) (hbw : base ≤ w.heap.size) (v4 : Value) (outs : List Int) (hro : RowI w v4 outs) (hfr : ∀ g, rowB v4 = some g → base ≤ g) (hol : outs.length ≤ 1099511627776) (R : Ending → World → Prop) (rec4 : Value → Value → World → Prop) (v5 v27 v28 v29 : Value)
    (h : ∀ v w' T', TabAt w' T' → T'.bt = T.bt → T'.abs = ⟨if (servF (pdel x.hv t) T.abs.waits (x.q.filter fun y => !(y.txn == t))).hv.isEmpty = true then pdel (pset T.abs.things r ((servF (pdel x.hv t) T.abs.waits (x.q.filter fun y => !(y.txn == t))).hv, (servF (pdel x.hv t) T.abs.waits (x.q.filter fun y => !(y.txn == t))).q)) r
          else pset T.abs.things r ((servF (pdel x.hv t) T.abs.waits (x.q.filter fun y => !(y.txn == t))).hv, (servF (pdel x.hv t) T.abs.waits (x.q.filter fun y => !(y.txn == t))).q), (servF (pdel x.hv t) T.abs.waits (x.q.filter fun y => !(y.txn == t))).W⟩ →
      (∀ b, T'.foot b → T.foot b) → Keep (fun b => T.foot b ∨ base ≤ b) w w' → RowI w' v (outs ++ (servF (pdel x.hv t) T.abs.waits (x.q.filter fun y => !(y.txn == t))).out) → (∀ g, rowB v = some g → base ≤ g) →
      F9_s8 R rec4 (ptr bt) (ptr c) v v5 v27 v28 v29 w') :
    F9_s11 R rec4 (ptr bt) (ptr c) v4 v5 (.string r) (ptr x.bx) v27 v28 v29 w := by
  subst hbt
  have hmx : 4398046511104 ≤ maxLen := by decide
  have hmem : (r, x) ∈ T.things := pget_mem hf
  have hx := ht.ths _ hmem
  simp only [F9_s11, F9_s11_t]
  refine ⟨fun w' => w'.heap[x.bx]? = some (.cells #[.map (some x.bh), x.qv] 58 (0, 0)) ∧ w'.heap[c]? = some (.cells #[.int .i64 t] 3 (0, 0)), ⟨hx.cell, hc⟩, ?_⟩
  refine HN_nil (HV_field (off := 0) (by kernel_rfl) (HV_load1 (v := .map (some x.bh)) (by kernel_rfl) (fun w hw => by rw [hw.1]; rfl) (HV_load1 (v := .int .i64 t) (by kernel_rfl) (fun w hw => by rw [hw.2]; rfl) ?_)))
  have htd : TabAt w.drew T := ht.keep0 (Keep.refl _ w).drew
  have hxd := htd.ths _ hmem
  refine un_delI hxd.map und35 fun ob hob => ?_
  rw [adel_hv] at hob
  have hx1 := hxd.sethv hob
  have ht1 := htd.upd hf ((Keep.refl _ w.drew).put (b := x.bh) (o := ob) (fun _ => .inr (.inl rfl))) hx1 rfl rfl (.inl rfl)
  have hbhf : T.foot x.bh := .inr (.inr (.inr (.inl ⟨_, hmem, .inr (.inl rfl)⟩)))
  have hbxf : T.foot x.bx := .inr (.inr (.inr (.inl ⟨_, hmem, .inl rfl⟩)))
  have hrwf : ∀ b, rowB x.qv = some b → T.foot b := fun b hb => .inr (.inr (.inr (.inl ⟨_, hmem, .inr (.inr hb)⟩)))
  have hk1 : Keep T.foot w (World.put w.drew x.bh ob) := ((Keep.refl T.foot w).drew).put (fun _ => hbhf)
  generalize World.put w.drew x.bh ob = w1 at *
  simp only [↓uL.1, tL.1, cellIn_cells, frzIn_00, setIn_cells, cellsIn_cells, List.getElem?_toArray, List.getElem?_cons_zero, List.getElem?_cons_succ, Option.isSome_some, Option.getD_some, Nat.zero_add, Nat.add_zero, List.setIfInBounds_toArray, List.set_cons_zero, List.set_cons_succ, put_same, add_new, add_old, oneV, Value.cells, List.size_toArray, List.length_cons, List.length_nil, List.extract_toArray, List.extract_eq_take_drop, Nat.reduceAdd, Nat.reduceSub, Nat.reduceLeDiff, if_true, List.drop_zero, List.take_succ_cons, List.take_zero, List.drop_succ_cons, drew_heap, hx1.cell, uv_func]
  have hc1 := hk1.at hc hcf
  have hcr : ¬ rowB x.qv = some c := fun e => hcf (hrwf c e)
  refine un_enter (enters Tryz.func32 (by kernel_rfl) (by kernel_rfl) _ _) (deleteFunc_c _ x.qv (fun y => y.txn == t) x.q w1 hx1.row (testsD _ _ c t hc1 hcr) _ fun v2 w2 hr2 hk2 hv2 => ?_)
  have hx1c := hx1.cell
  simp only [] at hx1c
  have hnx : ¬ rowB x.qv = some x.bx := fun hv => by
    obtain ⟨cc, hcc⟩ := row_block hx.row hv
    rw [hx.cell] at hcc
    simp only [Option.some.injEq, Obj.cells.injEq] at hcc
    exact absurd hcc.2.1 (by decide)
  have hnh : ¬ rowB x.qv = some x.bh := fun hv => by
    obtain ⟨cc, hcc⟩ := row_block hx.row hv
    obtain ⟨es, cl, he, _⟩ := hx.map
    rw [he] at hcc; cases hcc
  have hcell2 := hk2.at hx1c hnx
  have hone : oneV v2 = true := by obtain ⟨a, cc, rfl⟩ := hr2.len; rfl
  simp only [↓uL.1, tL.1, cellIn_cells, frzIn_00, setIn_cells, cellsIn_cells, List.getElem?_toArray, List.getElem?_cons_zero, List.getElem?_cons_succ, Option.isSome_some, Option.getD_some, Nat.zero_add, Nat.add_zero, List.setIfInBounds_toArray, List.set_cons_zero, List.set_cons_succ, put_same, add_new, add_old, oneV, Value.cells, List.size_toArray, List.length_cons, List.length_nil, List.extract_toArray, List.extract_eq_take_drop, Nat.reduceAdd, Nat.reduceSub, Nat.reduceLeDiff, if_true, List.drop_zero, List.take_succ_cons, List.take_zero, List.drop_succ_cons, drew_heap]
  rw [uu_store1 (by kernel_rfl) (by kernel_rfl) hone (by rw [hcell2]; rfl) (by rw [hcell2]; rfl), hcell2]
  simp only [cellIn_cells, frzIn_00, setIn_cells, cellsIn_cells, List.getElem?_toArray, List.getElem?_cons_zero, List.getElem?_cons_succ, Option.isSome_some, Option.getD_some, Nat.zero_add, Nat.add_zero, List.setIfInBounds_toArray, List.set_cons_zero, List.set_cons_succ, put_same, add_new, add_old, oneV, Value.cells, List.size_toArray, List.length_cons, List.length_nil, List.extract_toArray, List.extract_eq_take_drop, Nat.reduceAdd, Nat.reduceSub, Nat.reduceLeDiff, if_true, List.drop_zero, List.take_succ_cons, List.take_zero, List.drop_succ_cons, drew_heap]
  have hx3 : ThAt (World.put w2 x.bx (.cells #[.map (some x.bh), v2] 58 (0, 0))) { x with hv := pdel x.hv t, qv := v2, q := x.q.filter fun y => !(y.txn == t) } := by
    have hne : x.bx ≠ x.bh := by
      intro e
      obtain ⟨es, cl, he, _⟩ := hx.map
      rw [← e, hx.cell] at he; cases he
    refine ⟨put_same (by rw [hcell2]; rfl), ?_, hr2.congr fun g hg => put_ne fun e => ?_⟩
    · rw [put_ne hne, hk2.keep _ (MapK_lt hx1.map) hnh]
      exact hx1.map
    · rw [hv2] at hg
      exact hnx (by rw [e]; exact hg)
  have hf1 : fndT (pset T.things r { x with hv := pdel x.hv t }) r = some { x with hv := pdel x.hv t } := pget_pset_same
  have hk3 : Keep ({ x with hv := pdel x.hv t } : Th).foot w1 (World.put w2 x.bx (.cells #[.map (some x.bh), v2] 58 (0, 0))) := (hk2.mono (fun b _ hb => .inr (.inr hb))).put (fun _ => .inl rfl)
  have ht3 := ht1.upd hf1 hk3 hx3 rfl rfl (.inl hv2)
  rw [pset_pset] at ht3
  have hk03 : Keep T.foot w (World.put w2 x.bx (.cells #[.map (some x.bh), v2] 58 (0, 0))) := (hk1.trans hk2 (fun b _ hb => hrwf b hb)).put (fun _ => hbxf)
  generalize World.put w2 x.bx (.cells #[.map (some x.bh), v2] 58 (0, 0)) = w3 at *
  have hro3 : RowI w3 v4 outs := hro.keep hk03 (fun g hg hb => by have := hfr g hg; have := hbase g hb; omega)
  have hf3 : fndT (pset T.things r { x with hv := pdel x.hv t, qv := v2, q := x.q.filter fun y => !(y.txn == t) }) r = some { x with hv := pdel x.hv t, qv := v2, q := x.q.filter fun y => !(y.txn == t) } := pget_pset_same
  have hql : (x.q.filter fun y => !(y.txn == t)).length ≤ x.q.length := List.length_filter_le _ _
  refine un_enter (enters Tryz.func34 (by kernel_rfl) (by kernel_rfl) _ _) (serve_c _ r _ w3 ht3 hf3 (by simp only; omega) _ fun vs w4 x4 ht4 hb4 hh4 hhv4 hq4 hr4 hrs hfs hk4 => ?_)
  simp only [] at ht4 hb4 hh4 hhv4 hq4 hr4 hrs
  rw [pset_pset] at ht4
  have hwin : ∀ b, ({ T with things := pset T.things r x4, waits := (servF (pdel x.hv t) T.waits (x.q.filter fun y => !(y.txn == t))).W } : Tab).foot b → T.foot b := within_upd hf hb4 hh4 (hr4.trans hv2) (servF_sub _ _ _)
  have hwin3 : ∀ b, ({ T with things := pset T.things r { x with hv := pdel x.hv t, qv := v2, q := x.q.filter fun y => !(y.txn == t) } } : Tab).foot b → T.foot b := within_upd (W' := T.waits) hf rfl rfl hv2 (fun _ h => h)
  have hk04 : Keep T.foot w w4 := hk03.trans hk4 (fun b _ hb => hwin3 b hb)
  have hro4 : RowI w4 v4 outs := hro.keep hk04 (fun g hg hb => by have := hfr g hg; have := hbase g hb; omega)
  have hsl := servF_len (pdel x.hv t) T.waits (x.q.filter fun y => !(y.txn == t))
  simp only [↓uL.1]
  refine un_appendR apI (by decide) hro4 hrs (ints_one _) (by omega) (by omega) fun v5' w5 h5 hk5 hf5 => ?_
  have hs3 := hk03.size
  have hs4 := hk04.size
  have hfr5 : ∀ g, rowB v5' = some g → base ≤ g := by
    intro g hg
    rcases hf5 with e | ⟨g', e, hg'⟩
    · rw [e] at hg; exact hfr g hg
    · rw [e] at hg; cases hg; omega
  have ht5 := ht4.keep hk5 (fun b hb hv => by have := hfr b hv; have := hbase b (hwin b hb); omega)
  have hk05 : Keep (fun b => T.foot b ∨ base ≤ b) w w5 := (hk04.mono fun _ _ h => .inl h).trans hk5 (fun b _ hv => .inr (hfr b hv))
  have hro5 : RowI w5 v5' (outs ++ (servF (pdel x.hv t) T.waits (x.q.filter fun y => !(y.txn == t))).out) := by
    unfold RowI ints
    rw [List.length_append, List.map_append]
    exact h5
  have hx5 := ht5.ths _ (pget_mem (pget_pset_same (l := T.things) (k := r) (v := x4)))
  have hsa := servF_abs (pdel x.hv t) T.waits (x.q.filter fun y => !(y.txn == t))
  have hbx5 := hx5.cell
  rw [hb4] at hbx5
  simp only [] at hbx5
  have hl5 : (hvV x4.hv).length = (servF (pdel x.hv t) T.waits (x.q.filter fun y => !(y.txn == t))).hv.length := by rw [hhv4]; simp [hvV]
  simp only [↓uL.1, tL.1, cellIn_cells, frzIn_00, setIn_cells, cellsIn_cells, List.getElem?_toArray, List.getElem?_cons_zero, List.getElem?_cons_succ, Option.isSome_some, Option.getD_some, Nat.zero_add, Nat.add_zero, List.setIfInBounds_toArray, List.set_cons_zero, List.set_cons_succ, put_same, add_new, add_old, oneV, Value.cells, List.size_toArray, List.length_cons, List.length_nil, List.extract_toArray, List.extract_eq_take_drop, Nat.reduceAdd, Nat.reduceSub, Nat.reduceLeDiff, if_true, List.drop_zero, List.take_succ_cons, List.take_zero, List.drop_succ_cons, drew_heap, hbx5, un_lenM und35 hx5.map, hl5, F9_s12]
  have habsW : T.abs.waits = absW T.waits := rfl
  rw [habsW] at h
  simp only [hsa] at h
  have habs5 : ({ T with things := pset T.things r x4, waits := (servF (pdel x.hv t) T.waits (x.q.filter fun y => !(y.txn == t))).W } : Tab).abs = ⟨pset T.abs.things r ((servF (pdel x.hv t) T.waits (x.q.filter fun y => !(y.txn == t))).hv, (servF (pdel x.hv t) T.waits (x.q.filter fun y => !(y.txn == t))).q), absW (servF (pdel x.hv t) T.waits (x.q.filter fun y => !(y.txn == t))).W⟩ := by
    simp only [Tab.abs, absT_set, hhv4, hq4]
  generalize servF (pdel x.hv t) T.waits (x.q.filter fun y => !(y.txn == t)) = sv at *
  cases hem : sv.hv with
  | nil =>
    have e1 : (((0 : Nat) : Int) == 0) = true := rfl
    simp only [List.length_nil]
    simp only [e1, ↓uL.1, F9_s13, F9_s13_t]
    simp only [ht5.cell, ↓uL.1, tL.1, cellIn_cells, frzIn_00, setIn_cells, cellsIn_cells, List.getElem?_toArray, List.getElem?_cons_zero, List.getElem?_cons_succ, Option.isSome_some, Option.getD_some, Nat.zero_add, Nat.add_zero, List.setIfInBounds_toArray, List.set_cons_zero, List.set_cons_succ, put_same, add_new, add_old, oneV, Value.cells, List.size_toArray, List.length_cons, List.length_nil, List.extract_toArray, List.extract_eq_take_drop, Nat.reduceAdd, Nat.reduceSub, Nat.reduceLeDiff, if_true, List.drop_zero, List.take_succ_cons, List.take_zero, List.drop_succ_cons, drew_heap]
    refine un_delS ht5.mapT und50 fun ot hot => ?_
    have hA := After.delT ht5 hot
    have hbTf : T.foot T.bT := .inr (.inl rfl)
    have hro6 : RowI (World.put w5 T.bT ot) v5' (outs ++ sv.out) := hro5.congr fun g hg => put_ne fun e => by have := hfr5 g hg; have := hbase _ hbTf; omega
    rw [hem] at h
    refine h v5' _ _ hA.at' rfl ?_ (fun b hb => hwin b ?_) (hk05.put fun _ => .inl hbTf) hro6 hfr5
    · have := hA.abs
      rw [habs5, hem] at this
      simpa using this
    · rcases hb with hb | hb | hb | ⟨p, hp, hb⟩ | hb
      · exact .inl hb
      · exact .inr (.inl hb)
      · exact .inr (.inr (.inl hb))
      · exact .inr (.inr (.inr (.inl ⟨p, pdel_sub.subset hp, hb⟩)))
      · exact .inr (.inr (.inr (.inr hb)))
  | cons y l =>
    have e1 : (((l.length + 1 : Nat) : Int) == 0) = false := by
      have : ¬ (((l.length + 1 : Nat) : Int) = 0) := by omega
      simpa using this
    simp only [List.length_cons, e1, ↓uL.1]
    refine h v5' _ _ ht5 rfl ?_ hwin hk05 hro5 hfr5
    rw [habs5, hem]
    simp
end Go.Proofs.YtpghlemcgjogpaaGreat
