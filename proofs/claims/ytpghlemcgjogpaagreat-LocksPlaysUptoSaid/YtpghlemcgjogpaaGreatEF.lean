/- The document's table of locks: Ask. -/
import Derived.Test.YtpghlemcgjogpaaGreatEE
set_option linter.unusedVariables false
set_option linter.unusedSimpArgs false
set_option linter.unnecessarySimpa false
set_option maxRecDepth 100000
namespace Go.Proofs.YtpghlemcgjogpaaGreat
open Go.Sx

/-- What makes the lists fit for walking: modes that are modes, one wish each, sizes. -/
structure MG (B : Nat) (M : MT) : Prop where
  oh : okH M.H
  ow : ∀ x ∈ M.W, okM x.l.mode
  nd : (M.W.map (·.l.txn)).Nodup
  len : M.H.length + M.W.length ≤ B
theorem giveR_sub {H : List Lk} {l x : Lk} (h : x ∈ giveR H l) : x = l ∨ x ∈ H := by
  unfold giveR at h
  cases hf : H.findIdx? (keyB l) with
  | some i =>
    rw [hf] at h
    rcases List.mem_or_eq_of_mem_set h with h | h
    · exact .inr h
    · exact .inl h
  | none =>
    rw [hf] at h
    rcases List.mem_append.1 h with h | h
    · exact .inr (List.mem_of_mem_take h)
    · rcases List.mem_cons.1 h with h | h
      · exact .inl h
      · exact .inr (List.mem_of_mem_drop h)
theorem rRight_c (m : Int) (w : World) (R : Ending → World → Prop) (h : R (.returned (.bool (decide (1 ≤ m ∧ m ≤ 6)))) w) : Calls Tryz.prog 24 #[.int .i64 m] w R := by
  apply F24_calls
  simp only [F24_s1, F24_s1_t, ↓uL.1]
  by_cases h1 : m > 0
  · rw [decide_eq_true h1]
    simp only [↓uL.1, if_true]
    have e : decide (m < 7) = decide (1 ≤ m ∧ m ≤ 6) := by rw [decide_eq_decide]; omega
    rw [e]; exact h
  · rw [decide_eq_false h1]
    simp only [↓uL.1, Bool.false_eq_true, if_false]
    have e : decide (1 ≤ m ∧ m ≤ 6) = false := by rw [decide_eq_false_iff_not]; omega
    rw [← e]; exact h
theorem run_tupA0 {P : Program} {w : World} {a b : Value} : (Instr.extract (.tuple #[a, b]) 0).run P w = .ok a w := by simp [Instr.extract]
theorem run_tupA1 {P : Program} {w : World} {a b : Value} : (Instr.extract (.tuple #[a, b]) 1).run P w = .ok b w := by simp [Instr.extract]
theorem modeR_ok {H : List Lk} (h : okH H) (t : Int) (r : ByteArray) : okM (modeR H t r) := by
  unfold modeR
  cases hf : H.find? fun h => (h.txn == t) && decide (h.res = r) with
  | none => exact ⟨by decide, by decide⟩
  | some z => exact h z (List.mem_of_find?_eq_some hf)
theorem tAsk_c (M : MT) (B : Nat) (hB : B ≤ 1048576) (hG : MG B M) (t : Int) (r : ByteArray) (m : Int) (w : World) (hM : MTAt w M) (R : Ending → World → Prop)
    (h : ∀ w' M', MAfter M w w' M' → M'.H = (askR M.H M.W t r m).2.1 → M'.W = (askR M.H M.W t r m).2.2 → (∀ x ∈ M'.H, okM x.mode) → (∀ x ∈ M'.W, okM x.l.mode) → M'.H.length + M'.W.length ≤ B + 1 → R (.returned (.int .i64 (askR M.H M.W t r m).1)) w') :
    Calls Tryz.prog 7 #[ptr M.bm, .int .i64 t, .string r, .int .i64 m] w R := by
  apply F7_calls
  have hlen := hG.len
  simp only [F7_s1, F7_s1_t]
  refine un_enter (enters Tryz.func23 (by kernel_rfl) (by kernel_rfl) _ _) (tWish_c M t w hM _ fun w1 hk1 => ?_)
  simp only [uv_eq run_tupA0, uv_eq run_tupA1]
  rw [uv_allocS (vs := (wishR M.W t).1.cells) zer37 siz37 rfl rfl (by intro u hu; exact lcells_one [(wishR M.W t).1] u (by simpa [lcells] using hu))]
  have hk2 : Keep0 w (World.add w1 (.cells (wishR M.W t).1.cells.toArray 42)) := hk1.add
  generalize World.add w1 (.cells (wishR M.W t).1.cells.toArray 42) = w2 at hk2 ⊢
  refine un_enter (enters Tryz.func24 (by kernel_rfl) (by kernel_rfl) _ _) (rRight_c _ _ _ ?_)
  have hA2 : MAfter M w w2 M := (MAfter.refl hM).keep0 hk2
  have refuse : (!decide (1 ≤ m ∧ m ≤ 6) || (wishR M.W t).2) = true → R (.returned (.int .i64 0)) w2 := fun hc => by
    have e : askR M.H M.W t r m = (0, M.H, M.W) := by unfold askR; rw [if_pos hc]
    rw [e] at h
    exact h w2 M hA2 rfl rfl hG.oh hG.ow (by omega)
  by_cases hm : 1 ≤ m ∧ m ≤ 6
  · have okm : okM m := ⟨by omega, hm.2⟩
    have hd : decide (1 ≤ m ∧ m ≤ 6) = true := decide_eq_true hm
    simp only [hd, Bool.not_true, ↓uL.1, Bool.false_eq_true, if_false, F7_s2]
    cases hw : (wishR M.W t).2
    · have hc0 : ¬ (!decide (1 ≤ m ∧ m ≤ 6) || (wishR M.W t).2) = true := by rw [hd, hw]; simp
      unfold askR at h
      rw [if_neg hc0] at h
      simp only [] at h
      have hM2 := hA2.at'
      simp only [↓uL.1, F7_s3, F7_s3_t]
      refine un_enter (enters Tryz.func25 (by kernel_rfl) (by kernel_rfl) _ _) (tMode_c M t r w2 hM2 _ ?_)
      have hoM := modeR_ok hG.oh t r
      generalize modeR M.H t r = had at h hoM ⊢
      refine un_enter (enters Tryz.func26 (by kernel_rfl) (by kernel_rfl) _ _) (rJoin_c had m hoM okm w2 _ fun w3 hk3 => ?_)
      have hj := jn_ok hoM okm
      generalize jn had m = nm at h hj ⊢
      simp only [uv_eq (bldL _ _ _ _)]
      rw [uv_allocS (vs := Lk.cells ⟨t, r, nm⟩) zer37 siz37 rfl rfl (by intro u hu; exact lcells_one [⟨t, r, nm⟩] u (by simpa [lcells] using hu))]
      have hka : Keep0 w3 (World.add w3 (.cells (Lk.cells ⟨t, r, nm⟩).toArray 42)) := (Keep.refl _ w3).add
      have hbx : (World.add w3 (.cells (Lk.cells ⟨t, r, nm⟩).toArray 42)).heap[w3.heap.size]? = some (.cells (Lk.cells ⟨t, r, nm⟩).toArray 42 (0, 0)) := add_new
      have hA4 := (hA2.keep0 hk3).keep0 hka
      generalize World.add w3 (.cells (Lk.cells ⟨t, r, nm⟩).toArray 42) = w4 at hka hbx hA4 ⊢
      generalize w3.heap.size = bx at hbx ⊢
      have hbx' : w4.heap[bx]? = some (.cells #[.int .i64 t, .string r, .int .i64 nm] 42 (0, 0)) := hbx
      have hM4 := hA4.at'
      simp only [↓uL.1, tL.1, cellIn_cells, frzIn_00, setIn_cells, cellsIn_cells, List.getElem?_toArray, List.getElem?_cons_zero, List.getElem?_cons_succ, Option.isSome_some, Option.getD_some, Nat.zero_add, Nat.add_zero, List.setIfInBounds_toArray, List.set_cons_zero, List.set_cons_succ, put_same, add_new, add_old, oneV, Value.cells, List.size_toArray, List.length_cons, List.length_nil, List.extract_toArray, List.extract_eq_take_drop, Nat.reduceAdd, Nat.reduceSub, Nat.reduceLeDiff, if_true, List.drop_zero, List.take_succ_cons, List.take_zero, List.drop_succ_cons, drew_heap, hbx', F7_s4]
      cases hs : (nm == had)
      · simp only [hs, Bool.false_eq_true, if_false] at h
        have hld : ∀ w', w'.heap[bx]? = some (.cells (Lk.cells ⟨t, r, nm⟩).toArray 42 (0, 0)) → (Instr.loadAt 42 (ptr bx)).run Tryz.prog w' = .ok (.agg (Lk.cells ⟨t, r, nm⟩).toArray) w' := fun w' hw => run_loadN (n := 3) (by kernel_rfl) (by rw [hw]; rfl)
        simp only [↓uL.1, F7_s5, F7_s5_t, uv_eq (hld w4 hbx)]
        refine un_enter (enters Tryz.func27 (by kernel_rfl) (by kernel_rfl) _ _) (tcan_c M ⟨t, r, nm⟩ w4 hM4 hG.oh hj _ fun w5 hk5 => ?_)
        have hA5 := hA4.keep0 hk5
        have hbx5 := hk5.at hbx id
        have waits : ∀ w6, Keep0 w5 w6 → (canR M.H ⟨t, r, nm⟩ && ((had != 0) || (queueR M.W r).isEmpty)) = false → F7_s7 R (ptr M.bm) (.int .i64 had) (ptr bx) w6 := by
          intro w6 hk6 hc
          rw [if_neg (by rw [hc]; simp)] at h
          have hA6 := hA5.keep0 hk6
          have hM6 := hA6.at'
          have hbx6 := hk6.at hbx5 id
          have hbld : ∀ w', (Instr.build 70 #[(0, .agg (Lk.cells ⟨t, r, nm⟩).toArray), (1, .bool (had != 0))]).run Tryz.prog w' = .ok (.agg #[.int .i64 t, .string r, .int .i64 nm, .bool (had != 0)]) w' := fun w' => by kernel_rfl
          simp only [F7_s7, F7_s7_t]
          refine ⟨fun w' => Keep0 w6 w', (Keep.refl _ w6).drew, HN_nil (HV_field (off := 1) (by kernel_rfl) (HV_load1 (v := M.vw) (by kernel_rfl) (fun w' hw => by rw [hw.at hM6.cell id]; rfl) (HV_loadN (n := 3) (cs := (Lk.cells ⟨t, r, nm⟩).toArray) (by kernel_rfl) (fun w' hw => by rw [hw.at hbx6 id]; rfl) (HV_of (fun w' _ => run_neI) (HV_of (fun w' _ => hbld w') ?_)))))⟩
          rw [uv_eq (bslW _ _ _ _ _)]
          have hkb : Keep0 w6 (World.add w6.drew (.cells #[.int .i64 t, .string r, .int .i64 nm, .bool (had != 0)] 70)) := ((Keep.refl _ w6).drew).add
          have hsr : Row (World.add w6.drew (.cells #[.int .i64 t, .string r, .int .i64 nm, .bool (had != 0)] 70)) 70 4 (.slice (some ⟨w6.drew.heap.size, 0, none⟩) 1 1) 1 (Ws.cells ⟨⟨t, r, nm⟩, had != 0⟩) := Row.fresh (cs := Ws.cells ⟨⟨t, r, nm⟩, had != 0⟩) rfl (by decide)
          have hmx : 4398046511104 ≤ maxLen := by decide
          refine ⟨hkb, ?_⟩
          refine un_appendR apWs (by decide) (Row.keep hM6.rw hkb (fun _ _ => id)) hsr (by intro u hu; exact wscells_one [⟨⟨t, r, nm⟩, had != 0⟩] u (by simpa [wscells] using hu)) (by omega) (by omega) fun v' w7 h7 hk7 hf7 => ?_
          have hr7 : RowW w7 v' (M.W ++ [⟨⟨t, r, nm⟩, had != 0⟩]) := by
            unfold RowW wscells at *
            rw [List.length_append, List.flatMap_append]
            simpa using h7
          have hk17 : Keep (fun b => rowB M.vw = some b) w6 w7 := (hkb.mono (fun _ _ h => h.elim)).trans hk7 (fun b _ hv => hv)
          have hcell7 := hk17.at hM6.cell (fun e => rowW_ne hM6 hM6.rw _ e rfl)
          have hrH7 : RowL w7 M.vh M.H := hM6.rh.keep hk17 (fun g hg e => rowLW_ne hM6.rh hM6.rw g hg e)
          have hone : oneV v' = true := by obtain ⟨a, c, rfl⟩ := Row.len hr7; rfl
          refine HN_nil (HV_field (off := 1) (by kernel_rfl) ?_)
          rw [uu_store1 (by kernel_rfl) (by kernel_rfl) hone (by rw [hcell7]; rfl) (by rw [hcell7]; rfl), hcell7]
          have hne7 : ∀ g, rowB v' = some g → M.bm ≠ g := fun g hg e => by
            obtain ⟨c, hc⟩ := row_block hr7 hg
            rw [← e, hcell7] at hc
            simp only [Option.some.injEq, Obj.cells.injEq] at hc
            exact absurd hc.2.1 (by decide)
          have hneH : ∀ g, rowB M.vh = some g → M.bm ≠ g := fun g hg e => rowL_ne hM6 hM6.rh g hg e.symm
          have hset : Sx.setIn (some (.cells #[M.vh, M.vw] 30 (0, 0))) (0 + 1) v' = .cells #[M.vh, v'] 30 (0, 0) := rfl
          rw [hset]
          have hM8 : MTAt (World.put w7 M.bm (.cells #[M.vh, v'] 30 (0, 0))) { M with vw := v', W := M.W ++ [⟨⟨t, r, nm⟩, had != 0⟩] } :=
            ⟨put_same (by rw [hcell7]; rfl), hrH7.congr fun g hg => put_ne (hneH g hg), Row.congr hr7 fun g hg => put_ne (hne7 g hg)⟩
          refine h _ { M with vw := v', W := M.W ++ [⟨⟨t, r, nm⟩, had != 0⟩] } ⟨hM8, rfl, (hA6.keep.trans (hk17.mono fun b _ hv => .inr (.inr hv)) (fun b _ hb => hb)).put (fun _ => .inl rfl), fun b hb => ?_⟩ rfl rfl hG.oh (fun x hx => ?_) ?_
          · have hs6 := hA6.keep.size
            rcases hb with hb | hb | hb
            · exact .inl (.inl hb)
            · exact .inl (.inr (.inl hb))
            · rcases hf7 with e | ⟨g', e, hg'⟩
              · exact .inl (.inr (.inr (by rw [← e]; exact hb)))
              · simp only [] at hb
                rw [e] at hb; cases hb
                have := hkb.size
                exact .inr (by omega)
          · rcases List.mem_append.1 hx with hx | hx
            · exact hG.ow x hx
            · obtain rfl : x = ⟨⟨t, r, nm⟩, had != 0⟩ := by simpa using hx
              exact hj
          · simp only [List.length_append, List.length_cons, List.length_nil]; omega
        have gives : ∀ w6, Keep0 w5 w6 → (canR M.H ⟨t, r, nm⟩ && ((had != 0) || (queueR M.W r).isEmpty)) = true → F7_s8 R (ptr M.bm) (ptr bx) w6 := by
          intro w6 hk6 hc
          rw [if_pos hc] at h
          have hA6 := hA5.keep0 hk6
          have hM6 := hA6.at'
          have hbx6 := hk6.at hbx5 id
          simp only [F7_s8, F7_s8_t, uv_eq (hld w6 hbx6)]
          refine un_enter (enters Tryz.func29 (by kernel_rfl) (by kernel_rfl) _ _) (tgive_c M ⟨t, r, nm⟩ w6 hM6 (by omega) _ fun w7 M7 hA7 hH7 hW7 => ?_)
          refine h w7 M7 (hA6.trans hA7) hH7 hW7 (fun x hx => ?_) (fun x hx => hG.ow x (by rw [← hW7]; exact hx)) ?_
          · rw [hH7] at hx
            rcases giveR_sub hx with rfl | hx
            · exact hj
            · exact hG.oh x hx
          · rw [hH7, hW7]
            have := giveR_len M.H ⟨t, r, nm⟩
            omega
        cases hcn : canR M.H ⟨t, r, nm⟩
        · simp only [↓uL.1, Bool.false_eq_true, if_false, F7_s6]
          exact waits w5 (Keep.refl _ w5) (by rw [hcn]; rfl)
        · simp only [↓uL.1]
          cases hh0 : (had != 0)
          · simp only [↓uL.1]
            refine un_enter (enters Tryz.func28 (by kernel_rfl) (by kernel_rfl) _ _) (tQueue_c M r w5 hA5.at' (by omega) _ fun vq w6 hrq hfq hk6 => ?_)
            simp only [↓uL.1, un_lenR und32 hrq]
            cases hq : queueR M.W r with
            | nil =>
              have e6 : (((0 : Nat) : Int) == 0) = true := rfl
              simp only [List.length_nil, e6, ↓uL.1, Bool.false_eq_true, if_false, if_true, F7_s6]
              exact gives w6 hk6 (by rw [hcn, hq]; simp)
            | cons a l =>
              have e6 : (((l.length + 1 : Nat) : Int) == 0) = false := by
                have : ¬ (((l.length + 1 : Nat) : Int) = 0) := by omega
                simpa using this
              simp only [List.length_cons, e6, ↓uL.1, Bool.false_eq_true, if_false, if_true, F7_s6]
              exact waits w6 hk6 (by rw [hcn, hh0, hq]; simp)
          · simp only [↓uL.1, if_true, F7_s6]
            exact gives w5 (Keep.refl _ w5) (by rw [hcn, hh0]; simp)
      · simp only [hs, if_true] at h
        simp only [↓uL.1, F7_s9, F7_s9_t]
        exact h w4 M hA4 rfl rfl hG.oh hG.ow (by omega)
    · simp only [↓uL.1, F7_s10, F7_s10_t]
      exact refuse (by rw [hw]; simp)
  · have hd : decide (1 ≤ m ∧ m ≤ 6) = false := decide_eq_false hm
    simp only [hd, Bool.not_false, ↓uL.1, if_true, F7_s2, F7_s10, F7_s10_t]
    exact refuse (by rw [hd]; rfl)
end Go.Proofs.YtpghlemcgjogpaaGreat
