/- What the functions of the standard library at wishes come to. -/
import Derived.Test.YtpghlemcgjogpaaGreatFC
import Derived.Test.YtpghlemcgjogpaaGreatTB
import Derived.Lib.Overlaps
set_option linter.unusedVariables false
set_option linter.unusedSimpArgs false
set_option linter.unnecessarySimpa false
set_option maxRecDepth 100000
namespace Go.Proofs.YtpghlemcgjogpaaGreat
open Go.Sx

/-- A function value that tests a wish, in whatever world that came out of w with changes at S alone. -/
def Tests (S : Nat → Prop) (w : World) (fv : Value) (pr : Wi → Bool) : Prop :=
  ∀ (w1 : World) (x : Wi) (R : Ending → World → Prop) (k : Value → World → Prop), Keep S w w1 → (∀ w2, Keep0 w1 w2 → k (.bool (pr x)) w2) → un Tryz.prog R (callV fv #[.agg x.cells.toArray]) w1 k
/-- Where the first is that meets the test. -/
def idx (pr : Wi → Bool) (q : List Wi) : Int := match q.findIdx? pr with | some i => i | none => -1
theorem idx_none {pr : Wi → Bool} {q : List Wi} (h : ∀ x ∈ q, pr x = false) : idx pr q = -1 := by
  have : q.findIdx? pr = none := List.findIdx?_eq_none_iff.2 (by simpa using h)
  simp [idx, this]
theorem idx_some {pr : Wi → Bool} {q : List Wi} {i : Nat} {x : Wi} (hx : q[i]? = some x) (hp : pr x = true) (h : ∀ j y, j < i → q[j]? = some y → pr y = false) : idx pr q = i := by
  have hlt := (List.getElem?_eq_some_iff.1 hx).1
  have hv := (List.getElem?_eq_some_iff.1 hx).2
  have : q.findIdx? pr = some i := by
    rw [List.findIdx?_eq_some_iff_getElem]
    refine ⟨hlt, by rw [hv]; exact hp, fun j hj => ?_⟩
    simpa using h j q[j] hj (by rw [List.getElem?_eq_getElem])
  simp [idx, this]

theorem indexFunc_c (fv v : Value) (pr : Wi → Bool) (q : List Wi) (w : World) (hr : Row w 61 3 v q.length (wcells q)) (hf : Tests (fun _ => False) w fv pr) (R : Ending → World → Prop)
    (h : ∀ w', Keep0 w w' → R (.returned (.int .i64 (idx pr q))) w') : Calls Tryz.prog 20 #[v, fv] w R := by
  apply F20_calls
  have hb := hr.bound
  obtain ⟨ad, c, hv⟩ := hr.len
  have hmax : maxLen ≤ 9223372036854775807 := by decide
  have e0 : un Tryz.prog R (builtin .len #[56] 3 #[false] #[v]) w = fun k => k (.int .i64 q.length) w := by funext k; rw [hv]; exact un_len (by decide)
  simp only [F20_s1, F20_s1_t, e0, F20_s4]
  refine ⟨fun v8 w' => ∃ i : Nat, i ≤ q.length ∧ v8 = .int .i64 i ∧ Keep0 w w' ∧ ∀ j y, j < i → q[j]? = some y → pr y = false, fun v8 w' => match v8 with | .int _ i => q.length - i.toNat | _ => 0, ⟨0, by omega, rfl, Keep.refl _ w, fun j y hj => by omega⟩, ?_⟩
  rintro v8 w1 ⟨i, hi, rfl, hk, hn⟩
  simp only [F20_s5, F20_s5_t, ↓uL.1, F20_s6]
  by_cases hlt : i < q.length
  · have e1 : decide ((i : Int) < (q.length : Int)) = true := by simp; omega
    obtain ⟨x, hx⟩ : ∃ x, q[i]? = some x := ⟨q[i], List.getElem?_eq_getElem hlt⟩
    obtain ⟨g, o, hg, hix, hcl⟩ := (hr.keep hk (fun _ _ => id)).elem (P := Tryz.prog) (q := .i64) (i := i) hlt und57 siz62
    rw [wcells_at hx] at hcl
    simp only [e1, ↓uL.1, F20_s9, F20_s9_t, uv_eq (hix _), tL.1, cellIn_cells, frzIn_00, setIn_cells, cellsIn_cells, List.getElem?_toArray, List.getElem?_cons_zero, List.getElem?_cons_succ, Option.isSome_some, Option.getD_some, Nat.zero_add, Nat.add_zero, List.setIfInBounds_toArray, List.set_cons_zero, List.set_cons_succ, put_same, add_new, add_old, oneV, Value.cells, List.size_toArray, List.length_cons, List.length_nil, List.extract_toArray, List.extract_eq_take_drop, Nat.reduceAdd, Nat.reduceSub, Nat.reduceLeDiff, if_true, List.drop_zero, List.take_succ_cons, List.take_zero, List.drop_succ_cons, drew_heap, hcl]
    refine hf w1 x _ _ hk fun w2 hk2 => ?_
    simp only [F20_s10, Bc_bool, F20_s11, F20_s11_t, F20_s8, F20_s8_t, ↓uL.1]
    have hk3 : Keep0 w w2 := hk.trans hk2 fun _ _ => id
    cases hp : pr x
    · simp only [Bool.false_eq_true, if_false]
      have e3 : IntKind.i64.wrap ((i : Int) + 1) = ((i + 1 : Nat) : Int) := by rw [wrap_id (by omega) (by omega)]; omega
      rw [e3]
      refine ⟨⟨i + 1, by omega, rfl, hk3, fun j y hj hy => ?_⟩, by simp; omega⟩
      by_cases hji : j = i
      · subst hji; rw [hx] at hy; cases hy; exact hp
      · exact hn j y (by omega) hy
    · simp only [if_true]
      rw [idx_some hx hp hn] at h
      exact h _ hk3
  · have e1 : decide ((i : Int) < (q.length : Int)) = false := by simp; omega
    simp only [e1, ↓uL.1, F20_s3, F20_s3_t]
    rw [idx_none (fun x hx => by
      obtain ⟨j, hj⟩ := List.getElem?_of_mem hx
      exact hn j x (by have := (List.getElem?_eq_some_iff.1 hj).1; omega) hj)] at h
    exact h _ hk

theorem apw : apB Tryz.prog 56 61 3 24 = true := by kernel_rfl
theorem und3i : Tryz.prog.underlying 3 = some (.int .i64) := by kernel_rfl
theorem notOv (w : World) (gs os la ca g o lb cb : Nat) (hne : gs ≠ g) (cA cB : Array Value) (eA eB : Nat) (hA : w.heap[gs]? = some (.cells cA eA (0, 0))) (hB : w.heap[g]? = some (.cells cB eB (0, 0))) (hn : cB.size ≠ 0) :
    (callFunc 51 #[.slice (some ⟨gs, os, none⟩) la ca, .slice (some ⟨g, o, none⟩) lb cb]).run Tryz.prog w = .ok (.value (.bool false)) w := by
  rw [run_callFunc_extern Tryz.func51 (by kernel_rfl) (by kernel_rfl) (by kernel_rfl) (e := Extern.SlicesOverlaps.overlaps #[56, 56] #[4]) (by kernel_rfl),
    Lib.run_overlaps_apart w 56 4 61 und57 3 (fun w => by
      obtain ⟨inf, hi', hn⟩ := Option.map_eq_some_iff.1 siz62
      simp [sizeOf, typeInfo, hi', hn, go_sem]) ⟨gs, os, none⟩ ⟨g, o, none⟩ la ca lb cb hne eA eB cA.size cB.size (by simp [World.shape?, hA]) (by simp [World.shape?, hB]) hn (by simp [World.frozen?, hA]) (by simp [World.frozen?, hA])]
  rfl

theorem insert_c (v src : Value) (q : List Wi) (x : Wi) (at' : Nat) (w : World) (hr : Row w 61 3 v q.length (wcells q)) (hs : Row w 61 3 src 1 x.cells) (hap : ∀ g, rowB src = some g → rowB v ≠ some g) (hat : at' ≤ q.length) (hbig : q.length ≤ 1099511627776)
    (R : Ending → World → Prop)
    (h : ∀ v' w', Row w' 61 3 v' (q.length + 1) (wcells (q.take at' ++ x :: q.drop at')) → Keep (fun b => rowB v = some b) w w' → (rowB v' = rowB v ∨ ∃ g, rowB v' = some g ∧ w.heap.size ≤ g) → R (.returned v') w') :
    Calls Tryz.prog 22 #[v, .int .i64 at', src] w R := by
  apply F22_calls
  have hmax : maxLen = 9223372036854775807 ∨ 4398046511104 ≤ maxLen := by right; decide
  have hmx : 4398046511104 ≤ maxLen := by decide
  have hone : ∀ u ∈ x.cells, oneV u = true := by
    have := wcells_one [x]
    simpa [wcells] using this
  have hcap := hr.n_cap
  have hmax2 : maxLen ≤ 9223372036854775807 := by decide
  have hlen := wcells_length q
  simp only [F22_s1, F22_s1_t, uv_eq (hr.run_drop (P := Tryz.prog) hat und57 siz62 _), un_lenR und57 hs, ↓uL.1, F22_s2]
  have e1 : (((1 : Nat) : Int) == 0) = false := by decide
  simp only [e1, ↓uL.1, F22_s3, F22_s3_t, un_lenR und57 hr, F22_s4]
  by_cases hend : at' = q.length
  · subst hend
    simp only [BEq.rfl, ↓uL.1, F22_s12, F22_s12_t]
    refine un_appendR apw (by decide) hr hs hone (by omega) (by omega) fun v' w' h1 h2 h3 => h v' w' ?_ h2 h3
    have : wcells (q.take q.length ++ x :: q.drop q.length) = wcells q ++ x.cells := by
      rw [List.take_length, List.drop_length, wcells_append]; simp [wcells]
    rw [this]; exact h1
  · have e2 : ((at' : Int) == (q.length : Int)) = false := by simpa using (by omega : ¬ ((at' : Int) = q.length))
    have e3 : IntKind.i64.wrap ((q.length : Int) + ((1 : Nat) : Int)) = ((q.length + 1 : Nat) : Int) := by rw [wrap_id (by omega) (by omega)]; omega
    have e6 : IntKind.i64.wrap ((at' : Int) + ((1 : Nat) : Int)) = ((at' + 1 : Nat) : Int) := by rw [wrap_id (by omega) (by omega)]; omega
    have hgoal : wcells (q.take at' ++ x :: q.drop at') = (wcells q).take (at' * 3) ++ x.cells ++ (wcells q).drop (at' * 3) := by
      rw [wcells_take, wcells_drop, wcells_append]; simp [wcells]
    have hxl : x.cells.length = 3 := rfl
    simp only [e2, ↓uL.1, F22_s5, F22_s5_t, e3, un_capR und57 hr, F22_s6]
    by_cases hg : capV v < q.length + 1
    · have e4 : decide (((q.length + 1 : Nat) : Int) > (capV v : Int)) = true := by simp; omega
      have e5 : IntKind.i64.wrap (((q.length + 1 : Nat) : Int) - (at' : Int)) = ((q.length + 1 - at' : Nat) : Int) := by rw [wrap_id (by omega) (by omega)]; omega
      simp only [e4, ↓uL.1, F22_s11, F22_s11_t, uv_eq (hr.run_take (P := Tryz.prog) (l := at') (by omega) und57 siz62 _), e3, e5]
      have hT := hr.tak (l := at') (by omega)
      refine un_appendZ apw und3i (by decide) hT (by
        obtain ⟨a, c, rfl⟩ := hr.len
        simp only [takeV, capV] at hg ⊢; omega) (by
        intro hv
        rcases hr.2 with ⟨rfl, h0⟩ | ⟨g, off, cap, cur, rfl, _⟩
        · omega
        · simp [takeV] at hv) (by omega) (by omega) fun v' w1 zs h1 hk1 hb1 => ?_
      have en : at' + (q.length + 1 - at') = q.length + 1 := by omega
      rw [en] at h1
      have hs1 := hs.keep hk1 (fun _ _ => id)
      have hr1 := hr.keep hk1 (fun _ _ => id)
      simp only [uv_eq (h1.run_drop (P := Tryz.prog) (l := at') (by omega) und57 siz62 _)]
      refine un_copyR apw h1 (by omega) hs1 (fun u hu => hone u (List.mem_of_mem_take hu)) fun _ w2 h2 hk2 => ?_
      have hk02 : Keep0 w w2 := hk1.trans hk2 (fun b hb hx => by rw [hb1] at hx; cases hx; omega)
      have hr2 := hr.keep hk02 (fun _ _ => id)
      have hm1 : min 1 (q.length + 1 - at') = 1 := by omega
      rw [hm1] at h2
      refine ⟨fun _ => True, trivial, HV_of (fun _ _ => run_add) ?_⟩
      rw [e6]
      refine HV_of (fun w _ => h2.run_drop (P := Tryz.prog) (l := at' + 1) (by omega) und57 siz62 w) (HV_of (fun w _ => hr.run_drop (P := Tryz.prog) (l := at') (by omega) und57 siz62 w) ?_)
      have hr3 : Row w2.drew 61 3 (dropV 3 v at') (q.length - at') ((wcells q).drop (at' * 3)) := hr2.drp hat
      have h2d : Row w2.drew 61 3 v' (q.length + 1) _ := h2
      refine un_copyR apw h2d (by omega) hr3 (fun u hu => wcells_one q u (List.mem_of_mem_drop (List.mem_of_mem_take hu))) fun _ w3 h3 hk3 => ?_
      refine h v' w3 ?_ (((hk02.mono (fun _ _ h => h.elim)).drew).trans hk3 (fun b hb hx => by rw [hb1] at hx; cases hx; omega)) (.inr ⟨_, hb1, Nat.le_refl _⟩)
      have hm2 : min (q.length - at') (q.length + 1 - (at' + 1)) = q.length - at' := by omega
      rw [hm2] at h3
      have t1 : ((wcells q).take (at' * 3)).length = at' * 3 := by rw [List.length_take, hlen]; omega
      have t2 : ((wcells q).drop (at' * 3)).take ((q.length - at') * 3) = (wcells q).drop (at' * 3) := List.take_of_length_le (by rw [List.length_drop, hlen]; omega)
      have hzl : ((wcells q).take (at' * 3) ++ zs).length = (q.length + 1) * 3 := h1.1
      have t3 : ((wcells q).take (at' * 3) ++ zs).take (at' * 3) = (wcells q).take (at' * 3) := by rw [List.take_append_of_le_length (by omega), List.take_of_length_le (by omega)]
      have t4 : x.cells.take (1 * 3) = x.cells := rfl
      rw [t2, t3, t4] at h3
      have t5 : ((wcells q).take (at' * 3) ++ x.cells ++ ((wcells q).take (at' * 3) ++ zs).drop ((at' + 1) * 3)).take ((at' + 1) * 3) = (wcells q).take (at' * 3) ++ x.cells := by
        rw [List.take_append_of_le_length (by rw [List.length_append, t1, hxl]; omega), List.take_of_length_le (by rw [List.length_append, t1, hxl]; omega)]
      have t6 : ((wcells q).take (at' * 3) ++ x.cells ++ ((wcells q).take (at' * 3) ++ zs).drop ((at' + 1) * 3)).drop ((at' + 1 + (q.length - at')) * 3) = [] := by
        rw [List.drop_eq_nil_of_le]
        rw [List.length_append, List.length_append, t1, hxl, List.length_drop, hzl]; omega
      rw [t5, t6, List.append_nil] at h3
      rw [hgoal]; exact h3
    · have e4 : decide (((q.length + 1 : Nat) : Int) > (capV v : Int)) = false := by simp; omega
      simp only [e4, ↓uL.1, F22_s7, F22_s7_t, uv_eq (hr.run_take (P := Tryz.prog) (l := q.length + 1) (by omega) und57 siz62 _), e3, e6]
      obtain ⟨ys, hE⟩ := hr.ext (l := q.length + 1) (by omega) (by omega)
      have hyl : (wcells q ++ ys).length = (q.length + 1) * 3 := hE.1
      simp only [uv_eq (hE.run_drop (P := Tryz.prog) (l := at' + 1) (by omega) und57 siz62 _)]
      have hov : (callFunc 51 #[src, dropV 3 (takeV v (q.length + 1)) (at' + 1)]).run Tryz.prog w = .ok (.value (.bool false)) w := by
        rcases hr.2 with ⟨rfl, h0⟩ | ⟨g, off, cap, cur, rfl, hh, hnc, hcm, hcs, htk⟩
        · omega
        · rcases hs.2 with ⟨rfl, h0⟩ | ⟨gs, offs, caps, curs, rfl, hhs, _⟩
          · omega
          · simp only [takeV, dropV, Option.map_some, addr_add]
            have hne : gs ≠ g := fun e => hap gs rfl (by rw [e]; rfl)
            simp only [capV] at hg
            split <;> exact notOv w _ _ _ _ _ _ _ _ hne _ _ _ _ hhs hh (by omega)
      simp only [un_eq hov, ↓uL.1, Bool.not_false, F22_s8, F22_s10, F22_s10_t]
      refine ⟨fun _ => True, trivial, HV_of (fun _ _ => run_add) ?_⟩
      rw [e6]
      refine HV_of (fun w _ => hE.run_drop (P := Tryz.prog) (l := at' + 1) (by omega) und57 siz62 w) (HV_of (fun w _ => hE.run_drop (P := Tryz.prog) (l := at') (by omega) und57 siz62 w) ?_)
      have hEd : Row w.drew 61 3 (takeV v (q.length + 1)) (q.length + 1) (wcells q ++ ys) := hE
      have hD := hEd.drp (l := at') (by omega)
      have hm1 : min (q.length + 1 - at') (q.length + 1 - (at' + 1)) = q.length - at' := by omega
      have s1 : ((wcells q ++ ys).drop (at' * 3)).take ((q.length - at') * 3) = (wcells q).drop (at' * 3) := by
        rw [List.drop_append_of_le_length (by omega), List.take_append_of_le_length (by rw [List.length_drop, hlen]; omega), List.take_of_length_le (by rw [List.length_drop, hlen]; omega)]
      refine un_copyR apw hEd (by omega) hD (by rw [hm1, s1]; exact fun u hu => wcells_one q u (List.mem_of_mem_drop hu)) fun _ w1 h1 hk1 => ?_
      rw [hm1, s1] at h1
      have hB : rowB (takeV v (q.length + 1)) = rowB v := rowB_take
      have hk1' : Keep (fun b => rowB v = some b) w w1 := ((Keep.refl _ w).drew).trans hk1 (fun b _ hb => by rw [← hB]; exact hb)
      have hs1 : Row w1 61 3 src 1 x.cells := hs.keep hk1' (fun g hg => hap g hg)
      simp only [uv_eq (h1.run_drop (P := Tryz.prog) (l := at') (by omega) und57 siz62 _)]
      refine un_copyR apw h1 (by omega) hs1 (fun u hu => hone u (List.mem_of_mem_take hu)) fun _ w2 h2 hk2 => ?_
      have hk2' : Keep (fun b => rowB v = some b) w w2 := hk1'.trans hk2 (fun b _ hb => by rw [← hB]; exact hb)
      have hm2 : min 1 (q.length + 1 - at') = 1 := by omega
      rw [hm2] at h2
      refine h _ w2 ?_ hk2' (.inl hB)
      have t1 : ((wcells q).take (at' * 3)).length = at' * 3 := by rw [List.length_take, hlen]; omega
      have t4 : x.cells.take (1 * 3) = x.cells := rfl
      have tl : ((wcells q ++ ys).take ((at' + 1) * 3)).length = (at' + 1) * 3 := by rw [List.length_take, hyl]; omega
      have t2 : ((wcells q ++ ys).take ((at' + 1) * 3) ++ (wcells q).drop (at' * 3) ++ (wcells q ++ ys).drop ((at' + 1 + (q.length - at')) * 3)) = (wcells q ++ ys).take ((at' + 1) * 3) ++ (wcells q).drop (at' * 3) := by
        have : (wcells q ++ ys).drop ((at' + 1 + (q.length - at')) * 3) = [] := List.drop_eq_nil_of_le (by rw [hyl]; omega)
        rw [this, List.append_nil]
      have t3 : ((wcells q ++ ys).take ((at' + 1) * 3) ++ (wcells q).drop (at' * 3)).take (at' * 3) = (wcells q).take (at' * 3) := by
        rw [List.take_append_of_le_length (by rw [tl]; omega), List.take_take, Nat.min_eq_left (by omega), List.take_append_of_le_length (by omega)]
      have t5 : ((wcells q ++ ys).take ((at' + 1) * 3) ++ (wcells q).drop (at' * 3)).drop ((at' + 1) * 3) = (wcells q).drop (at' * 3) := by
        rw [List.drop_append_of_le_length (by rw [tl]; omega), List.drop_eq_nil_of_le (by rw [tl]; omega), List.nil_append]
      rw [t2, t3, t4, t5] at h2
      rw [hgoal]; exact h2

theorem zeroW (n : Nat) : ∀ u ∈ (Builtin.zeroCells #[.int .i64 0, .int .i64 0, .bool false] n).toList, oneV u = true := by
  intro u hu
  simp only [Builtin.zeroCells, Array.toList_map, List.mem_map] at hu
  obtain ⟨i, _, rfl⟩ := hu
  have h3 : i % (#[Value.int .i64 0, .int .i64 0, .bool false] : Array Value).size < 3 := Nat.mod_lt _ (by decide)
  generalize i % (#[Value.int .i64 0, .int .i64 0, .bool false] : Array Value).size = j at h3 ⊢
  obtain rfl | rfl | rfl : j = 0 ∨ j = 1 ∨ j = 2 := by omega
  all_goals rfl
theorem zeroW' (n : Nat) (i : TypeInfo) (z : Value) (h1 : Tryz.prog.info? 61 = some i) (h2 : i.zero = some z) : ∀ u ∈ (Builtin.zeroCells z.cells n).toList, oneV u = true := by
  have := zer62
  rw [h1] at this
  simp only [Option.map_some, Option.some.injEq] at this
  rw [this] at h2
  cases h2
  exact zeroW n

theorem deleteFunc_c (fv v : Value) (pr : Wi → Bool) (q : List Wi) (w : World) (hr : Row w 61 3 v q.length (wcells q)) (hf : Tests (fun b => rowB v = some b) w fv pr)
    (R : Ending → World → Prop)
    (h : ∀ v' w', Row w' 61 3 v' (q.filter fun x => !pr x).length (wcells (q.filter fun x => !pr x)) → Keep (fun b => rowB v = some b) w w' → rowB v' = rowB v → R (.returned v') w') :
    Calls Tryz.prog 32 #[v, fv] w R := by
  apply F32_calls
  have hbd := hr.bound
  have hmax2 : maxLen ≤ 9223372036854775807 := by decide
  simp only [F32_s1, F32_s1_t]
  refine un_enter (enters Tryz.func20 (by kernel_rfl) (by kernel_rfl) _ _) (indexFunc_c fv v pr q w hr (fun w1 x R k hk => hf w1 x R k (hk.mono fun _ _ h => h.elim)) _ fun w1 hk1 => ?_)
  have hr1 := hr.keep hk1 (fun _ _ => id)
  have hS1 : Keep (fun b => rowB v = some b) w w1 := hk1.mono fun _ _ h => h.elim
  simp only [↓uL.1, F32_s2]
  cases hix : q.findIdx? pr with
  | none =>
    have hall := List.findIdx?_eq_none_iff.1 hix
    have e1 : idx pr q = -1 := by simp [idx, hix]
    rw [e1]
    simp only [BEq.rfl, ↓uL.1, F32_s14, F32_s14_t]
    have e2 : (q.filter fun x => !pr x) = q := List.filter_eq_self.2 (by simpa using hall)
    rw [e2] at h
    exact h v w1 hr1 hS1 rfl
  | some i0 =>
    obtain ⟨hi0, hp0, hb0⟩ := List.findIdx?_eq_some_iff_getElem.1 hix
    have e1 : idx pr q = (i0 : Int) := by simp [idx, hix]
    rw [e1]
    have e2 : ((i0 : Int) == -1) = false := by simpa using (by omega : ¬ ((i0 : Int) = -1))
    have e3 : IntKind.i64.wrap ((i0 : Int) + 1) = ((i0 + 1 : Nat) : Int) := by rw [wrap_id (by omega) (by omega)]; omega
    simp only [e2, ↓uL.1, F32_s3, F32_s3_t, e3, F32_s6]
    have hfl : ∀ j, (hj : j < i0) → pr (q[j]'(by omega)) = false := fun j hj => by simpa using hb0 j hj
    have hstart : (q.take (i0 + 1)).filter (fun x => !pr x) = q.take i0 := by
      rw [List.take_add_one, List.getElem?_eq_getElem hi0]
      simp only [Option.toList, List.filter_append]
      have : (q.take i0).filter (fun x => !pr x) = q.take i0 := List.filter_eq_self.2 fun x hx => by
        obtain ⟨j, hj, rfl⟩ := List.mem_take_iff_getElem.1 hx
        rw [hfl j (by omega)]; rfl
      rw [this]
      simp [hp0]
    refine ⟨fun v5 v6 w' => ∃ (i j : Nat) (L : List Wi), v5 = .int .i64 i ∧ v6 = .int .i64 j ∧ i < j ∧ j ≤ q.length ∧ L.length = q.length ∧ L.take i = (q.take j).filter (fun x => !pr x) ∧ L.drop j = q.drop j ∧ Row w' 61 3 v q.length (wcells L) ∧ Keep (fun b => rowB v = some b) w w',
      fun _ v6 _ => match v6 with | .int _ j => q.length - j.toNat | _ => 0, ⟨i0, i0 + 1, q, rfl, rfl, by omega, by omega, rfl, hstart.symm, rfl, hr1, hS1⟩, ?_⟩
    rintro v5 v6 w2 ⟨i, j, L, rfl, rfl, hij, hj, hL, hLi, hLj, hr2, hk2⟩
    simp only [F32_s7, F32_s7_t, un_lenR und57 hr2, ↓uL.1, F32_s8]
    by_cases hlt : j < q.length
    · have e4 : decide ((j : Int) < (q.length : Int)) = true := by simp; omega
      obtain ⟨x, hx⟩ : ∃ x, q[j]? = some x := ⟨q[j], List.getElem?_eq_getElem hlt⟩
      have hxL : L[j]? = some x := by
        have h1 : (L.drop j)[0]? = (q.drop j)[0]? := by rw [hLj]
        simpa [hx] using h1
      obtain ⟨g, o, hg, hixx, hcl⟩ := hr2.elem (P := Tryz.prog) (q := .i64) (i := j) hlt und57 siz62
      rw [wcells_at hxL] at hcl
      simp only [e4, ↓uL.1, F32_s11, F32_s11_t, uv_eq (hixx _), tL.1, cellIn_cells, frzIn_00, setIn_cells, cellsIn_cells, List.getElem?_toArray, List.getElem?_cons_zero, List.getElem?_cons_succ, Option.isSome_some, Option.getD_some, Nat.zero_add, Nat.add_zero, List.setIfInBounds_toArray, List.set_cons_zero, List.set_cons_succ, put_same, add_new, add_old, oneV, Value.cells, List.size_toArray, List.length_cons, List.length_nil, List.extract_toArray, List.extract_eq_take_drop, Nat.reduceAdd, Nat.reduceSub, Nat.reduceLeDiff, if_true, List.drop_zero, List.take_succ_cons, List.take_zero, List.drop_succ_cons, drew_heap, hcl]
      rw [uv_allocS (vs := x.cells) zer62 siz62 rfl rfl (by intro u hu; exact wcells_one [x] u (by simpa [wcells] using hu))]
      have hk3 : Keep (fun b => rowB v = some b) w (World.add w2 (.cells x.cells.toArray 61)) := hk2.add
      have hr3 : Row (World.add w2 (.cells x.cells.toArray 61)) 61 3 v q.length (wcells L) := hr2.keep ((Keep.refl (fun _ => False) w2).add) (fun _ _ => id)
      have hbx : (World.add w2 (.cells x.cells.toArray 61)).heap[w2.heap.size]? = some (.cells x.cells.toArray 61 (0, 0)) := add_new
      have hgt : w.heap.size ≤ w2.heap.size := hk2.size
      generalize hw3 : World.add w2 (.cells x.cells.toArray 61) = w3 at *
      have hrd : ∀ wx, Keep0 w3 wx → (Instr.loadAt 61 (.pointer (some ⟨w2.heap.size, 0, none⟩))).run Tryz.prog wx = .ok (.agg x.cells.toArray) wx := fun wx hk => run_loadN (n := 3) (by kernel_rfl) (by rw [hk.at hbx id]; rfl)
      rw [uv_eq (hrd _ (Keep.refl _ _))]
      refine hf w3 x _ _ hk3 fun w4 hk4 => ?_
      have hr4 := hr3.keep hk4 (fun _ _ => id)
      have hk04 : Keep (fun b => rowB v = some b) w w4 := hk3.trans hk4 (fun _ _ h => h.elim)
      simp only [↓uL.1, F32_s12]
      have e5 : IntKind.i64.wrap ((j : Int) + 1) = ((j + 1 : Nat) : Int) := by rw [wrap_id (by omega) (by omega)]; omega
      have htk : (q.take (j + 1)).filter (fun x => !pr x) = (q.take j).filter (fun x => !pr x) ++ (if pr x = true then [] else [x]) := by
        rw [List.take_add_one, hx, List.filter_append]
        cases hp : pr x <;> simp [hp]
      cases hp : pr x
      · simp only [Bool.not_false, ↓uL.1, F32_s13, F32_s13_t, uv_eq (hrd _ hk4)]
        obtain ⟨p, hp1, w5, hst, hr5, hk5⟩ := hr4.store (P := Tryz.prog) (q := .i64) (i := i) (ys := x.cells) (val := .agg x.cells.toArray) (by omega) und57 siz62 rfl (by intro u hu; exact wcells_one [x] u (by simpa [wcells] using hu)) rfl
        have e6 : IntKind.i64.wrap ((i : Int) + 1) = ((i + 1 : Nat) : Int) := by rw [wrap_id (by omega) (by omega)]; omega
        simp only [uv_eq (hp1 _), uu_eq hst, ↓uL.1, e6, F32_s10, F32_s10_t, e5]
        have hcs : (wcells L).take (i * 3) ++ x.cells ++ (wcells L).drop ((i + 1) * 3) = wcells (L.set i x) := by
          rw [wcells_take, wcells_drop, List.set_eq_take_append_cons_drop, if_pos (by omega), wcells_append]
          simp [wcells]
        rw [hcs] at hr5
        refine ⟨⟨i + 1, j + 1, L.set i x, rfl, rfl, by omega, by omega, by rw [List.length_set, hL], ?_, ?_, hr5, hk04.trans hk5 (fun _ _ h => h)⟩, by simp; omega⟩
        · rw [htk, hp, ← hLi, List.take_add_one, List.getElem?_set_self (by omega), List.take_set_of_le (Nat.le_refl _)]
          simp
        · rw [List.drop_set_of_lt (by omega), ← List.drop_drop, ← List.drop_drop, hLj]
      · simp only [Bool.not_true, ↓uL.1, F32_s10, F32_s10_t, e5]
        refine ⟨⟨i, j + 1, L, rfl, rfl, by omega, by omega, hL, ?_, ?_, hr4, hk04⟩, by simp; omega⟩
        · rw [htk, hp, hLi]; simp
        · rw [← List.drop_drop, ← List.drop_drop, hLj]
    · have e4 : decide ((j : Int) < (q.length : Int)) = false := by simp; omega
      obtain rfl : j = q.length := by omega
      simp only [e4, ↓uL.1, F32_s5, F32_s5_t, uv_eq (hr2.run_drop (P := Tryz.prog) (l := i) (by omega) und57 siz62 _)]
      refine un_clearR apw hr2 (by omega) (fun i z h1 h2 => zeroW' _ i z h1 h2) fun _ w3 zs h3 hk3 => ?_
      simp only [uv_eq (h3.run_take (P := Tryz.prog) (l := i) (by have := h3.n_cap.1; omega) und57 siz62 _)]
      have hT := h3.tak (l := i) (by omega)
      have hll : (L.take i).length = i := by rw [List.length_take]; omega
      rw [List.take_length] at hLi
      have hlf : (q.filter fun x => !pr x).length = i := by rw [← hLi]; exact hll
      have hcl : ((wcells L).take (i * 3) ++ zs).take (i * 3) = wcells (q.filter fun x => !pr x) := by
        rw [List.take_append_of_le_length (by rw [List.length_take, wcells_length]; omega), List.take_take, Nat.min_self, wcells_take, hLi]
      rw [hcl] at hT
      refine h _ w3 (by rw [hlf]; exact hT) (hk2.trans hk3 (fun _ _ h => h)) rowB_take
end Go.Proofs.YtpghlemcgjogpaaGreat
