/- slices.Compact at edges. -/
import Derived.Test.YtpghlemcgjogpaaGreatCL
set_option linter.unusedVariables false
set_option linter.unusedSimpArgs false
set_option linter.unnecessarySimpa false
set_option maxRecDepth 100000
namespace Go.Proofs.YtpghlemcgjogpaaGreat
open Go.Sx

/-- Of neighbours that are one, one. -/
def compF : List Ed → List Ed
  | [] => []
  | [x] => [x]
  | x :: y :: l => if x = y then compF (y :: l) else x :: compF (y :: l)
theorem compF_snoc (l : List Ed) (x y : Ed) : compF (l ++ [x, y]) = compF (l ++ [x]) ++ (if x = y then [] else [y]) := by
  induction l with
  | nil => by_cases h : x = y <;> simp [compF, h]
  | cons a l ih =>
    cases l with
    | nil =>
      by_cases h : a = x <;> by_cases h' : x = y <;> simp_all [compF]
    | cons b l =>
      simp only [List.cons_append] at ih ⊢
      by_cases h : a = b
      · simp only [compF, h, if_true]; exact ih
      · simp only [compF, h, if_false, ih, List.cons_append]
theorem compF_step {l : List Ed} {m : Nat} {x y : Ed} (hx : l[m]? = some x) (hy : l[m + 1]? = some y) : compF (l.take (m + 2)) = compF (l.take (m + 1)) ++ (if x = y then [] else [y]) := by
  have e1 : l.take (m + 1) = l.take m ++ [x] := by rw [List.take_add_one, hx]; rfl
  have e2 : l.take (m + 2) = l.take m ++ [x, y] := by rw [List.take_add_one, hy, e1]; simp
  rw [e1, e2, compF_snoc]
theorem compF_nodup {l : List Ed} (h : ∀ j x y, l[j]? = some x → l[j + 1]? = some y → x ≠ y) : compF l = l := by
  induction l with
  | nil => rfl
  | cons a l ih =>
    cases l with
    | nil => rfl
    | cons b l =>
      have h0 := h 0 a b rfl rfl
      have := ih fun j x y hx hy => h (j + 1) x y (by simpa using hx) (by simpa using hy)
      simp only [compF, h0, if_false, this]
theorem zeroE' (n : Nat) (i : TypeInfo) (z : Value) (h1 : Tryz.prog.info? 83 = some i) (h2 : i.zero = some z) : ∀ u ∈ (Builtin.zeroCells z.cells n).toList, oneV u = true := by
  have hz : (Tryz.prog.info? 83).map (·.zero) = some (some (.agg #[.int .i64 0, .int .i64 0])) := by kernel_rfl
  rw [h1] at hz
  simp only [Option.map_some, Option.some.injEq] at hz
  rw [hz] at h2
  cases h2
  intro u hu
  simp only [Builtin.zeroCells, Array.toList_map, List.mem_map, Value.cells] at hu
  obtain ⟨i, _, rfl⟩ := hu
  have h3 : i % (#[Value.int .i64 0, .int .i64 0] : Array Value).size < 2 := Nat.mod_lt _ (by decide)
  generalize i % (#[Value.int .i64 0, .int .i64 0] : Array Value).size = j at h3 ⊢
  obtain rfl | rfl : j = 0 ∨ j = 1 := by omega
  all_goals rfl
/-- Number i of a row of edges, read. -/
theorem RowE.read {w : World} {v : Value} {l : List Ed} {i : Nat} {x : Ed} (h : RowE w v l) (hx : l[i]? = some x) : ∃ p, (∀ w1, (Instr.indexAt 39 v (.int .i64 i)).run Tryz.prog w1 = .ok p w1) ∧ ∀ w1, (∀ g, rowB v = some g → w1.heap[g]? = w.heap[g]?) → (Instr.loadAt 83 p).run Tryz.prog w1 = .ok (.agg x.cells.toArray) w1 := by
  have hlt := (List.getElem?_eq_some_iff.1 hx).1
  obtain ⟨g, o, hg, hixx, hcl⟩ := h.elem (P := Tryz.prog) (q := .i64) (i := i) hlt und38 siz81
  rw [show ecells l = l.flatMap Ed.cells from rfl, flat_at Ed.len hx] at hcl
  exact ⟨_, hixx, fun w1 hw => run_loadN (n := 2) (by kernel_rfl) (by rw [hw g hg]; exact hcl)⟩
theorem compact_c (v : Value) (l : List Ed) (w : World) (hr : RowE w v l) (R : Ending → World → Prop)
    (h : ∀ v' w', RowE w' v' (compF l) → Keep (fun b => rowB v = some b) w w' → rowB v' = rowB v → R (.returned v') w') : Calls Tryz.prog 45 #[v] w R := by
  apply F45_calls
  have hbd := hr.bound
  have hmax2 : maxLen ≤ 9223372036854775807 := by decide
  simp only [F45_s1, F45_s1_t, un_lenR und38 hr, ↓uL.1, F45_s2]
  by_cases h2 : l.length < 2
  · have e1 : decide ((l.length : Int) < 2) = true := by rw [decide_eq_true_eq]; omega
    simp only [e1, ↓uL.1, F45_s24, F45_s24_t]
    have : compF l = l := by
      match l, h2 with
      | [], _ => rfl
      | [x], _ => rfl
      | x :: y :: l, h2 => simp only [List.length_cons] at h2; omega
    rw [this] at h
    exact h v w hr (Keep.refl _ w) rfl
  · have e1 : decide ((l.length : Int) < 2) = false := by rw [decide_eq_false_iff_not]; omega
    simp only [e1, ↓uL.1, F45_s3, F45_s3_t, F45_s6]
    refine ⟨fun v3 w' => ∃ k : Nat, v3 = .int .i64 k ∧ 1 ≤ k ∧ k ≤ l.length ∧ RowE w' v l ∧ Keep (fun _ => False) w w' ∧ ∀ j x y, j + 1 < k → l[j]? = some x → l[j + 1]? = some y → x ≠ y,
      fun v3 _ => match v3 with | .int _ i => l.length - i.toNat | _ => 0, ⟨1, rfl, by omega, by omega, hr, Keep.refl _ w, fun j x y hj => by omega⟩, ?_⟩
    rintro v3 w1 ⟨k, rfl, hk1, hkl, hr1, hkp, hnd⟩
    simp only [F45_s7, F45_s7_t, un_lenR und38 hr1, ↓uL.1, F45_s8]
    by_cases hlt : k < l.length
    · have e2 : decide ((k : Int) < (l.length : Int)) = true := by rw [decide_eq_true_eq]; omega
      obtain ⟨k0, rfl⟩ : ∃ k0, k = k0 + 1 := ⟨k - 1, by omega⟩
      obtain ⟨x, hx⟩ : ∃ x, l[k0]? = some x := ⟨l[k0], List.getElem?_eq_getElem (by omega)⟩
      obtain ⟨y, hy⟩ : ∃ y, l[k0 + 1]? = some y := ⟨l[k0 + 1], List.getElem?_eq_getElem hlt⟩
      obtain ⟨px, ix, lx⟩ := hr1.read hx
      obtain ⟨py, iy, ly⟩ := hr1.read hy
      have e3 : IntKind.i64.wrap (((k0 + 1 : Nat) : Int) - 1) = (k0 : Int) := by rw [wrap_id (by omega) (by omega)]; omega
      have e4 : IntKind.i64.wrap (((k0 + 1 : Nat) : Int) + 1) = ((k0 + 1 + 1 : Nat) : Int) := by rw [wrap_id (by omega) (by omega)]; omega
      simp only [e2, ↓uL.1, F45_s11, F45_s11_t]
      refine ⟨fun w' => w'.heap = w1.heap, rfl, HV_of (fun w' _ => iy w') (HV_of (fun w' hw => ly w' fun g _ => by rw [hw]) (HV_of (fun w' _ => run_sub) ?_))⟩
      rw [e3]
      refine HV_of (fun w' _ => ix w') (HV_of (fun w' hw => lx w' fun g _ => by rw [hw]) (HV_of (fun w' _ => run_eqE y x _ _ w') ?_))
      have hr1d : RowE w1.drew v l := hr1
      have hkpd : Keep (fun _ => False) w w1.drew := hkp.drew
      simp only [F45_s12]
      by_cases hxy : x = y
      · have e5 : decide (y = x) = true := by rw [decide_eq_true_eq]; exact hxy.symm
        simp only [e5, ↓uL.1, F45_s13, F45_s13_t, uv_eq (hr1d.run_drop (P := Tryz.prog) (l := k0 + 1) (by omega) und38 siz81 _), F45_s16]
        have hfirst : compF (l.take (k0 + 1)) = l.take (k0 + 1) := compF_nodup fun j a b ha hb => by
          have hj := (List.getElem?_eq_some_iff.1 hb).1
          rw [List.length_take] at hj
          refine hnd j a b (by omega) ?_ ?_
          · rw [List.getElem?_take_of_lt (by omega)] at ha; exact ha
          · rw [List.getElem?_take_of_lt (by omega)] at hb; exact hb
        refine ⟨fun v3 v5 w' => ∃ (i m : Nat) (L : List Ed), v3 = .int .i64 i ∧ v5 = .int .i64 m ∧ 1 ≤ m ∧ i < k0 + 1 + m ∧ k0 + 1 + m ≤ l.length ∧ L.length = l.length ∧ L.take i = compF (l.take (k0 + 1 + m)) ∧ L.drop (k0 + m) = l.drop (k0 + m) ∧ RowE w' v L ∧ Keep (fun b => rowB v = some b) w w',
          fun _ v5 _ => match v5 with | .int _ m => l.length - m.toNat | _ => 0, ⟨k0 + 1, 1, l, rfl, rfl, by omega, by omega, by omega, rfl, ?_, rfl, hr1d, hkpd.mono fun _ _ h => h.elim⟩, ?_⟩
        · rw [compF_step hx hy, if_pos hxy, List.append_nil, hfirst]
        rintro v3 v5 w2 ⟨i, m, L, rfl, rfl, hm, him, hml, hL, hLi, hLd, hr2, hk2⟩
        have hlv : dropV 2 v (k0 + 1) = dropV 2 v (k0 + 1) := rfl
        have hr2' : Row w2 83 2 v l.length (ecells L) := by rw [← hL]; exact hr2
        have hD := hr2'.drp (l := k0 + 1) (by omega)
        rw [show ecells L = L.flatMap Ed.cells from rfl, flat_drop Ed.len] at hD
        have hDl : l.length - (k0 + 1) = (L.drop (k0 + 1)).length := by rw [List.length_drop, hL]
        simp only [F45_s17, F45_s17_t, un_lenR und38 hD, ↓uL.1, F45_s18]
        rw [hDl] at hD
        have hDr : RowE w2 (dropV 2 v (k0 + 1)) (L.drop (k0 + 1)) := hD
        by_cases hmlt : m < l.length - (k0 + 1)
        · have e6 : decide ((m : Int) < ((l.length - (k0 + 1) : Nat) : Int)) = true := by rw [decide_eq_true_eq]; omega
          obtain ⟨m0, rfl⟩ : ∃ m0, m = m0 + 1 := ⟨m - 1, by omega⟩
          have hat : ∀ j, m0 ≤ j → (L.drop (k0 + 1))[j]? = l[k0 + 1 + j]? := fun j hj => by
            have : (L.drop (k0 + (m0 + 1)))[j - m0]? = (l.drop (k0 + (m0 + 1)))[j - m0]? := by rw [hLd]
            rw [List.getElem?_drop, List.getElem?_drop, show k0 + (m0 + 1) + (j - m0) = k0 + 1 + j by omega] at this
            rw [List.getElem?_drop]; exact this
          obtain ⟨a, ha⟩ : ∃ a, l[k0 + 1 + m0]? = some a := ⟨l[k0 + 1 + m0], List.getElem?_eq_getElem (by omega)⟩
          obtain ⟨b, hb⟩ : ∃ b, l[k0 + 1 + m0 + 1]? = some b := ⟨l[k0 + 1 + m0 + 1], List.getElem?_eq_getElem (by omega)⟩
          have ha' : (L.drop (k0 + 1))[m0]? = some a := by rw [hat m0 (by omega)]; exact ha
          have hb' : (L.drop (k0 + 1))[m0 + 1]? = some b := by rw [hat (m0 + 1) (by omega)]; exact hb
          obtain ⟨pa, ia, la⟩ := hDr.read ha'
          obtain ⟨pb, ib, lb⟩ := hDr.read hb'
          have e7 : IntKind.i64.wrap (((m0 + 1 : Nat) : Int) - 1) = (m0 : Int) := by rw [wrap_id (by omega) (by omega)]; omega
          have e8 : IntKind.i64.wrap (((m0 + 1 : Nat) : Int) + 1) = ((m0 + 1 + 1 : Nat) : Int) := by rw [wrap_id (by omega) (by omega)]; omega
          have e9 : IntKind.i64.wrap ((i : Int) + 1) = ((i + 1 : Nat) : Int) := by rw [wrap_id (by omega) (by omega)]; omega
          simp only [e6, ↓uL.1, F45_s21, F45_s21_t]
          refine ⟨fun w' => w'.heap = w2.heap, rfl, HV_of (fun w' _ => ib w') (HV_of (fun w' hw => lb w' fun g _ => by rw [hw]) (HV_of (fun w' _ => run_sub) ?_))⟩
          rw [e7]
          refine HV_of (fun w' _ => ia w') (HV_of (fun w' hw => la w' fun g _ => by rw [hw]) (HV_of (fun w' _ => run_neE b a _ _ w') ?_))
          have hr2d : Row w2.drew 83 2 v l.length (ecells L) := hr2'
          have hk2d : Keep (fun b => rowB v = some b) w w2.drew := hk2.drew
          have hst := compF_step (l := l) (m := k0 + 1 + m0) ha hb
          have hte : k0 + 1 + (m0 + 1 + 1) = k0 + 1 + m0 + 2 := by omega
          have hte2 : k0 + 1 + (m0 + 1) = k0 + 1 + m0 + 1 := by omega
          rw [hte2] at hLi
          have hLd' : L.drop (k0 + (m0 + 1 + 1)) = l.drop (k0 + (m0 + 1 + 1)) := by
            have := congrArg (List.drop 1) hLd
            rwa [List.drop_drop, List.drop_drop] at this
          simp only [F45_s22]
          by_cases hab : a = b
          · have e10 : (!decide (b = a)) = false := by rw [hab]; simp
            simp only [e10, ↓uL.1, F45_s20, F45_s20_t, e8]
            refine ⟨⟨i, m0 + 1 + 1, L, rfl, rfl, by omega, by omega, by omega, hL, ?_, ?_, hr2, hk2d⟩, by simp; omega⟩
            · rw [hte, hst, if_pos hab, List.append_nil, hLi]
            · exact hLd'
          · have e10 : (!decide (b = a)) = true := by
              have : ¬ b = a := fun e => hab e.symm
              simp [this]
            simp only [e10, ↓uL.1, F45_s23, F45_s23_t, uv_eq (ib _), uv_eq (lb w2.drew fun g _ => rfl)]
            obtain ⟨p, hp1, w5, hst5, hr5, hk5⟩ := hr2d.store (P := Tryz.prog) (q := .i64) (i := i) (ys := b.cells) (val := .agg b.cells.toArray) (by omega) und38 siz81 rfl (by intro u hu; exact ecells_one [b] u (by simpa [ecells] using hu)) rfl
            simp only [uv_eq (hp1 _), uu_eq hst5, ↓uL.1, e9, F45_s20, F45_s20_t, e8]
            have hcs : (ecells L).take (i * 2) ++ b.cells ++ (ecells L).drop ((i + 1) * 2) = ecells (L.set i b) := by
              have t1 : (ecells L).take (i * 2) = ecells (L.take i) := by
                have hle : (L.take i).length = i := by rw [List.length_take]; omega
                have e : L = L.take i ++ L.drop i := (List.take_append_drop i L).symm
                conv => lhs; rw [e]
                rw [show ecells (L.take i ++ L.drop i) = ecells (L.take i) ++ ecells (L.drop i) from List.flatMap_append]
                have hl2 : (ecells (L.take i)).length = i * 2 := by rw [show ecells (L.take i) = (L.take i).flatMap Ed.cells from rfl, flat_length Ed.len, hle]
                rw [← hl2, List.take_left]
              have t2 : (ecells L).drop ((i + 1) * 2) = ecells (L.drop (i + 1)) := flat_drop Ed.len L (i + 1)
              rw [t1, t2, List.set_eq_take_append_cons_drop, if_pos (by omega)]
              simp [ecells, List.flatMap_append]
            rw [hcs] at hr5
            refine ⟨⟨i + 1, m0 + 1 + 1, L.set i b, rfl, rfl, by omega, by omega, by omega, by rw [List.length_set, hL], ?_, ?_, ?_, hk2d.trans hk5 (fun _ _ h => h)⟩, by simp; omega⟩
            · rw [hte, hst, if_neg hab, ← hLi, List.take_add_one, List.getElem?_set_self (by omega), List.take_set_of_le (Nat.le_refl _)]
              rfl
            · rw [List.drop_set_of_lt (by omega)]; exact hLd'
            · show Row w5 _ _ v (L.set i b).length _
              rw [List.length_set, hL]; exact hr5
        · have e6 : decide ((m : Int) < ((l.length - (k0 + 1) : Nat) : Int)) = false := by rw [decide_eq_false_iff_not]; omega
          have hmm : k0 + 1 + m = l.length := by omega
          simp only [e6, ↓uL.1, F45_s15, F45_s15_t, uv_eq (hr2'.run_drop (P := Tryz.prog) (l := i) (by omega) und38 siz81 _)]
          refine un_clearR apE hr2' (by omega) (fun i z h1 h2 => zeroE' _ i z h1 h2) fun _ w3 zs h3 hk3 => ?_
          simp only [uv_eq (h3.run_take (P := Tryz.prog) (l := i) (by have := h3.n_cap.1; omega) und38 siz81 _)]
          have hT := h3.tak (l := i) (by omega)
          rw [hmm, List.take_length] at hLi
          have hll : (L.take i).length = i := by rw [List.length_take]; omega
          have t1 : (ecells L).take (i * 2) = ecells (L.take i) := by
            have e : L = L.take i ++ L.drop i := (List.take_append_drop i L).symm
            conv => lhs; rw [e]
            rw [show ecells (L.take i ++ L.drop i) = ecells (L.take i) ++ ecells (L.drop i) from List.flatMap_append]
            have hl2 : (ecells (L.take i)).length = i * 2 := by rw [show ecells (L.take i) = (L.take i).flatMap Ed.cells from rfl, flat_length Ed.len, hll]
            rw [← hl2, List.take_left]
          have hcl : ((ecells L).take (i * 2) ++ zs).take (i * 2) = ecells (compF l) := by
            have hl2 : (ecells (L.take i)).length = i * 2 := by rw [show ecells (L.take i) = (L.take i).flatMap Ed.cells from rfl, flat_length Ed.len, hll]
            rw [t1, List.take_append_of_le_length (by omega), List.take_of_length_le (by omega), hLi]
          rw [hcl] at hT
          have hlf : (compF l).length = i := by rw [← hLi]; exact hll
          refine h _ w3 (by unfold RowE; rw [hlf]; exact hT) (hk2.trans hk3 (fun _ _ h => h)) rowB_take
      · have e5 : decide (y = x) = false := by rw [decide_eq_false_iff_not]; exact fun e => hxy e.symm
        simp only [e5, ↓uL.1, F45_s10, F45_s10_t, e4]
        refine ⟨⟨k0 + 1 + 1, rfl, by omega, by omega, hr1d, hkpd, fun j a b hj ha hb => ?_⟩, by simp; omega⟩
        by_cases hjk : j = k0
        · subst hjk
          rw [hx] at ha; rw [hy] at hb
          cases ha; cases hb; exact hxy
        · exact hnd j a b (by omega) ha hb
    · have e2 : decide ((k : Int) < (l.length : Int)) = false := by rw [decide_eq_false_iff_not]; omega
      simp only [e2, ↓uL.1, F45_s5, F45_s5_t]
      have : compF l = l := compF_nodup fun j x y hx hy => hnd j x y (by have := (List.getElem?_eq_some_iff.1 hy).1; omega) hx hy
      rw [this] at h
      exact h v w1 hr1 (hkp.mono fun _ _ h => h.elim) rfl
end Go.Proofs.YtpghlemcgjogpaaGreat
