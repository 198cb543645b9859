/- Two lists of locks, of edges: are they one? -/
import Derived.Test.YtpghlemcgjogpaaGreatDC
import Derived.Test.YtpghlemcgjogpaaGreatFDC
set_option linter.unusedVariables false
set_option linter.unusedSimpArgs false
set_option linter.unnecessarySimpa false
set_option maxRecDepth 100000
namespace Go.Proofs.YtpghlemcgjogpaaGreat
open Go.Sx

theorem ba_beq (a b : ByteArray) : (a == b) = decide (a = b) := by
  cases a with
  | mk a =>
  cases b with
  | mk b =>
  show (a == b) = _
  by_cases h : a = b
  · subst h; simp
  · have : ¬ (ByteArray.mk a = ByteArray.mk b) := fun e => h (by cases e; rfl)
    rw [decide_eq_false this]
    simpa using h
theorem eqL0 (x y : Lk) (w : World) : (Op.equal 42 (.agg x.cells.toArray) (.agg y.cells.toArray)).run Tryz.prog w = .ok (x.txn == y.txn && (x.res == y.res && (x.mode == y.mode && true))) w := by
  have hl : (Tryz.prog.fieldsOf 42).toList = [(Tryz.prog.fieldsOf 42)[0]!, (Tryz.prog.fieldsOf 42)[1]!, (Tryz.prog.fieldsOf 42)[2]!] := by kernel_rfl
  have h0 : (Op.equalIn (9999 + 1) 42 (.agg x.cells.toArray) (.agg y.cells.toArray)).run Tryz.prog w = (Op.eqFields 9999 x.cells.toArray y.cells.toArray (Tryz.prog.fieldsOf 42).toList).run Tryz.prog w := run_equalIn_struct w 9999 42 _ _ (by kernel_rfl) (by kernel_rfl)
  show (Op.equalIn Op.maxDepth 42 _ _).run _ _ = _
  have hm : Op.maxDepth = 9999 + 1 := by decide
  rw [hm, h0, hl]
  refine eqf_cons (by kernel_rfl) (a := .int .i64 x.txn) (b := .int .i64 y.txn) (by kernel_rfl) (by kernel_rfl) (by kernel_rfl) (eqf_cons (by kernel_rfl) (a := .string x.res) (b := .string y.res) (by kernel_rfl) (by kernel_rfl) (by kernel_rfl)
    (eqf_cons (by kernel_rfl) (a := .int .i64 x.mode) (b := .int .i64 y.mode) (by kernel_rfl) (by kernel_rfl) (by kernel_rfl) eqf_nil))
theorem lkEq (x y : Lk) : (x.txn == y.txn && (x.res == y.res && (x.mode == y.mode && true))) = decide (x = y) := by
  obtain ⟨a, b, c⟩ := x
  obtain ⟨d, e, f⟩ := y
  rw [ba_beq, Bool.eq_iff_iff]
  simp
theorem run_neL (x y : Lk) (o o' : Operand) (w : World) : (binS .neq 42 o o' (.agg x.cells.toArray) (.agg y.cells.toArray)).run Tryz.prog w = .ok (.bool (!decide (x = y))) w := by
  have hg : (eqGuard .neq 42 o o' (.agg x.cells.toArray) (.agg y.cells.toArray)).run Tryz.prog w = .ok () w := by kernel_rfl
  have he := eqL0 x y w
  rw [lkEq] at he
  simp only [binS, Sem.run_bind, hg, Result.andThen_ok]
  show (binOp .neq 42 _ _).run Tryz.prog w = _
  simp only [binOp, Sem.run_bind, he, Result.andThen_ok, Sem.run_pure]
theorem RowL.load {w : World} {v : Value} {l : List Lk} {i : Nat} {x : Lk} (h : RowL w v l) (hx : l[i]? = some x) : ∃ p, (∀ w1, (Instr.indexAt 27 v (.int .i64 i)).run Tryz.prog w1 = .ok p w1) ∧ ∀ w1, w1.heap = w.heap → (Instr.loadAt 42 p).run Tryz.prog w1 = .ok (.agg x.cells.toArray) w1 := by
  obtain ⟨g, o, hg, hl, ix, cl⟩ := RowL.read h hx
  exact ⟨_, ix, fun w1 hw => run_loadN (n := 3) (by kernel_rfl) (by rw [hw]; exact cl)⟩
theorem sameLocks_c (a b : Value) (l m : List Lk) (w : World) (ha : RowL w a l) (hb : RowL w b m) (R : Ending → World → Prop) (h : ∀ w', Keep0 w w' → R (.returned (.bool (decide (l = m)))) w') :
    Calls Tryz.prog 36 #[a, b] w R := by
  apply F36_calls
  have hbd := ha.bound
  have hmax2 : maxLen ≤ 9223372036854775807 := by decide
  simp only [F36_s1, F36_s1_t, un_lenR und32 ha, un_lenR und32 hb, ↓uL.1, F36_s2]
  by_cases hlm : l.length = m.length
  · have e1 : ((l.length : Int) != (m.length : Int)) = false := by simp [hlm]
    simp only [e1, ↓uL.1, F36_s3, F36_s3_t, F36_s6]
    refine ⟨fun v5 w' => ∃ i : Nat, v5 = .int .i64 i ∧ i ≤ l.length ∧ Keep0 w w' ∧ ∀ j, j < i → l[j]? = m[j]?, fun v5 _ => match v5 with | .int _ i => l.length - i.toNat | _ => 0, ⟨0, rfl, by omega, Keep.refl _ w, fun j hj => by omega⟩, ?_⟩
    rintro v5 w1 ⟨i, rfl, hi, hk, hn⟩
    have ha1 := ha.keep hk (fun _ _ => id)
    have hb1 := hb.keep hk (fun _ _ => id)
    simp only [F36_s7, F36_s7_t, un_lenR und32 ha1, ↓uL.1, F36_s8]
    by_cases hlt : i < l.length
    · have e2 : decide ((i : Int) < (l.length : Int)) = true := by rw [decide_eq_true_eq]; omega
      obtain ⟨x, hx⟩ : ∃ x, l[i]? = some x := ⟨l[i], List.getElem?_eq_getElem hlt⟩
      obtain ⟨y, hy⟩ : ∃ y, m[i]? = some y := ⟨m[i]'(by omega), List.getElem?_eq_getElem (by omega)⟩
      obtain ⟨px, ix, lx⟩ := RowL.load ha1 hx
      obtain ⟨py, iy, ly⟩ := RowL.load hb1 hy
      simp only [e2, ↓uL.1, F36_s11, F36_s11_t]
      refine ⟨fun w' => w'.heap = w1.heap, rfl, HV_of (fun w' _ => ix w') (HV_of (fun w' hw => lx w' hw) (HV_of (fun w' _ => iy w') (HV_of (fun w' hw => ly w' hw) (HV_of (fun w' _ => run_neL x y _ _ w') ?_))))⟩
      simp only [F36_s12]
      have hkd : Keep0 w w1.drew := hk.drew
      by_cases hxy : x = y
      · have e3 : IntKind.i64.wrap ((i : Int) + 1) = ((i + 1 : Nat) : Int) := by rw [wrap_id (by omega) (by omega)]; omega
        rw [decide_eq_true hxy]
        simp only [Bool.not_true, ↓uL.1, F36_s10, F36_s10_t, e3]
        refine ⟨⟨i + 1, rfl, by omega, hkd, fun j hj => ?_⟩, by simp; omega⟩
        by_cases hji : j = i
        · subst hji
          rw [hx, hy, hxy]
        · exact hn j (by omega)
      · rw [decide_eq_false hxy]
        simp only [Bool.not_false, ↓uL.1, F36_s13, F36_s13_t]
        have : decide (l = m) = false := by
          rw [decide_eq_false_iff_not]
          rintro rfl
          rw [hx] at hy
          cases hy
          exact hxy rfl
        rw [this] at h
        exact h _ hkd
    · have e2 : decide ((i : Int) < (l.length : Int)) = false := by rw [decide_eq_false_iff_not]; omega
      simp only [e2, ↓uL.1, F36_s5, F36_s5_t]
      have : decide (l = m) = true := by
        rw [decide_eq_true_eq]
        apply List.ext_getElem?
        intro j
        by_cases hj : j < i
        · exact hn j hj
        · rw [List.getElem?_eq_none (by omega), List.getElem?_eq_none (by omega)]
      rw [this] at h
      exact h _ hk
  · have e1 : ((l.length : Int) != (m.length : Int)) = true := by
      have : ¬ ((l.length : Int) = (m.length : Int)) := by omega
      simpa using this
    simp only [e1, ↓uL.1, F36_s14, F36_s14_t]
    have : decide (l = m) = false := by rw [decide_eq_false_iff_not]; rintro rfl; exact hlm rfl
    rw [this] at h
    exact h w (Keep.refl _ w)
theorem sameEdges_c (a b : Value) (l m : List Ed) (w : World) (ha : RowE w a l) (hb : RowE w b m) (R : Ending → World → Prop) (h : ∀ w', Keep0 w w' → R (.returned (.bool (decide (l = m)))) w') :
    Calls Tryz.prog 37 #[a, b] w R := by
  apply F37_calls
  have hbd := ha.bound
  have hmax2 : maxLen ≤ 9223372036854775807 := by decide
  simp only [F37_s1, F37_s1_t, un_lenR und38 ha, un_lenR und38 hb, ↓uL.1, F37_s2]
  by_cases hlm : l.length = m.length
  · have e1 : ((l.length : Int) != (m.length : Int)) = false := by simp [hlm]
    simp only [e1, ↓uL.1, F37_s3, F37_s3_t, F37_s6]
    refine ⟨fun v5 w' => ∃ i : Nat, v5 = .int .i64 i ∧ i ≤ l.length ∧ Keep0 w w' ∧ ∀ j, j < i → l[j]? = m[j]?, fun v5 _ => match v5 with | .int _ i => l.length - i.toNat | _ => 0, ⟨0, rfl, by omega, Keep.refl _ w, fun j hj => by omega⟩, ?_⟩
    rintro v5 w1 ⟨i, rfl, hi, hk, hn⟩
    have ha1 := ha.keep hk (fun _ _ => id)
    have hb1 := hb.keep hk (fun _ _ => id)
    simp only [F37_s7, F37_s7_t, un_lenR und38 ha1, ↓uL.1, F37_s8]
    by_cases hlt : i < l.length
    · have e2 : decide ((i : Int) < (l.length : Int)) = true := by rw [decide_eq_true_eq]; omega
      obtain ⟨x, hx⟩ : ∃ x, l[i]? = some x := ⟨l[i], List.getElem?_eq_getElem hlt⟩
      obtain ⟨y, hy⟩ : ∃ y, m[i]? = some y := ⟨m[i]'(by omega), List.getElem?_eq_getElem (by omega)⟩
      obtain ⟨px, ix, lx⟩ := RowE.read ha1 hx
      obtain ⟨py, iy, ly⟩ := RowE.read hb1 hy
      simp only [e2, ↓uL.1, F37_s11, F37_s11_t]
      refine ⟨fun w' => w'.heap = w1.heap, rfl, HV_of (fun w' _ => ix w') (HV_of (fun w' hw => lx w' fun g _ => by rw [hw]) (HV_of (fun w' _ => iy w') (HV_of (fun w' hw => ly w' fun g _ => by rw [hw]) (HV_of (fun w' _ => run_neE x y _ _ w') ?_))))⟩
      simp only [F37_s12]
      have hkd : Keep0 w w1.drew := hk.drew
      by_cases hxy : x = y
      · have e3 : IntKind.i64.wrap ((i : Int) + 1) = ((i + 1 : Nat) : Int) := by rw [wrap_id (by omega) (by omega)]; omega
        rw [decide_eq_true hxy]
        simp only [Bool.not_true, ↓uL.1, F37_s10, F37_s10_t, e3]
        refine ⟨⟨i + 1, rfl, by omega, hkd, fun j hj => ?_⟩, by simp; omega⟩
        by_cases hji : j = i
        · subst hji
          rw [hx, hy, hxy]
        · exact hn j (by omega)
      · rw [decide_eq_false hxy]
        simp only [Bool.not_false, ↓uL.1, F37_s13, F37_s13_t]
        have : decide (l = m) = false := by
          rw [decide_eq_false_iff_not]
          rintro rfl
          rw [hx] at hy
          cases hy
          exact hxy rfl
        rw [this] at h
        exact h _ hkd
    · have e2 : decide ((i : Int) < (l.length : Int)) = false := by rw [decide_eq_false_iff_not]; omega
      simp only [e2, ↓uL.1, F37_s5, F37_s5_t]
      have : decide (l = m) = true := by
        rw [decide_eq_true_eq]
        apply List.ext_getElem?
        intro j
        by_cases hj : j < i
        · exact hn j hj
        · rw [List.getElem?_eq_none (by omega), List.getElem?_eq_none (by omega)]
      rw [this] at h
      exact h _ hk
  · have e1 : ((l.length : Int) != (m.length : Int)) = true := by
      have : ¬ ((l.length : Int) = (m.length : Int)) := by omega
      simpa using this
    simp only [e1, ↓uL.1, F37_s14, F37_s14_t]
    have : decide (l = m) = false := by rw [decide_eq_false_iff_not]; rintro rfl; exact hlm rfl
    rw [this] at h
    exact h w (Keep.refl _ w)
/-- Asking for what one has. -/
theorem Run.again {T0 T : Tab} {w0 w : World} {S : List Int} {i : Nat} (h : Run T0 w0 w T S i) (hi : i ≤ 1048576) (t : Int) (r : ByteArray) (m : Int) (he : Go.Proofs.YtpghlemcgjogpaaGreat.ask T.abs t r m = (1, T.abs)) (R : Ending → World → Prop)
    (hR : ∀ w' T', Run T0 w0 w' T' S i → T'.abs = T.abs → Keep T.foot w w' → (∀ b, T'.foot b → T.foot b ∨ w.heap.size ≤ b) → R (.returned (.int .i64 1)) w') : Calls Tryz.prog 6 #[ptr T0.bt, .int .i64 t, .string r, .int .i64 m] w R := by
  rw [← h.bt]
  refine ask_c T r t m w h.tab (inv_qbig h.inv hi) R fun w' T' hA => ?_
  rw [he] at hA ⊢
  refine hR w' T' ⟨hA.at', hA.bt.trans h.bt, by rw [hA.abs]; exact h.inv, h.sl, fun b hb => ?_, h.keep.trans hA.keep (fun b hb hf => ?_)⟩ hA.abs hA.keep hA.foot
  · have := h.keep.size
    exact (hA.foot b hb).elim (h.foot b) (fun hb => by omega)
  · have := h.foot b hf; omega
end Go.Proofs.YtpghlemcgjogpaaGreat
