/- SameInts; the first example of the document. -/
import Derived.Test.YtpghlemcgjogpaaGreatCQ
import Derived.Test.YtpghlemcgjogpaaGreatFDA
set_option linter.unusedVariables false
set_option linter.unusedSimpArgs false
set_option linter.unnecessarySimpa false
set_option maxRecDepth 100000
namespace Go.Proofs.YtpghlemcgjogpaaGreat
open Go.Sx

theorem RowI.read {w : World} {v : Value} {l : List Int} {i : Nat} {x : Int} (h : RowI w v l) (hx : l[i]? = some x) : ∃ p, (∀ w1, (Instr.indexAt 35 v (.int .i64 i)).run Tryz.prog w1 = .ok p w1) ∧ ∀ w1, (∀ g, rowB v = some g → w1.heap[g]? = w.heap[g]?) → (Instr.loadAt 3 p).run Tryz.prog w1 = .ok (.int .i64 x) w1 := by
  have hlt := (List.getElem?_eq_some_iff.1 hx).1
  obtain ⟨g, o, hg, hixx, hcl⟩ := h.elem (P := Tryz.prog) (q := .i64) (i := i) hlt und55' siz3'
  rw [ints_at hx] at hcl
  refine ⟨_, hixx, fun w1 hw => run_load1 (by kernel_rfl) ?_⟩
  rw [hw g hg]
  have := cellIn_of_cells (j := 0) hcl (by omega)
  simpa using this
theorem run_neI {P : Program} {w : World} {t : Nat} {x y : Operand} {q : IntKind} {a b : Int} : (binS .neq t x y (.int q a) (.int q b)).run P w = .ok (.bool (a != b)) w := by simp [binS, eqGuard, binOp, Op.intCmp]
theorem sameInts_c (a b : Value) (l m : List Int) (w : World) (ha : RowI w a l) (hb : RowI w b m) (R : Ending → World → Prop) (h : ∀ w', Keep0 w w' → R (.returned (.bool (decide (l = m)))) w') :
    Calls Tryz.prog 8 #[a, b] w R := by
  apply F8_calls
  have hbd := ha.bound
  have hmax2 : maxLen ≤ 9223372036854775807 := by decide
  simp only [F8_s1, F8_s1_t, un_lenR und55' ha, un_lenR und55' hb, ↓uL.1, F8_s2]
  by_cases hlm : l.length = m.length
  · have e1 : ((l.length : Int) != (m.length : Int)) = false := by simp [hlm]
    simp only [e1, ↓uL.1, F8_s3, F8_s3_t, F8_s6]
    refine ⟨fun v5 w' => ∃ i : Nat, v5 = .int .i64 i ∧ i ≤ l.length ∧ Keep0 w w' ∧ ∀ j, j < i → l[j]? = m[j]?, fun v5 _ => match v5 with | .int _ i => l.length - i.toNat | _ => 0, ⟨0, rfl, by omega, Keep.refl _ w, fun j hj => by omega⟩, ?_⟩
    rintro v5 w1 ⟨i, rfl, hi, hk, hn⟩
    have ha1 := ha.keep hk (fun _ _ => id)
    have hb1 := hb.keep hk (fun _ _ => id)
    simp only [F8_s7, F8_s7_t, un_lenR und55' ha1, ↓uL.1, F8_s8]
    by_cases hlt : i < l.length
    · have e2 : decide ((i : Int) < (l.length : Int)) = true := by rw [decide_eq_true_eq]; omega
      obtain ⟨x, hx⟩ : ∃ x, l[i]? = some x := ⟨l[i], List.getElem?_eq_getElem hlt⟩
      obtain ⟨y, hy⟩ : ∃ y, m[i]? = some y := ⟨m[i]'(by omega), List.getElem?_eq_getElem (by omega)⟩
      obtain ⟨px, ix, lx⟩ := RowI.read ha1 hx
      obtain ⟨py, iy, ly⟩ := RowI.read hb1 hy
      simp only [e2, ↓uL.1, F8_s11, F8_s11_t]
      refine ⟨fun w' => w'.heap = w1.heap, rfl, HV_of (fun w' _ => ix w') (HV_of (fun w' hw => lx w' fun g _ => by rw [hw]) (HV_of (fun w' _ => iy w') (HV_of (fun w' hw => ly w' fun g _ => by rw [hw]) (HV_of (fun w' _ => run_neI) ?_))))⟩
      simp only [F8_s12]
      have hkd : Keep0 w w1.drew := hk.drew
      cases hxy : (x != y)
      · have e3 : IntKind.i64.wrap ((i : Int) + 1) = ((i + 1 : Nat) : Int) := by rw [wrap_id (by omega) (by omega)]; omega
        simp only [↓uL.1, F8_s10, F8_s10_t, e3]
        refine ⟨⟨i + 1, rfl, by omega, hkd, fun j hj => ?_⟩, by simp; omega⟩
        by_cases hji : j = i
        · subst hji
          have : x = y := by simpa using hxy
          rw [hx, hy, this]
        · exact hn j (by omega)
      · simp only [↓uL.1, F8_s13, F8_s13_t]
        have : decide (l = m) = false := by
          rw [decide_eq_false_iff_not]
          rintro rfl
          rw [hx] at hy
          cases hy
          simp at hxy
        rw [this] at h
        exact h _ hkd
    · have e2 : decide ((i : Int) < (l.length : Int)) = false := by rw [decide_eq_false_iff_not]; omega
      simp only [e2, ↓uL.1, F8_s5, F8_s5_t]
      have : decide (l = m) = true := by
        rw [decide_eq_true_eq]
        apply List.ext_getElem?
        intro j
        by_cases hj : j < i
        · exact hn j hj
        · rw [List.getElem?_eq_none (by omega), List.getElem?_eq_none (by omega)]
      rw [this] at h
      exact h _ hk
  · have e1 : ((l.length : Int) != (m.length : Int)) = true := by
      have : ¬ ((l.length : Int) = (m.length : Int)) := by omega
      simpa using this
    simp only [e1, ↓uL.1, F8_s14, F8_s14_t]
    have : decide (l = m) = false := by rw [decide_eq_false_iff_not]; rintro rfl; exact hlm rfl
    rw [this] at h
    exact h w (Keep.refl _ w)

/-! ### The example's states -/
abbrev sA : ByteArray := ⟨#[97]⟩
abbrev sB : ByteArray := ⟨#[98]⟩
def A0 : Abs := ⟨[], []⟩
def A1 : Abs := ⟨[(sA, [(1, 3)], [])], []⟩
def A2 : Abs := ⟨[(sA, [(1, 3)], [⟨2, 6, false⟩])], [(2, sA)]⟩
def A3 : Abs := ⟨[(sA, [(1, 3)], [⟨2, 6, false⟩, ⟨3, 3, false⟩])], [(2, sA), (3, sA)]⟩
def A4 : Abs := ⟨[(sA, [(2, 6)], [⟨3, 3, false⟩])], [(3, sA)]⟩
def A5 : Abs := ⟨[(sA, [(3, 3)], [])], []⟩
theorem ask01 : ask A0 1 sA 3 = (1, A1) := by kernel_rfl
theorem ask12 : ask A1 2 sA 6 = (2, A2) := by kernel_rfl
theorem ask23 : ask A2 3 sA 3 = (2, A3) := by kernel_rfl
theorem ask33 : ask A3 3 sB 3 = (0, A3) := by kernel_rfl
theorem sortS1 (s : ByteArray) : sortS [s] = [s] := by simp [sortS]
theorem sortI1 (s : Int) : sortI [s] = [s] := by simp [sortI]
theorem drop34 : dropF A3 1 = ([2], A4) := by
  show (sortS [sA]).foldl _ _ = _
  rw [sortS1]
  kernel_rfl
theorem drop45 : dropF A4 2 = ([3], A5) := by
  show (sortS [sA]).foldl _ _ = _
  rw [sortS1]
  kernel_rfl
theorem locks5 : (locksF A5).length = 1 := by
  show ((sortS [sA]).flatMap _).length = 1
  rw [sortS1]
  show ((sortI [3]).map _ ++ []).length = 1
  rw [sortI1]; rfl
theorem edges3 : (edgesF A3).length = 2 := by
  have e : A3.waits.flatMap (edgesOf A3) = [⟨2, 1⟩, ⟨3, 2⟩] := by kernel_rfl
  unfold edgesF
  rw [e]
  have : sortEd [⟨2, 1⟩, ⟨3, 2⟩] = [⟨2, 1⟩, ⟨3, 2⟩] := by
    unfold sortEd
    exact List.mergeSort_of_pairwise (by decide)
  rw [this]; rfl
theorem wish3 : wishF A3 2 = (⟨2, sA, 6⟩, true) := by kernel_rfl
theorem queue3 : (queueF A3 sA).length = 2 := by kernel_rfl
end Go.Proofs.YtpghlemcgjogpaaGreat
