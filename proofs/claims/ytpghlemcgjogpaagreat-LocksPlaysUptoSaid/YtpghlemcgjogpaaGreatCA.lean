/- What the functions of the modes come to, and cmp's two. -/
import Derived.Test.YtpghlemcgjogpaaGreatFA
import Derived.Test.YtpghlemcgjogpaaGreatSxm
set_option linter.unusedVariables false
set_option linter.unusedSimpArgs false
namespace Go.Proofs.YtpghlemcgjogpaaGreat
open Go.Sx

theorem right_c (m : Int) (w : World) (R : Ending → World → Prop) (h : R (.returned (.bool (decide (1 ≤ m ∧ m ≤ 6)))) w) : Calls Tryz.prog 17 #[.int .i64 m] w R := by
  apply F17_calls
  simp only [F17_s1_t, F17_s1, ↓uL.1, ge_iff_le]
  by_cases h1 : 1 ≤ m
  · simp only [h1, decide_true, ↓uL.1, if_true]
    simpa only [h1, true_and] using h
  · simp only [h1, decide_false, ↓uL.1, Bool.false_eq_true, if_false]
    simpa only [h1, false_and, decide_false] using h
def knw (m : Int) : Bool := decide (0 ≤ m ∧ m ≤ 6)
theorem known_c (m : Int) (w : World) (R : Ending → World → Prop) (h : R (.returned (.bool (knw m))) w) : Calls Tryz.prog 48 #[.int .i64 m] w R := by
  apply F48_calls
  simp only [F48_s1_t, F48_s1, ↓uL.1]
  by_cases h1 : m = 0
  · subst h1
    simp only [BEq.rfl, ↓uL.1, if_true]
    simpa [knw] using h
  · have h2 : (m == 0) = false := by simpa using h1
    simp only [h2, ↓uL.1, Bool.false_eq_true, if_false]
    refine un_enter (enters Tryz.func17 (by kernel_rfl) (by kernel_rfl) _ _) (right_c _ _ _ ?_)
    simp only [↓uL.1, Bool.false_eq_true, if_false]
    have : knw m = decide (1 ≤ m ∧ m ≤ 6) := by unfold knw; rw [decide_eq_decide]; omega
    rwa [this] at h
def rts (m : Int) : Int := if m = 1 then 1 else if m = 2 then 3 else if m = 3 then 5 else if m = 4 then 7 else if m = 5 then 13 else if m = 6 then 31 else 0
theorem rights_c (m : Int) (w : World) (R : Ending → World → Prop) (h : R (.returned (.int .i64 (rts m))) w) : Calls Tryz.prog 50 #[.int .i64 m] w R := by
  apply F50_calls
  unfold rts at h
  simp only [F50_s3_t, F50_s3, F50_s6_t, F50_s6, F50_s9_t, F50_s9, F50_s12_t, F50_s12, F50_s15_t, F50_s15, F50_s18_t, F50_s18, F50_s21_t, F50_s21, F50_s20, F50_s19_t, F50_s19, F50_s17, F50_s16_t, F50_s16, F50_s14, F50_s13_t, F50_s13, F50_s11, F50_s10_t, F50_s10, F50_s8, F50_s7_t, F50_s7, F50_s5, F50_s4_t, F50_s4, F50_s1_t, F50_s1, ↓uL.1, Bc_bool, beq_iff_eq]
  repeat' split
  all_goals simp_all

/-- The weakest mode from i on that allows all these bits. -/
def wkn (bits : Int) : Nat → Int → Int
  | 0, _ => 6
  | n + 1, i => if (band (rts i) bits == bits) = true then i else wkn bits n (i + 1)
theorem weakest_c (bits : Int) (w : World) (R : Ending → World → Prop) (h : R (.returned (.int .i64 (wkn bits 7 0))) w) : Calls Tryz.prog 49 #[.int .i64 bits] w R := by
  apply F49_calls
  have hb : ∀ w, (Instr.build 105 #[(0, (Go.Value.int Go.IntKind.i64 0)), (1, (Go.Value.int Go.IntKind.i64 1)), (2, (Go.Value.int Go.IntKind.i64 2)), (3, (Go.Value.int Go.IntKind.i64 3)), (4, (Go.Value.int Go.IntKind.i64 4)), (5, (Go.Value.int Go.IntKind.i64 5)), (6, (Go.Value.int Go.IntKind.i64 6))]).run Tryz.prog w =
      .ok (.agg #[.int .i64 0, .int .i64 1, .int .i64 2, .int .i64 3, .int .i64 4, .int .i64 5, .int .i64 6]) w := fun w => by kernel_rfl
  have hix : ∀ (n : Nat) w, n < 7 → (Instr.index 105 (.agg #[.int .i64 0, .int .i64 1, .int .i64 2, .int .i64 3, .int .i64 4, .int .i64 5, .int .i64 6]) (.int .i64 n)).run Tryz.prog w = .ok (.int .i64 n) w := by
    intro n w hn
    obtain rfl | rfl | rfl | rfl | rfl | rfl | rfl : n = 0 ∨ n = 1 ∨ n = 2 ∨ n = 3 ∨ n = 4 ∨ n = 5 ∨ n = 6 := by omega
    all_goals kernel_rfl
  simp only [F49_s1, F49_s1_t, uv_eq (hb _), F49_s4]
  refine ⟨fun v w' => ∃ n : Nat, n ≤ 7 ∧ v = .int .i64 n ∧ w' = w ∧ wkn bits (7 - n) n = wkn bits 7 0, fun v _ => match v with | .int _ n => 7 - n.toNat | _ => 0, ⟨0, by omega, rfl, rfl, rfl⟩, ?_⟩
  rintro v w' ⟨n, hn, rfl, rfl, hw⟩
  simp only [F49_s5, F49_s5_t, F49_s6, ↓uL.1]
  by_cases hlt : n < 7
  · have e1 : decide ((n : Int) < 7) = true := by simp; omega
    simp only [e1, ↓uL.1, F49_s9, F49_s9_t, uv_eq (hix n _ hlt)]
    refine un_enter (enters Tryz.func50 (by kernel_rfl) (by kernel_rfl) _ _) (rights_c _ _ _ ?_)
    simp only [↓uL.1, F49_s10, Bc_bool]
    have e2 : 7 - n = (7 - (n + 1)) + 1 := by omega
    rw [e2, wkn] at hw
    split
    · rename_i hc
      rw [if_pos hc] at hw
      simp only [F49_s11, F49_s11_t]
      rw [hw]; exact h
    · rename_i hc
      rw [if_neg hc] at hw
      simp only [F49_s8, F49_s8_t, ↓uL.1]
      have e3 : IntKind.i64.wrap ((n : Int) + 1) = ((n + 1 : Nat) : Int) := by rw [wrap_id (by omega) (by omega)]; omega
      rw [e3]
      exact ⟨⟨n + 1, by omega, rfl, by trivial, by rw [← hw]; congr 1⟩, by simp; omega⟩
  · have e1 : decide ((n : Int) < 7) = false := by simp; omega
    obtain rfl : n = 7 := by omega
    simp only [e1, ↓uL.1, F49_s3, F49_s3_t]
    rw [← hw] at h
    exact h

def jn (a b : Int) : Int := if knw a && knw b then wkn (bor (rts a) (rts b)) 7 0 else 0
theorem join_c (a b : Int) (w : World) (R : Ending → World → Prop) (h : R (.returned (.int .i64 (jn a b))) w) : Calls Tryz.prog 18 #[.int .i64 a, .int .i64 b] w R := by
  apply F18_calls
  simp only [F18_s1, F18_s1_t]
  unfold jn at h
  refine un_enter (enters Tryz.func48 (by kernel_rfl) (by kernel_rfl) _ _) (known_c _ _ _ ?_)
  simp only [↓uL.1, F18_s2]
  cases h1 : knw a
  · simp only [Bool.not_false, ↓uL.1, if_true, F18_s4, F18_s4_t]
    simpa [h1] using h
  · simp only [Bool.not_true, ↓uL.1]
    refine un_enter (enters Tryz.func48 (by kernel_rfl) (by kernel_rfl) _ _) (known_c _ _ _ ?_)
    simp only [↓uL.1, Bool.false_eq_true, if_false]
    cases h2 : knw b
    · simp only [Bool.not_false, ↓uL.1, F18_s4, F18_s4_t]
      simpa [h1, h2] using h
    · simp only [Bool.not_true, ↓uL.1, F18_s3, F18_s3_t]
      refine un_enter (enters Tryz.func50 (by kernel_rfl) (by kernel_rfl) _ _) (rights_c _ _ _ ?_)
      refine un_enter (enters Tryz.func50 (by kernel_rfl) (by kernel_rfl) _ _) (rights_c _ _ _ ?_)
      simp only [↓uL.1]
      refine un_enter (enters Tryz.func49 (by kernel_rfl) (by kernel_rfl) _ _) (weakest_c _ _ _ ?_)
      simpa [h1, h2] using h

def chg (x y : Int) : Bool := (band x 2 != 0 && band y 12 != 0) || band x 16 != 0
theorem chg_c (x y : Int) (w : World) (R : Ending → World → Prop) (h : R (.returned (.bool (chg x y))) w) : Calls Tryz.prog 59 #[.int .i64 x, .int .i64 y] w R := by
  apply F59_calls
  simp only [F59_s1_t, F59_s1, ↓uL.1]
  unfold chg at h
  cases h1 : (band x 2 != 0) <;> simp only [h1, ↓uL.1, if_true, Bool.false_eq_true, if_false]
  · cases h3 : (band x 16 != 0) <;> simpa [h1, h3] using h
  · cases h2 : (band y 12 != 0) <;> simp only [h2, ↓uL.1, if_true, Bool.false_eq_true, if_false]
    · cases h3 : (band x 16 != 0) <;> simpa [h1, h2, h3] using h
    · simpa [h1, h2] using h

def tgx (x y : Int) : Bool := if (x == 0) || (y == 0) then true else !chg x y && !chg y x && (band (band x y) 8 == 0)
def tg (a b : Int) : Bool := if knw a && knw b then tgx (rts a) (rts b) else false
theorem together_c (a b : Int) (w : World) (R : Ending → World → Prop) (h : R (.returned (.bool (tg a b))) w) : Calls Tryz.prog 40 #[.int .i64 a, .int .i64 b] w R := by
  apply F40_calls
  simp only [F40_s1, F40_s1_t]
  unfold tg at h
  refine un_enter (enters Tryz.func48 (by kernel_rfl) (by kernel_rfl) _ _) (known_c _ _ _ ?_)
  simp only [↓uL.1, F40_s2]
  cases h1 : knw a
  · simp only [Bool.not_false, ↓uL.1, if_true, F40_s7, F40_s7_t]
    simpa [h1] using h
  simp only [Bool.not_true, ↓uL.1]
  refine un_enter (enters Tryz.func48 (by kernel_rfl) (by kernel_rfl) _ _) (known_c _ _ _ ?_)
  simp only [↓uL.1, Bool.false_eq_true, if_false]
  cases h2 : knw b
  · simp only [Bool.not_false, ↓uL.1, F40_s7, F40_s7_t]
    simpa [h1, h2] using h
  simp only [Bool.not_true, ↓uL.1, F40_s3, F40_s3_t]
  refine un_enter (enters Tryz.func50 (by kernel_rfl) (by kernel_rfl) _ _) (rights_c _ _ _ ?_)
  refine un_enter (enters Tryz.func50 (by kernel_rfl) (by kernel_rfl) _ _) (rights_c _ _ _ ?_)
  simp only [↓uL.1, F40_s4]
  simp only [h1, h2, Bool.and_true, if_true] at h
  generalize rts a = x at h ⊢
  generalize rts b = y at h ⊢
  unfold tgx at h
  cases h3 : (x == 0)
  · simp only [↓uL.1, Bool.false_eq_true, if_false]
    cases h4 : (y == 0)
    · simp only [↓uL.1, F40_s5, F40_s5_t]
      simp only [h3, h4, Bool.or_false, Bool.false_eq_true, if_false] at h
      refine un_enter (callV_func (enters Tryz.func59 (by kernel_rfl) (by kernel_rfl) _ _)) (chg_c _ _ _ _ ?_)
      simp only [↓uL.1]
      cases h5 : chg x y
      · simp only [Bool.not_false, ↓uL.1]
        refine un_enter (callV_func (enters Tryz.func59 (by kernel_rfl) (by kernel_rfl) _ _)) (chg_c _ _ _ _ ?_)
        simp only [↓uL.1, if_true]
        cases h6 : chg y x
        · simp only [Bool.not_false, ↓uL.1, if_true]
          simpa [h5, h6] using h
        · simp only [Bool.not_true, ↓uL.1, Bool.false_eq_true, if_false]
          simpa [h5, h6] using h
      · simp only [Bool.not_true, ↓uL.1, Bool.false_eq_true, if_false]
        simpa [h5] using h
    · simp only [↓uL.1, F40_s6, F40_s6_t]
      simpa [h3, h4] using h
  · simp only [↓uL.1, if_true, F40_s6, F40_s6_t]
    simpa [h3] using h

theorem isNaN_c (x : Int) (w : World) (R : Ending → World → Prop) (h : R (.returned (.bool false)) w) : Calls Tryz.prog 62 #[.int .i64 x] w R := by
  apply F62_calls
  simp only [F62_s1_t, F62_s1, ↓uL.1, bne_self_eq_false]
  exact h
def cmpI (x y : Int) : Int := if x < y then -1 else if x > y then 1 else 0
theorem compare_c (x y : Int) (w : World) (R : Ending → World → Prop) (h : R (.returned (.int .i64 (cmpI x y))) w) : Calls Tryz.prog 44 #[.int .i64 x, .int .i64 y] w R := by
  apply F44_calls
  unfold cmpI at h
  simp only [F44_s1, F44_s1_t]
  refine un_enter (enters Tryz.func62 (by kernel_rfl) (by kernel_rfl) _ _) (isNaN_c _ _ _ ?_)
  refine un_enter (enters Tryz.func62 (by kernel_rfl) (by kernel_rfl) _ _) (isNaN_c _ _ _ ?_)
  simp only [F44_s9_t, F44_s9, F44_s10_t, F44_s10, F44_s8, F44_s7_t, F44_s7, F44_s11_t, F44_s11, F44_s6, F44_s5_t, F44_s5, F44_s12_t, F44_s12, F44_s4, F44_s3_t, F44_s3, F44_s15_t, F44_s15, F44_s16_t, F44_s16, F44_s14, F44_s13_t, F44_s13, F44_s2, F44_s1_t, F44_s1, ↓uL.1, Bc_bool, decide_eq_true_eq, gt_iff_lt] at h ⊢
  repeat' split
  all_goals simp_all
end Go.Proofs.YtpghlemcgjogpaaGreat
