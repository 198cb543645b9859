/- LocksRow, the plain law: those that wait in a row. -/
import Derived.Test.YtpghlemcgjogpaaCS
set_option linter.unusedVariables false
set_option linter.unusedSimpArgs false
set_option linter.unnecessarySimpa false
set_option maxRecDepth 100000
namespace Go.Proofs.Ytpghlemcgjogpaa
open Go.Sx

def rowW (l : List Int) : List Wi := l.map fun t => ⟨t, 6, false⟩
def rowA : List Int → Abs
  | [] => A0
  | r :: rest => ⟨[(sA, [(r, 6)], rowW rest)], rest.map fun t => (t, sA)⟩
theorem tg66 : tg 6 6 = false := by kernel_rfl
theorem jn06 : jn 0 6 = 6 := by kernel_rfl
theorem pget_row {l : List Int} {t : Int} (h : t ∉ l) : pget (l.map fun t => (t, sA)) t = none := by
  induction l with
  | nil => rfl
  | cons a l ih =>
    simp only [List.mem_cons, not_or] at h
    simp only [List.map_cons, pget]
    rw [if_neg (fun e => h.1 e.symm)]
    exact ih h.2
theorem ask_row0 (t : Int) : ask A0 t sA 6 = (1, rowA [t]) := by
  have hm : modeOf [] t = 0 := rfl
  unfold ask
  have h1 : (!decide (1 ≤ (6 : Int) ∧ (6 : Int) ≤ 6) || (pget A0.waits t).isSome) = false := rfl
  rw [h1]
  simp only [Bool.false_eq_true, if_false]
  show ask2 _ t sA 6 [] [] = _
  unfold ask2
  simp only [hm, jn06]
  rfl
theorem ask_row (r t : Int) (l : List Int) (h : t ∉ r :: l) : ask (rowA (r :: l)) t sA 6 = (2, rowA (r :: (l ++ [t]))) := by
  simp only [List.mem_cons, not_or] at h
  have hne : (r == t) = false := by simpa using fun e => h.1 e.symm
  have hw := pget_row h.2
  have hm : modeOf [(r, 6)] t = 0 := by
    unfold modeOf
    simp only [pget]
    rw [if_neg (fun e => h.1 e.symm)]
    rfl
  unfold ask
  have h1 : (!decide (1 ≤ (6 : Int) ∧ (6 : Int) ≤ 6) || (pget (rowA (r :: l)).waits t).isSome) = false := by
    show (false || (pget (l.map fun t => (t, sA)) t).isSome) = false
    rw [hw]; rfl
  rw [h1]
  simp only [Bool.false_eq_true, if_false]
  have h2 : pget (rowA (r :: l)).things sA = some ([(r, 6)], rowW l) := by simp [rowA, pget]
  rw [h2]
  simp only []
  unfold ask2
  simp only [hm, jn06]
  have h3 : canB [(r, 6)] t 6 = false := by simp [canB, hne, tg66]
  have h4 : ((6 : Int) == 0) = false := rfl
  have h5 : ((0 : Int) != 0) = false := rfl
  simp only [h3, h4, h5, Bool.and_false, Bool.false_eq_true, if_false]
  have h6 : putAt (rowW l) false = (rowW l).length := by simp [putAt]
  rw [h6, List.take_length, List.drop_length]
  have h7 : pset (rowA (r :: l)).waits t sA = (l ++ [t]).map fun t => (t, sA) := by
    show pset (l.map fun t => (t, sA)) t sA = _
    rw [pset_none hw]; simp
  rw [h7]
  simp [rowA, pset, rowW]
theorem drop_row (r : Int) (l : List Int) (h : (r :: l).Nodup) : dropF (rowA (r :: l)) r = (l.take 1, rowA l) := by
  rw [List.nodup_cons] at h
  have hw := pget_row h.1
  have hwA : pget (rowA (r :: l)).waits r = none := hw
  unfold dropF
  rw [hwA, pdel_none hwA]
  have hk : sortS ((rowA (r :: l)).things.map (·.1)) = [sA] := sortS1 sA
  rw [hk]
  simp only [List.foldl_cons, List.foldl_nil]
  unfold dropAt
  have h2 : pget (rowA (r :: l)).things sA = some ([(r, 6)], rowW l) := by simp [rowA, pget]
  simp only [h2]
  have h3 : (pget [(r, (6 : Int))] r).isSome = true := by simp [pget]
  have h4 : pdel [(r, (6 : Int))] r = [] := by simp [pdel]
  have h5 : ((rowW l).filter fun y => !(y.txn == r)) = rowW l := by
    refine List.filter_eq_self.2 fun y hy => ?_
    obtain ⟨t, ht, rfl⟩ := List.mem_map.1 hy
    have : ¬ t = r := fun e => h.1 (e ▸ ht)
    simpa using this
  simp only [h3, h4, h5, Bool.not_true, Bool.false_and, Bool.false_eq_true, if_false]
  cases l with
  | nil => simp [rowA, rowW, servF, A0, pset, pdel]
  | cons r1 l' =>
    have h6 : pdel (rowA (r :: r1 :: l')).waits r1 = l'.map fun t => (t, sA) := by simp [rowA, pdel]
    have hs : servF [] (rowA (r :: r1 :: l')).waits (rowW (r1 :: l')) = ⟨[(r1, 6)], rowW l', l'.map fun t => (t, sA), [r1]⟩ := by
      have hs2 : servF [(r1, (6 : Int))] (l'.map fun t => (t, sA)) (rowW l') = ⟨[(r1, 6)], rowW l', l'.map fun t => (t, sA), []⟩ := by
        cases l' with
        | nil => rfl
        | cons r2 l'' =>
          have hne : (r1 == r2) = false := by
            have := h.2
            rw [List.nodup_cons] at this
            have : r1 ≠ r2 := fun e => this.1 (by rw [e]; exact List.mem_cons_self)
            simpa using this
          have hc : canB [(r1, 6)] r2 6 = false := by simp [canB, hne, tg66]
          show (if canB [(r1, 6)] r2 6 = true then _ else _) = _
          rw [hc]; simp [rowW]
      show (if canB [] r1 6 = true then _ else _) = _
      have hc : canB [] r1 6 = true := rfl
      rw [if_pos hc]
      simp only [h6]
      have hp : pset ([] : List (Int × Int)) r1 6 = [(r1, 6)] := rfl
      rw [hp]
      show (let r := servF [(r1, (6 : Int))] (l'.map fun t => (t, sA)) (rowW l'); (⟨r.hv, r.q, r.W, r1 :: r.out⟩ : Sv ByteArray)) = _
      rw [hs2]
    simp only [hs, List.isEmpty_cons, Bool.false_eq_true, if_false]
    simp [rowA, pset]
theorem small_row (l : List Int) (hl : l.length ≤ 1048576) (hwf : ∀ t ∈ l, (Lit.int .i64 t).wf = true) : Small (rowA l) := by
  cases l with
  | nil => exact ⟨by simp [rowA, A0], by simp [rowA, A0], by simp [rowA, A0], by simp [rowA, A0], by simp [rowA, A0], by simp [rowA, A0], by simp [rowA, A0]⟩
  | cons r l =>
    simp only [List.length_cons] at hl
    have h1 : ∀ p ∈ (rowA (r :: l)).things, p = (sA, [(r, 6)], rowW l) := fun p hp => by simpa [rowA] using hp
    refine ⟨by simp [rowA], fun p hp => ?_, by simp [rowA], fun p hp => ?_, fun p hp => ?_, fun p hp e he => ?_, fun p hp => ?_⟩
    all_goals rw [h1 p hp] at *
    · show sA.size ≤ maxLen; decide
    · simp only [rowW, List.length_map]; omega
    · simp
    · obtain rfl : e = (r, 6) := by simpa using he
      exact hwf r List.mem_cons_self
    · simp
theorem locks_row0 : locksF (rowA []) = [] := by
  show (sortS []).flatMap _ = []
  have : sortS [] = [] := by simp [sortS]
  rw [this]; rfl
end Go.Proofs.Ytpghlemcgjogpaa
