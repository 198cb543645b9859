/- slices.SortFunc at edges; Edges, the whole. -/
import Derived.Test.YtpghlemcgjogpaaGreatIt
import Derived.Test.YtpghlemcgjogpaaGreatCP
set_option linter.unusedVariables false
set_option linter.unusedSimpArgs false
set_option linter.unnecessarySimpa false
set_option maxRecDepth 100000
namespace Go.Proofs.YtpghlemcgjogpaaGreat
open Go.Sx Go.RowKit Go.Sort Go.Shelf Go.Proofs

theorem ltE (x y : Ed) : ltOf cmpE x y = decide (x.a < y.a ∨ x.a = y.a ∧ x.b < y.b) := by
  unfold ltOf
  congr 1
  simp only [cmpE, orI, cmpI, List.find?]
  by_cases h1 : x.a < y.a
  · simp [h1]
  · by_cases h2 : x.a > y.a
    · have h3 : ¬ x.a = y.a := by omega
      simp [h1, h2, h3]
    · have h3 : x.a = y.a := by omega
      by_cases h4 : x.b < y.b
      · simp [h3, h4]
      · by_cases h5 : x.b > y.b
        · simp [h3, h4, h5]
        · simp [h3, h4, h5]
theorem swoE : SWO (ltOf cmpE) where
  irrefl x := by rw [ltE]; simp
  trans x y z h1 h2 := by rw [ltE] at *; simp only [decide_eq_true_eq] at *; omega
  ntrans x y z h1 h2 := by rw [ltE] at *; simp only [decide_eq_false_iff_not] at *; omega
theorem totE (x y : Ed) (h1 : ltOf cmpE x y = false) (h2 : ltOf cmpE y x = false) : x = y := by
  rw [ltE] at *; simp only [decide_eq_false_iff_not] at *
  obtain ⟨a, b⟩ := x
  obtain ⟨c, d⟩ := y
  simp only [Ed.mk.injEq] at *
  omega
def sortEd (l : List Ed) : List Ed := l.mergeSort fun x y => !(ltOf cmpE) y x
theorem flatK_ed (l : List Ed) : (flatK Ed.cells 2 l.toArray).toList = ecells l := by
  apply List.ext_getElem?
  intro t
  by_cases ht : t < l.length * 2
  · have hi : t / 2 < l.length := by omega
    obtain ⟨x, hx⟩ : ∃ x, l[t / 2]? = some x := ⟨l[t / 2], List.getElem?_eq_getElem hi⟩
    have hf := flat_at Ed.len hx
    have h1 : (ecells l)[t]? = x.cells[t % 2]? := by
      have : ((ecells l).drop (t / 2 * 2)).take 2 = x.cells := hf
      rw [← this, List.getElem?_take_of_lt (Nat.mod_lt _ (by omega)), List.getElem?_drop]
      congr 1
      omega
    rw [h1, Array.getElem?_toList]
    have h2 : (flatK Ed.cells 2 l.toArray)[t]! = (Ed.cells l.toArray[t / 2]!)[t % 2]! := get_flatK _ _ _ t (by simpa using ht)
    have h3 : l.toArray[t / 2]! = x := by
      have := (List.getElem?_eq_some_iff.1 hx).2
      simp [hi, this]
    have hsz : t < (flatK Ed.cells 2 l.toArray).size := by simpa using ht
    rw [h3] at h2
    rw [getElem!_pos _ t hsz] at h2
    have h4 : t % 2 < x.cells.length := by rw [Ed.len]; exact Nat.mod_lt _ (by omega)
    rw [getElem!_pos x.cells (t % 2) h4] at h2
    rw [Array.getElem?_eq_getElem hsz, List.getElem?_eq_getElem h4, h2]
  · rw [List.getElem?_eq_none (by simpa using ht), List.getElem?_eq_none (by rw [show ecells l = l.flatMap Ed.cells from rfl, flat_length Ed.len]; omega)]
theorem put_row {w : World} {off cap : Nat} {g : Nat} {cur : Array Value} {e : Nat} {F : Array Value} (hh : w.heap[g]? = some (.cells cur e (0, 0))) (hF : off + F.size ≤ cur.size) :
    ∃ cur', (putRow id w g off F).heap[g]? = some (.cells cur' e (0, 0)) ∧ cur'.size = cur.size ∧ (cur'.toList.drop off).take F.size = F.toList ∧ (∀ b, b ≠ g → (putRow id w g off F).heap[b]? = w.heap[b]?) ∧ (putRow id w g off F).heap.size = w.heap.size := by
  refine ⟨putCells id off F cur, ?_, by simp [putCells], ?_, fun b hb => ?_, ?_⟩
  · simp [putRow, mapBlock, Array.getElem?_modify, hh, onCells]
  · apply List.ext_getElem?
    intro t
    by_cases ht : t < F.size
    · rw [List.getElem?_take_of_lt ht, List.getElem?_drop, Array.getElem?_toList, Array.getElem?_toList]
      have h1 : off + t < cur.size := by omega
      have h2 : off ≤ off + t ∧ off + t < off + F.size := by omega
      simp only [putCells, Array.getElem?_mapIdx, Array.getElem?_eq_getElem h1, Option.map_some, if_pos h2, id, Nat.add_sub_cancel_left]
      rw [getElem!_pos F t ht, Array.getElem?_eq_getElem ht]
    · rw [List.getElem?_eq_none (by rw [List.length_take]; omega), List.getElem?_eq_none (by simpa using ht)]
  · simp [putRow, mapBlock, Array.getElem?_modify, Ne.symm hb]
  · simp [putRow, mapBlock]
theorem sortE_c (v : Value) (l : List Ed) (w : World) (hr : RowE w v l) (hl : l.length ≤ 2199023255552) (R : Ending → World → Prop)
    (h : ∀ w', RowE w' v (sortEd l) → Keep (fun b => rowB v = some b) w w' → R (.returned (.tuple #[])) w') : Calls Tryz.prog 41 #[v, .func (.func 42) #[] #[]] w R := by
  have hlen := flat_length Ed.len l
  rcases hr.2 with ⟨rfl, h0⟩ | ⟨g, off, cap, cur, rfl, hh, hnc, hcm, hcs, htk⟩
  · have hl0 : l = [] := List.eq_nil_of_length_eq_zero h0
    subst hl0
    refine Calls.mono (AnyF.slices_SortFunc_none Tryz.sortE none 0 _ w) ?_
    rintro e w' ⟨rfl, rfl⟩
    have : sortEd [] = [] := by simp [sortEd]
    exact h _ (by rw [this]; exact Row.nil) (Keep.refl _ _)
  · have hm : l.length * 2 ≤ cap * 2 := Nat.mul_le_mul_right _ hnc
    have hF := flatK_ed l
    have hFs : (flatK Ed.cells 2 l.toArray).size = l.length * 2 := by simp
    have hH : HoldsK Ed.cells 2 w g off l.toArray := by
      intro j hj
      rw [hFs] at hj
      refine ⟨?_, by simp [World.frozen?, hh]⟩
      rw [cell_mk, hh, cellIn_cells]
      have h1 : (flatK Ed.cells 2 l.toArray)[j]? = some (flatK Ed.cells 2 l.toArray)[j]! := by
        rw [getElem!_pos _ j (by rw [hFs]; exact hj), Array.getElem?_eq_getElem]
      rw [← Array.getElem?_toList, hF] at h1
      have h2 : (ecells l)[j]? = cur[off + j]? := by
        rw [← htk, List.getElem?_take_of_lt (by omega), List.getElem?_drop, Array.getElem?_toList]
      rw [← h2, h1]; rfl
    have hsz : (sortEd l).length = l.length := by simp [sortEd]
    refine Calls.mono (AnyQ.slices_SortFunc_total Tryz.sortE 2 (fun w => by kernel_rfl) (fun w => by kernel_rfl) Ed.cells Ed.len (fun x v hv => oneCell_of (ecells_one [x] v (by simpa [ecells] using hv))) cmpE swoE 42 #[] g off cap l.toArray w (fun args w => enters Tryz.func42 (by kernel_rfl) (by kernel_rfl) args w) (fun m os dk hd x y => edgesC_c x y _ _ fun w' hg => ⟨rfl, hg⟩) hH (lt_of_at hh) (by simp; omega) totE) ?_
    rintro e w' ⟨rfl, n, os, rfl⟩
    have hF2 := flatK_ed (sortEd l)
    have hF2s : (flatK Ed.cells 2 (sortEd l).toArray).size = l.length * 2 := by simp [hsz]
    have hha : (Sort.ahead w n).heap[g]? = some (.cells cur 83 (0, 0)) := hh
    obtain ⟨cur', c1, c2, c3, c4, c5⟩ := put_row (off := off) (cap := cap) (F := flatK Ed.cells 2 (sortEd l).toArray) hha (by rw [hF2s]; omega)
    have hlt : g < w.heap.size := lt_of_at hh
    have hw : ∀ b, b < w.heap.size → (sortWorldK Ed.cells 2 w g off n (l.toArray.toList.mergeSort fun x y => !(ltOf cmpE) y x).toArray os).heap[b]? = (putRow id (Sort.ahead w n) g off (flatK Ed.cells 2 (sortEd l).toArray)).heap[b]? := fun b hb => by
      show ((putRow id (Sort.ahead w n) g off (flatK Ed.cells 2 (sortEd l).toArray)).heap ++ os)[b]? = _
      rw [Array.getElem?_append_left (by rw [c5]; exact hb)]
    refine h _ ⟨?_, .inr ⟨g, off, cap, cur', by rw [hsz], ?_, by rw [hsz]; exact hnc, hcm, by rw [c2]; exact hcs, ?_⟩⟩ ⟨rfl, rfl, rfl, ?_, fun b hb hn => ?_⟩
    · rw [show ecells (sortEd l) = (sortEd l).flatMap Ed.cells from rfl, flat_length Ed.len]
    · rw [hw g hlt]; exact c1
    · rw [hsz]
      rw [hF2s, hF2] at c3
      exact c3
    · show w.heap.size ≤ ((putRow id (Sort.ahead w n) g off (flatK Ed.cells 2 (sortEd l).toArray)).heap ++ os).size
      rw [Array.size_append, c5]; exact Nat.le_add_right ..
    · rw [hw b hb, c4 b (fun e => hn (by rw [e]; rfl))]; rfl

/-- Who waits for whom. -/
def edgesF (A : Abs) : List Ed := compF (sortEd (A.waits.flatMap (edgesOf A)))
theorem sortEd_of_perm {l l' : List Ed} (h : l.Perm l') : sortEd l = sortEd l' := by
  have tr : ∀ a b c : Ed, (!(ltOf cmpE) b a) = true → (!(ltOf cmpE) c b) = true → (!(ltOf cmpE) c a) = true := fun a b c h1 h2 => by
    simp only [Bool.not_eq_true'] at *; exact swoE.ntrans c b a h2 h1
  have to : ∀ a b : Ed, ((!(ltOf cmpE) b a) || (!(ltOf cmpE) a b)) = true := fun a b => by
    rw [ltE, ltE]; simp only [Bool.or_eq_true, Bool.not_eq_true', decide_eq_false_iff_not]; omega
  refine List.Perm.eq_of_pairwise (le := fun a b => (!(ltOf cmpE) b a) = true) (fun a b _ _ h1 h2 => ?_) (List.pairwise_mergeSort tr to l) (List.pairwise_mergeSort tr to l') (((List.mergeSort_perm l _).trans h).trans (List.mergeSort_perm l' _).symm)
  simp only [Bool.not_eq_true'] at h1 h2
  exact totE a b h2 h1
theorem edges_c (T : Tab) (w : World) (ht : TabAt w T) (hs : Small T.abs) (hw : Waits T.abs) (hwn : T.waits.length ≤ 1048576) (R : Ending → World → Prop)
    (h : ∀ v w', RowE w' v (edgesF T.abs) → (∀ g, rowB v = some g → w.heap.size ≤ g) → Keep0 w w' → R (.returned v) w') : Calls Tryz.prog 12 #[ptr T.bt] w R := by
  refine edgesL_c T w ht hs hw hwn R fun v w1 l hr hp hl hf hk => ?_
  simp only [F12_s3, F12_s3_t]
  refine un_enter (enters Tryz.func41 (by kernel_rfl) (by kernel_rfl) _ _) (sortE_c v l w1 hr hl _ fun w2 hr2 hk2 => ?_)
  rw [sortEd_of_perm hp] at hr2
  refine un_enter (enters Tryz.func45 (by kernel_rfl) (by kernel_rfl) _ _) (compact_c v _ w2 hr2 _ fun v' w3 hr3 hk3 hb3 => ?_)
  refine h v' w3 hr3 (fun g hg => hf g (by rw [← hb3]; exact hg)) ?_
  have hs1 := hk.size
  exact keep_fresh (((hk.mono fun _ _ h => h.elim).trans hk2 (fun b _ hb => hf b hb)).trans hk3 (fun b _ hb => hf b hb))
end Go.Proofs.YtpghlemcgjogpaaGreat
