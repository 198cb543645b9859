/- LocksRow: the row. -/
import Derived.Test.YtpghlemcgjogpaaRows
import Derived.WalkKit
import Derived.ProofKit
import Derived.OpenShut
import Derived.JoinedCond
import Derived.Carry
import Derived.Test.YtpghlemcgjogpaaCV
set_option linter.unusedVariables false
set_option linter.unusedSimpArgs false
set_option maxRecDepth 100000
namespace Go.Proofs.Ytpghlemcgjogpaa.locksRow
open Go.ChangeShapes Go.WideShapes Go.ChangeAt Go.RowKit Go.Sx

theorem own : ownKnob Try.prog.godebug = none := by kernel_rfl
theorem laidOut : laidOutB Try.prog = true := by kernel_rfl
theorem cells3 : Try.prog.cellsOf 3 = 1 := by kernel_rfl
theorem contract (H : Type) (enc : TypeId × Value → H) (W : World) (base : Nat) (args : Array Value) (ds gs : List (DataW H)) (before : List MemPlace)
    (hval : ∀ (j : Nat) t v, Try.f7.params[j]? = some t → args[j]? = some v → Value.okWide Try.prog W .any base t v)
    (hW : DataW.Whole enc Try.prog Try.f7.params.toList Rows.locksRowSpec.vars false W args.toList ds gs before) (hk : Rows.uptoSmall H (ds ++ gs) = true) :
    Calls Try.prog 7 args W fun e W' => ∃ v, e = .returned v ∧ Rows.locksRowSpec.post enc Try.prog Try.f7 false true false false W args v W' := by
  have hW' := hW
  obtain ⟨p, q, hA0, hV, rfl, hfz, hnd⟩ := hW
  have hA : DataW.TrodAll enc Try.prog W 0 (fun _ => true) true Try.f7.params.toList args.toList ds p := hA0
  rw [Try.params7] at hA hval
  obtain ⟨v0, vs0, d0, ds0, p0, q0, hargs, rfl, rfl, h0, r0⟩ := trodAll_cons hA
  obtain ⟨rfl, rfl, rfl⟩ := trodAll_nil r0
  obtain rfl : args = #[v0] := by cases args; simp_all
  obtain ⟨rfl, rfl⟩ := trodVars_none hV
  obtain ⟨a0, len, cap, rfl⟩ := okWide_slice und55' (hval 0 29 v0 rfl rfl)
  have h0k := h0
  obtain ⟨fuel, hf⟩ := h0
  clear hA0
  simp only [List.append_nil] at hW' hk
  have hlt : ∀ x ∈ p0, x.block < W.heap.size := fun x hx => by simpa using hW'.lt x hx
  have hargs' : ∀ (W' : World), Below W.heap.size W W' → DataW.Trod enc Try.prog W' 0 (fun b => decide (b < W.heap.size)) true 29 (.slice a0 len cap) d0 p0 :=
    fun W' hn => Below.trod laidOut (by kernel_rfl) (of_decide_eq_true (by kernel_rfl)) h0k hn hlt
  have fin : ∀ e W', (e = Ending.returned (.bool true) ∧ Keep0 W W') → ∃ v, e = Ending.returned v ∧ Rows.locksRowSpec.post enc Try.prog Try.f7 false true false false W #[.slice a0 len cap] v W' := by
    intro e W' ⟨he, hkp⟩
    subst he
    have hnx := hkp.below
    refine ⟨_, rfl, _, _, _, [], p0, [], hW', ?_, trodAll_mk1 (hargs' _ hnx), rfl, hnx.frame _, fun h => by cases h⟩
    exact trodAll_mk1 (shut_bool Try.underlying4 _)
  have walk : ∀ order : List Int, ArgI W (.slice a0 len cap) order → order.length ≤ 1048576 → (∀ t ∈ order, (Lit.int .i64 t).wf = true) → Calls Try.prog 7 #[.slice a0 len cap] W fun e W' => ∃ v, e = .returned v ∧ Rows.locksRowSpec.post enc Try.prog Try.f7 false true false false W #[.slice a0 len cap] v W' :=
    fun order ha hn hwf => locksRow_c _ order W ha hn hwf _ fun w' hkp => fin _ _ ⟨rfl, hkp⟩
  rcases open_ints und55' und3i cells3 hf with ⟨hcs, hx⟩ | ⟨a, len', cap', zs, hcs, _, hl, hm, hz, hx, hcell, hwz⟩
  · simp [Value.cells] at hcs
    obtain ⟨rfl, rfl, rfl⟩ := hcs
    exact walk [] ⟨none, 0, rfl, fun j x hx => by simp at hx⟩ (by simp) (by simp)
  · simp [Value.cells] at hcs
    obtain ⟨rfl, rfl, rfl⟩ := hcs
    simp only [Prod.mk.injEq] at hx
    obtain ⟨rfl, rfl⟩ := hx
    simp only [if_true] at hz
    have hb : Rows.uptoBulkAll [DataW.slice (H := H) (lits .i64 (zs.take len)) (lits .i64 (zs.drop len))] ≤ 1048576 := of_decide_eq_true hk
    have hlen : (zs.take len).length = len := by rw [List.length_take]; omega
    have hll : ∀ l : List Int, l.length ≤ Rows.uptoBulkAll (lits (H := H) .i64 l) := by
      intro l
      induction l with
      | nil => simp
      | cons x l ih => simp only [lits, List.map_cons, Rows.uptoBulkAll, List.length_cons, Rows.uptoBulk] at ih ⊢; omega
    have hn : len ≤ 1048576 := by
      have := hll (zs.take len)
      simp only [Rows.uptoBulkAll, Rows.uptoBulk] at hb
      omega
    refine walk (zs.take len) ⟨some a, cap, by rw [hlen], fun j x hx => ?_⟩ (by rw [hlen]; exact hn) (fun t ht => hwz t (List.mem_of_mem_take ht))
    have hj := (List.getElem?_eq_some_iff.1 hx).1
    rw [hlen] at hj
    have hc := hcell j (by omega)
    rw [List.getElem?_take_of_lt hj] at hx
    have hzx : zs.getD j 0 = x := by rw [List.getD_eq_getElem?_getD, hx]; rfl
    rw [hzx] at hc
    obtain ⟨g, off, sp⟩ := a
    cases sp with
    | some s =>
      exfalso
      have hc0 := hcell 0 (by omega)
      rw [addr_add0] at hc0
      unfold World.cell? at hc0
      split at hc0
      · simp at hc0
      · cases hc0
    | none =>
    rw [addr_add, cell_mk] at hc
    refine ⟨g, off, rfl, ?_, hc⟩
    by_cases hb : g < W.heap.size
    · exact hb
    · exfalso
      rw [Array.getElem?_eq_none (by omega)] at hc
      cases hc


set_option maxRecDepth 100000 in
theorem lifted (os : Os) (started : os.Started) (H : Type) (enc : TypeId × Value → H) (F : Stop.Interp) :
    ReturnsInHanded {} Try.checked os 7 .any ((Rows.OpenSpec.upto Rows.locksRowSpec).pre6 enc Try.prog Try.f7 Rows.locksRowUptoRow.domain false) (((Rows.OpenSpec.upto Rows.locksRowSpec).at F).post enc Try.prog Try.f7 false true false false) := by
  refine returnsInHanded_of_cond (C := Try.checked) (s := Rows.OpenSpec.upto Rows.locksRowSpec) (k := Rows.uptoSmall) rfl own started (by kernel_rfl) Try.func7
    (OpenSpec.witness (enc := enc) (C := Try.checked) (s := Rows.OpenSpec.upto Rows.locksRowSpec) (k := Rows.uptoSmall) rfl false ⟨#[], #[.slice none 0 0], []⟩ 8 (by kernel_rfl) (by kernel_rfl) (by kernel_rfl)
      (x := ([.nil], [], [])) (by kernel_rfl) rfl (by kernel_rfl)) ?_
  intro W base args ds gs before hval hW _ hk _
  exact contract H enc W base args ds gs before hval hW hk

theorem proved : Rows.LocksRowUptoSaid :=
  OpenClaim.holds_of_cond 7 Try.f7 rfl rfl rfl rfl rfl rfl rfl ⟨rfl, rfl, rfl, rfl, rfl⟩ rfl rfl rfl rfl rfl (by kernel_rfl) Try.func7 (by kernel_rfl)
    (of_decide_eq_true (by kernel_rfl)) (by unfold Func.isWrapper; first | (rw [if_pos (by decide +kernel)]; kernel_rfl) | (rw [if_neg (by decide +kernel)]; exact ⟨rfl, rfl⟩))
    (fun os started H enc _ F => lifted os started H enc F)
end Go.Proofs.Ytpghlemcgjogpaa.locksRow
