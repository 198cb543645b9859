/- A script of calls, opened. -/
import Derived.Test.YtpghlemcgjogpaaGreatRows
import Derived.WalkKit
import Derived.ProofKit
import Derived.OpenShut
import Derived.JoinedCond
import Derived.Carry
import Derived.Deep.Slices
import Derived.Test.YtpghlemcgjogpaaGreatDC
set_option linter.unusedVariables false
set_option linter.unusedSimpArgs false
set_option maxRecDepth 100000
namespace Go.Proofs.YtpghlemcgjogpaaGreat
open Go.ChangeShapes Go.WideShapes Go.ChangeAt Go.RowKit Go.Sx

theorem cellsIn_of {o : Option Obj} {a n : Nat} {cs : Array Value} (hn : 0 < n) (hs : cs.size = n) (h : ∀ j, j < n → Sx.cellIn o (a + j) = cs[j]?) : Sx.cellsIn o a n = some cs := by
  have h0 := h (n - 1) (by omega)
  rw [Array.getElem?_eq_getElem (by omega)] at h0
  unfold Sx.cellIn at h0
  split at h0
  · rename_i c t f
    have hsz : a + (n - 1) < c.size := by
      by_cases hlt : a + (n - 1) < c.size
      · exact hlt
      · rw [Array.getElem?_eq_none (by omega)] at h0; cases h0
    rw [cellsIn_cells, if_pos (by omega)]
    congr 1
    apply Array.ext
    · rw [Array.size_extract]; omega
    · intro i h1 h2
      have := h i (by omega)
      rw [cellIn_cells, Array.getElem?_eq_getElem (by omega), Array.getElem?_eq_getElem h2] at this
      rw [Array.getElem_extract]
      exact Option.some.inj this
  · cases h0
theorem strOp : Tryz.prog.underlying 32 = some (.struct (Tryz.prog.fieldsOf 32)) := by kernel_rfl
theorem bulk_pos {H : Type} (d : DataW H) : 1 ≤ Rows.uptoBulk d := by
  cases d with
  | lit l => cases l <;> simp [Rows.uptoBulk]
  | _ => simp [Rows.uptoBulk]
theorem bulk_len {H : Type} (l : List (DataW H)) : l.length ≤ Rows.uptoBulkAll l := by
  induction l with
  | nil => simp
  | cons d l ih => have := bulk_pos d; simp only [Rows.uptoBulkAll, List.length_cons]; omega
theorem open_op {H : Type} {enc : TypeId × Value → H} {W : World} {base fuel : Nat} {spare : Nat → Bool} {held : Bool} {cs : List Value} {x : DataW H × List MemPlace} (h : DataW.trod enc Tryz.prog W base spare held fuel 32 cs = some x) :
    ∃ o : Op, o.ok ∧ cs = o.cells := by
  obtain ⟨xs, n, _, _, hl, hxl, hf⟩ := DataW.trod_struct strOp h
  have hl4 : cs.length = 4 := by rw [hl]; kernel_rfl
  have hx4 : xs.length = 4 := by rw [hxl]; kernel_rfl
  have c3 : Tryz.prog.cellsOf 3 = 1 := by kernel_rfl
  have c9 : Tryz.prog.cellsOf 9 = 1 := by kernel_rfl
  match xs, hx4, cs, hl4 with
  | [y0, y1, y2, y3], _, [v0, v1, v2, v3], _ =>
    have g0 := hf 0 ((Tryz.prog.fieldsOf 32)[0]!) (by kernel_rfl)
    have g1 := hf 1 ((Tryz.prog.fieldsOf 32)[1]!) (by kernel_rfl)
    have g2 := hf 2 ((Tryz.prog.fieldsOf 32)[2]!) (by kernel_rfl)
    have g3 := hf 3 ((Tryz.prog.fieldsOf 32)[3]!) (by kernel_rfl)
    have t0 : ((Tryz.prog.fieldsOf 32)[0]!).type = 3 := by kernel_rfl
    have t1 : ((Tryz.prog.fieldsOf 32)[1]!).type = 3 := by kernel_rfl
    have t2 : ((Tryz.prog.fieldsOf 32)[2]!).type = 3 := by kernel_rfl
    have t3 : ((Tryz.prog.fieldsOf 32)[3]!).type = 9 := by kernel_rfl
    have o0 : ((Tryz.prog.fieldsOf 32)[0]!).offset = 0 := by kernel_rfl
    have o1 : ((Tryz.prog.fieldsOf 32)[1]!).offset = 1 := by kernel_rfl
    have o2 : ((Tryz.prog.fieldsOf 32)[2]!).offset = 2 := by kernel_rfl
    have o3 : ((Tryz.prog.fieldsOf 32)[3]!).offset = 3 := by kernel_rfl
    rw [t0, o0, c3] at g0
    rw [t1, o1, c3] at g1
    rw [t2, o2, c3] at g2
    rw [t3, o3, c9] at g3
    obtain ⟨n0, e0, _, w0⟩ := DataW.trod_int und3i g0
    obtain ⟨n1, e1, _, w1⟩ := DataW.trod_int und3i g1
    obtain ⟨n2, e2, _, w2⟩ := DataW.trod_int und3i g2
    obtain ⟨s3, e3, _, w3⟩ := DataW.trod_string undS g3
    simp only [List.drop_zero, List.drop_succ_cons, List.take_succ_cons, List.take_zero, List.cons.injEq, and_true] at e0 e1 e2 e3
    subst e0 e1 e2 e3
    exact ⟨⟨n0, n1, n2, s3⟩, ⟨w1, w3⟩, rfl⟩
theorem open_ops {H : Type} {enc : TypeId × Value → H} {W : World} {base fuel : Nat} {spare : Nat → Bool} {held : Bool} {a0 : Option Addr} {len cap : Nat} {d : DataW H} {p : List MemPlace} (h : DataW.trod enc Tryz.prog W base spare held fuel 22 [.slice a0 len cap] = some (d, p)) :
    ∃ ops, ArgO W (.slice a0 len cap) ops ∧ (∀ o ∈ ops, o.ok) ∧ ops.length + 1 ≤ Rows.uptoBulk d := by
  rcases Go.Deep.open_slice undOps h with ⟨hcs, hx⟩ | ⟨a, len', cap', m, n, D, Pl, hcs, hb, hl, hm, hmm, hx, he⟩
  · simp only [List.cons.injEq, Value.slice.injEq, and_true] at hcs
    obtain ⟨rfl, rfl, rfl⟩ := hcs
    exact ⟨[], ⟨none, 0, rfl, fun j x hx => by simp at hx⟩, by simp, bulk_pos d⟩
  · simp only [List.cons.injEq, Value.slice.injEq, and_true] at hcs
    obtain ⟨rfl, rfl, rfl⟩ := hcs
    have hlm : len ≤ m := by rw [hmm]; split <;> omega
    have cOp : Tryz.prog.cellsOf 32 = 4 := by kernel_rfl
    rw [cOp] at he
    have each : ∀ i, i < len → ∃ o : Op, o.ok ∧ ∃ g off, a = ⟨g, off, none⟩ ∧ g < W.heap.size ∧ Sx.cellsIn (W.heap[g]?) (off + i * 4) 4 = some o.cells.toArray := by
      intro i hi
      obtain ⟨cs', h1, h2⟩ := he i (by omega)
      obtain ⟨o, ho, rfl⟩ := open_op h2
      obtain ⟨_, hlen, hcell⟩ := World.cells?_some h1
      obtain ⟨g, off, sp⟩ := a
      cases sp with
      | some s =>
        exfalso
        obtain ⟨cs0, h10, h20⟩ := he 0 (by omega)
        obtain ⟨o', _, rfl⟩ := open_op h20
        obtain ⟨_, _, hcell0⟩ := World.cells?_some h10
        have hc0 := hcell0 0 (by omega)
        rw [addr_add0, Nat.zero_mul, addr_add0] at hc0
        unfold World.cell? at hc0
        split at hc0
        · simp [Op.cells] at hc0
        · cases hc0
      | none =>
        have hc : ∀ j, j < 4 → Sx.cellIn (W.heap[g]?) (off + i * 4 + j) = o.cells.toArray[j]? := fun j hj => by
          have := hcell j hj
          rw [addr_add, addr_add, cell_mk] at this
          rw [this]; simp
        refine ⟨o, ho, g, off, rfl, ?_, cellsIn_of (by decide) rfl hc⟩
        by_cases hb : g < W.heap.size
        · exact hb
        · exfalso
          have := hc 0 (by omega)
          rw [Array.getElem?_eq_none (by omega)] at this
          cases this
    have hall : ∀ n, n ≤ len → ∃ ops : List Op, ops.length = n ∧ (∀ o ∈ ops, o.ok) ∧ ∀ j x, ops[j]? = some x → ∃ g off, (some a : Option Addr) = some ⟨g, off, none⟩ ∧ g < W.heap.size ∧ Sx.cellsIn (W.heap[g]?) (off + j * 4) 4 = some x.cells.toArray := by
      intro n
      induction n with
      | zero => exact fun _ => ⟨[], rfl, by simp, fun j x hx => by simp at hx⟩
      | succ n ih =>
        intro hn
        obtain ⟨ops, e1, e2, e3⟩ := ih (by omega)
        obtain ⟨o, ho, g, off, ea, hg, hc⟩ := each n (by omega)
        refine ⟨ops ++ [o], by simp [e1], fun y hy => ?_, fun j x hx => ?_⟩
        · rcases List.mem_append.1 hy with hy | hy
          · exact e2 y hy
          · obtain rfl : y = o := by simpa using hy
            exact ho
        · by_cases hj : j < n
          · rw [List.getElem?_append_left (by omega)] at hx
            exact e3 j x hx
          · have hj' : j = n := by
              have := (List.getElem?_eq_some_iff.1 hx).1
              simp only [List.length_append, List.length_cons, List.length_nil] at this
              omega
            subst hj'
            rw [List.getElem?_append_right (by omega), e1] at hx
            simp only [Nat.sub_self, List.getElem?_cons_zero, Option.some.injEq] at hx
            subst hx
            exact ⟨g, off, by rw [ea], hg, hc⟩
    obtain ⟨ops, e1, e2, e3⟩ := hall len (Nat.le_refl _)
    refine ⟨ops, ⟨some a, cap, by rw [e1], e3⟩, e2, ?_⟩
    simp only [Prod.mk.injEq] at hx
    rw [hx.1]
    have := bulk_len ((List.range len).map D)
    simp only [Rows.uptoBulk, List.length_map, List.length_range] at this ⊢
    omega
end Go.Proofs.YtpghlemcgjogpaaGreat
