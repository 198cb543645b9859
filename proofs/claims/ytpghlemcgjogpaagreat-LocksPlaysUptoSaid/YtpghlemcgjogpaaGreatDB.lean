/- The document's tables of modes: what they come to. -/
import Derived.Test.YtpghlemcgjogpaaGreatDA
set_option linter.unusedVariables false
set_option linter.unusedSimpArgs false
set_option linter.unnecessarySimpa false
set_option maxRecDepth 100000
namespace Go.Proofs.YtpghlemcgjogpaaGreat
open Go.Sx

theorem GH_undef {b : Bool} {body : (Value → Prop) → Prop} {next : Value → Prop} : GH undef b body next = next undef := by simp [GH, Gd, undef]
theorem run_streq {P : Program} {w : World} {t : Nat} {x y : Operand} {s u : ByteArray} : (binS .eql t x y (.string s) (.string u)).run P w = .ok (.bool (s.toList == u.toList)) w := by simp [binS, eqGuard, binOp, Op.stringOp]
theorem run_eqI {P : Program} {w : World} {t : Nat} {x y : Operand} {q : IntKind} {a b : Int} : (binS .eql t x y (.int q a) (.int q b)).run P w = .ok (.bool (a == b)) w := by simp [binS, eqGuard, binOp, Op.intCmp]
theorem run_pick {P : Program} {w : World} {c : Bool} {u v : Value} : (pickS (.bool c) u v).run P w = .ok (if c = true then u else v) w := by simp [pickS, asBool, go_sem]
theorem run_not {P : Program} {w : World} {c : Bool} : (Op.unary .not (.bool c)).run P w = .ok (.bool (!c)) w := by simp [Op.unary]
theorem ba_toList_eq (s u : ByteArray) : (s.toList == u.toList) = decide (s = u) := by
  by_cases h : s = u
  · subst h; simp
  · rw [decide_eq_false h]
    have : s.toList ≠ u.toList := fun e => h (ByteArray.ext (by
      have := congrArg List.toArray e
      simpa [ByteArray.toList_eq] using this))
    simpa using this

theorem undTb : Tryz.prog.underlying 96 = some (.array 7 9) := by kernel_rfl
theorem sizTb : (Tryz.prog.info? 96).map (·.size) = some 7 := by kernel_rfl
theorem zerTb : (Tryz.prog.info? 96).map (·.zero) = some (some (.agg #[.string ByteArray.empty, .string ByteArray.empty, .string ByteArray.empty, .string ByteArray.empty, .string ByteArray.empty, .string ByteArray.empty, .string ByteArray.empty])) := by kernel_rfl
theorem run_idxArr {w : World} {g n : Nat} (h : n < 7) : (Instr.indexAt 96 (ptr g) (.int .i64 n)).run Tryz.prog w = .ok (.pointer (some ⟨g, n, none⟩)) w := by
  obtain ⟨inf, hi', hn⟩ := Option.map_eq_some_iff.1 siz9'
  have h0 : (n : Int) < 7 := by omega
  have h1 : ¬ 7 ≤ n := by omega
  simp [Instr.indexAt, Instr.sureAddr, asIntOf, run_underlying undTb, h0, h1, sizeOf, typeInfo, hi', hn, addr_add, go_sem]
theorem run_idxStr {P : Program} {w : World} {t : Nat} {q : IntKind} {s : ByteArray} {n : Nat} {b : UInt8} (ht : P.underlying t = some .string) (h : s[n]? = some b) : (Instr.index t (.string s) (.int q n)).run P w = .ok (.int .u8 b.toNat) w := by
  simp [Instr.index, asIntOf, run_underlying ht, h, go_sem]
theorem seven {a : Int} (h : okM a) : a = 0 ∨ a = 1 ∨ a = 2 ∨ a = 3 ∨ a = 4 ∨ a = 5 ∨ a = 6 := by unfold okM at h; omega
def tabT : List ByteArray := [{ data := #[121, 121, 121, 121, 121, 121, 121] }, { data := #[121, 121, 121, 121, 121, 121, 110] }, { data := #[121, 121, 121, 110, 110, 110, 110] }, { data := #[121, 121, 110, 121, 110, 121, 110] }, { data := #[121, 121, 110, 110, 110, 110, 110] }, { data := #[121, 121, 110, 121, 110, 110, 110] }, { data := #[121, 110, 110, 110, 110, 110, 110] }]
def tabJ : List ByteArray := [{ data := #[48, 49, 50, 51, 52, 53, 54] }, { data := #[49, 49, 50, 51, 52, 53, 54] }, { data := #[50, 50, 50, 52, 52, 54, 54] }, { data := #[51, 51, 52, 51, 52, 53, 54] }, { data := #[52, 52, 52, 52, 52, 54, 54] }, { data := #[53, 53, 54, 53, 54, 53, 54] }, { data := #[54, 54, 54, 54, 54, 54, 54] }]
def atT (T : List ByteArray) (a b : Nat) : UInt8 := ((T[a]?.bind fun s => s[b]?)).getD 0
theorem tab_get {T : List ByteArray} (hT : (T.length == 7 && T.all fun s => s.size == 7) = true) {a b : Nat} (ha : a < 7) (hb : b < 7) : ∃ s, T[a]? = some s ∧ s[b]? = some (atT T a b) := by
  simp only [Bool.and_eq_true, beq_iff_eq, List.all_eq_true] at hT
  have h1 : a < T.length := by omega
  have h2 : b < (T[a]).size := by rw [hT.2 _ (List.getElem_mem h1)]; omega
  refine ⟨T[a], List.getElem?_eq_getElem h1, ?_⟩
  unfold atT
  rw [List.getElem?_eq_getElem h1]
  simp [h2]
theorem rTogether_c (a b : Int) (ha : okM a) (hb : okM b) (w : World) (R : Ending → World → Prop) (h : ∀ w', Keep0 w w' → R (.returned (.bool (tg a b))) w') : Calls Tryz.prog 53 #[.int .i64 a, .int .i64 b] w R := by
  apply F53_calls
  obtain ⟨m, rfl⟩ := Int.eq_ofNat_of_zero_le ha.1
  obtain ⟨n, rfl⟩ := Int.eq_ofNat_of_zero_le hb.1
  have hm : m < 7 := by have := ha.2; omega
  have hn : n < 7 := by have := hb.2; omega
  have hbld : ∀ w, (Instr.build 96 #[(0, (Go.Value.string { data := #[121, 121, 121, 121, 121, 121, 121] })), (1, (Go.Value.string { data := #[121, 121, 121, 121, 121, 121, 110] })), (2, (Go.Value.string { data := #[121, 121, 121, 110, 110, 110, 110] })), (3, (Go.Value.string { data := #[121, 121, 110, 121, 110, 121, 110] })), (4, (Go.Value.string { data := #[121, 121, 110, 110, 110, 110, 110] })), (5, (Go.Value.string { data := #[121, 121, 110, 121, 110, 110, 110] })), (6, (Go.Value.string { data := #[121, 110, 110, 110, 110, 110, 110] }))]).run Tryz.prog w =
      .ok (.agg (tabT.map Value.string).toArray) w := fun w => by kernel_rfl
  have e1 : decide ((m : Int) < 0) = false := by rw [decide_eq_false_iff_not]; omega
  have e2 : decide ((m : Int) > 6) = false := by rw [decide_eq_false_iff_not]; omega
  have e3 : decide ((n : Int) < 0) = false := by rw [decide_eq_false_iff_not]; omega
  have e4 : decide ((n : Int) > 6) = false := by rw [decide_eq_false_iff_not]; omega
  simp only [F53_s1, F53_s1_t, uv_eq (hbld _)]
  rw [uv_allocS (vs := tabT.map Value.string) zerTb sizTb rfl rfl (by intro u hu; obtain ⟨s, _, rfl⟩ := List.mem_map.1 hu; rfl)]
  have hk : Keep0 w (World.add w (.cells (tabT.map Value.string).toArray 96)) := (Keep.refl _ w).add
  have hc : (World.add w (.cells (tabT.map Value.string).toArray 96)).heap[w.heap.size]? = some (.cells (tabT.map Value.string).toArray 96 (0, 0)) := add_new
  generalize World.add w (.cells (tabT.map Value.string).toArray 96) = w1 at hk hc
  obtain ⟨s, hs, hsb⟩ := tab_get (T := tabT) (by decide) hm hn
  have hcell : Sx.cellIn (w1.heap[w.heap.size]?) m = some (.string s) := by
    rw [hc, cellIn_cells, List.getElem?_toArray, List.getElem?_map, hs]; rfl
  simp only [e1, e2, e3, e4, ↓uL.1, Bool.false_eq_true, if_false, F53_s2, F53_s3, F53_s3_t, uv_eq (run_idxArr hm), uv_eq (run_load1 (P := Tryz.prog) (t := 9) (by kernel_rfl) hcell), uv_eq (run_idxStr undS hsb)]
  have e5 : (((atT tabT m n).toNat : Int) == 121) = tg m n := by
    have := all2 (P := fun a b => (((atT tabT a.toNat b.toNat).toNat : Int) == 121) == tg a b) (by decide +kernel) ha hb
    simpa using this
  rw [e5]
  exact h w1 hk
theorem rJoin_c (a b : Int) (ha : okM a) (hb : okM b) (w : World) (R : Ending → World → Prop) (h : ∀ w', Keep0 w w' → R (.returned (.int .i64 (jn a b))) w') : Calls Tryz.prog 26 #[.int .i64 a, .int .i64 b] w R := by
  apply F26_calls
  obtain ⟨m, rfl⟩ := Int.eq_ofNat_of_zero_le ha.1
  obtain ⟨n, rfl⟩ := Int.eq_ofNat_of_zero_le hb.1
  have hm : m < 7 := by have := ha.2; omega
  have hn : n < 7 := by have := hb.2; omega
  have hbld : ∀ w, (Instr.build 96 #[(0, (Go.Value.string { data := #[48, 49, 50, 51, 52, 53, 54] })), (1, (Go.Value.string { data := #[49, 49, 50, 51, 52, 53, 54] })), (2, (Go.Value.string { data := #[50, 50, 50, 52, 52, 54, 54] })), (3, (Go.Value.string { data := #[51, 51, 52, 51, 52, 53, 54] })), (4, (Go.Value.string { data := #[52, 52, 52, 52, 52, 54, 54] })), (5, (Go.Value.string { data := #[53, 53, 54, 53, 54, 53, 54] })), (6, (Go.Value.string { data := #[54, 54, 54, 54, 54, 54, 54] }))]).run Tryz.prog w =
      .ok (.agg (tabJ.map Value.string).toArray) w := fun w => by kernel_rfl
  have hcv : ∀ (x : Int) (w : World), (convert 5 3 (.int .u8 x)).run Tryz.prog w = .ok (.int .i64 (IntKind.i64.wrap x)) w := fun x w => by kernel_rfl
  have e1 : decide ((m : Int) < 0) = false := by rw [decide_eq_false_iff_not]; omega
  have e2 : decide ((m : Int) > 6) = false := by rw [decide_eq_false_iff_not]; omega
  have e3 : decide ((n : Int) < 0) = false := by rw [decide_eq_false_iff_not]; omega
  have e4 : decide ((n : Int) > 6) = false := by rw [decide_eq_false_iff_not]; omega
  simp only [F26_s1, F26_s1_t, uv_eq (hbld _)]
  rw [uv_allocS (vs := tabJ.map Value.string) zerTb sizTb rfl rfl (by intro u hu; obtain ⟨s, _, rfl⟩ := List.mem_map.1 hu; rfl)]
  have hk : Keep0 w (World.add w (.cells (tabJ.map Value.string).toArray 96)) := (Keep.refl _ w).add
  have hc : (World.add w (.cells (tabJ.map Value.string).toArray 96)).heap[w.heap.size]? = some (.cells (tabJ.map Value.string).toArray 96 (0, 0)) := add_new
  generalize World.add w (.cells (tabJ.map Value.string).toArray 96) = w1 at hk hc
  obtain ⟨s, hs, hsb⟩ := tab_get (T := tabJ) (by decide) hm hn
  have hcell : Sx.cellIn (w1.heap[w.heap.size]?) m = some (.string s) := by
    rw [hc, cellIn_cells, List.getElem?_toArray, List.getElem?_map, hs]; rfl
  simp only [e1, e2, e3, e4, ↓uL.1, Bool.false_eq_true, if_false, F26_s2, F26_s3, F26_s3_t, uv_eq (run_idxArr hm), uv_eq (run_load1 (P := Tryz.prog) (t := 9) (by kernel_rfl) hcell), uv_eq (run_idxStr undS hsb), uv_eq (hcv _ _)]
  have e5 : IntKind.i64.wrap (IntKind.u8.wrap (((atT tabJ m n).toNat : Int) - 48)) = jn m n := by
    have := all2 (P := fun a b => IntKind.i64.wrap (IntKind.u8.wrap (((atT tabJ a.toNat b.toNat).toNat : Int) - 48)) == jn a b) (by decide +kernel) ha hb
    simpa using this
  rw [e5]
  exact h w1 hk
/-- A lock in a row. -/
theorem RowL.read {w : World} {v : Value} {l : List Lk} {i : Nat} {x : Lk} (h : RowL w v l) (hx : l[i]? = some x) : ∃ g o, rowB v = some g ∧ g < w.heap.size ∧ (∀ w1, (Instr.indexAt 27 v (.int .i64 i)).run Tryz.prog w1 = .ok (.pointer (some ⟨g, o, none⟩)) w1) ∧
    Sx.cellsIn (w.heap[g]?) o 3 = some x.cells.toArray := by
  have hlt := (List.getElem?_eq_some_iff.1 hx).1
  obtain ⟨g, o, hg, hixx, hcl⟩ := h.elem (P := Tryz.prog) (q := .i64) (i := i) hlt und32 siz37
  rw [show lcells l = l.flatMap Lk.cells from rfl, flat_at Lk.len hx] at hcl
  exact ⟨g, o, hg, h.lt hg, hixx, hcl⟩
theorem lk0 {w : World} {g o : Nat} {x : Lk} (h : Sx.cellsIn (w.heap[g]?) o 3 = some x.cells.toArray) : Sx.cellIn (w.heap[g]?) (o + 0) = some (.int .i64 x.txn) := by
  rw [cellIn_of_cells h (by decide)]; rfl
theorem lk1 {w : World} {g o : Nat} {x : Lk} (h : Sx.cellsIn (w.heap[g]?) o 3 = some x.cells.toArray) : Sx.cellIn (w.heap[g]?) (o + 1) = some (.string x.res) := by
  rw [cellIn_of_cells h (by decide)]; rfl
theorem lk2 {w : World} {g o : Nat} {x : Lk} (h : Sx.cellsIn (w.heap[g]?) o 3 = some x.cells.toArray) : Sx.cellIn (w.heap[g]?) (o + 2) = some (.int .i64 x.mode) := by
  rw [cellIn_of_cells h (by decide)]; rfl
end Go.Proofs.YtpghlemcgjogpaaGreat
