/- The document's tables of modes; Clean: what they come to. -/
import Derived.Test.YtpghlemcgjogpaaDA
import Derived.Test.YtpghlemcgjogpaaFDC
set_option linter.unusedVariables false
set_option linter.unusedSimpArgs false
set_option linter.unnecessarySimpa false
set_option maxRecDepth 100000
namespace Go.Proofs.Ytpghlemcgjogpaa
open Go.Sx

theorem GH_undef {b : Bool} {body : (Value → Prop) → Prop} {next : Value → Prop} : GH undef b body next = next undef := by simp [GH, Gd, undef]
theorem run_streq {P : Program} {w : World} {t : Nat} {x y : Operand} {s u : ByteArray} : (binS .eql t x y (.string s) (.string u)).run P w = .ok (.bool (s.toList == u.toList)) w := by simp [binS, eqGuard, binOp, Op.stringOp]
theorem run_eqI {P : Program} {w : World} {t : Nat} {x y : Operand} {q : IntKind} {a b : Int} : (binS .eql t x y (.int q a) (.int q b)).run P w = .ok (.bool (a == b)) w := by simp [binS, eqGuard, binOp, Op.intCmp]
theorem run_pick {P : Program} {w : World} {c : Bool} {u v : Value} : (pickS (.bool c) u v).run P w = .ok (if c = true then u else v) w := by simp [pickS, asBool, go_sem]
theorem run_not {P : Program} {w : World} {c : Bool} : (Op.unary .not (.bool c)).run P w = .ok (.bool (!c)) w := by simp [Op.unary]
theorem ba_toList_eq (s u : ByteArray) : (s.toList == u.toList) = decide (s = u) := by
  by_cases h : s = u
  · subst h; simp
  · rw [decide_eq_false h]
    have : s.toList ≠ u.toList := fun e => h (ByteArray.ext (by
      have := congrArg List.toArray e
      simpa [ByteArray.toList_eq] using this))
    simpa using this

theorem und91 : Try.prog.underlying 91 = some (.array 7 9) := by kernel_rfl
theorem siz91 : (Try.prog.info? 91).map (·.size) = some 7 := by kernel_rfl
theorem zer91 : (Try.prog.info? 91).map (·.zero) = some (some (.agg #[.string ByteArray.empty, .string ByteArray.empty, .string ByteArray.empty, .string ByteArray.empty, .string ByteArray.empty, .string ByteArray.empty, .string ByteArray.empty])) := by kernel_rfl
theorem run_idxArr {w : World} {g n : Nat} (h : n < 7) : (Instr.indexAt 91 (ptr g) (.int .i64 n)).run Try.prog w = .ok (.pointer (some ⟨g, n, none⟩)) w := by
  obtain ⟨inf, hi', hn⟩ := Option.map_eq_some_iff.1 siz9'
  have h0 : (n : Int) < 7 := by omega
  have h1 : ¬ 7 ≤ n := by omega
  simp [Instr.indexAt, Instr.sureAddr, asIntOf, run_underlying und91, h0, h1, sizeOf, typeInfo, hi', hn, addr_add, go_sem]
theorem run_idxStr {P : Program} {w : World} {t : Nat} {q : IntKind} {s : ByteArray} {n : Nat} {b : UInt8} (ht : P.underlying t = some .string) (h : s[n]? = some b) : (Instr.index t (.string s) (.int q n)).run P w = .ok (.int .u8 b.toNat) w := by
  simp [Instr.index, asIntOf, run_underlying ht, h, go_sem]
theorem seven {a : Int} (h : okM a) : a = 0 ∨ a = 1 ∨ a = 2 ∨ a = 3 ∨ a = 4 ∨ a = 5 ∨ a = 6 := by unfold okM at h; omega
def tabT : List ByteArray := [{ data := #[121, 121, 121, 121, 121, 121, 121] }, { data := #[121, 121, 121, 121, 121, 121, 110] }, { data := #[121, 121, 121, 110, 110, 110, 110] }, { data := #[121, 121, 110, 121, 110, 121, 110] }, { data := #[121, 121, 110, 110, 110, 110, 110] }, { data := #[121, 121, 110, 121, 110, 110, 110] }, { data := #[121, 110, 110, 110, 110, 110, 110] }]
def tabJ : List ByteArray := [{ data := #[48, 49, 50, 51, 52, 53, 54] }, { data := #[49, 49, 50, 51, 52, 53, 54] }, { data := #[50, 50, 50, 52, 52, 54, 54] }, { data := #[51, 51, 52, 51, 52, 53, 54] }, { data := #[52, 52, 52, 52, 52, 54, 54] }, { data := #[53, 53, 54, 53, 54, 53, 54] }, { data := #[54, 54, 54, 54, 54, 54, 54] }]
def atT (T : List ByteArray) (a b : Nat) : UInt8 := ((T[a]?.bind fun s => s[b]?)).getD 0
theorem tab_get {T : List ByteArray} (hT : (T.length == 7 && T.all fun s => s.size == 7) = true) {a b : Nat} (ha : a < 7) (hb : b < 7) : ∃ s, T[a]? = some s ∧ s[b]? = some (atT T a b) := by
  simp only [Bool.and_eq_true, beq_iff_eq, List.all_eq_true] at hT
  have h1 : a < T.length := by omega
  have h2 : b < (T[a]).size := by rw [hT.2 _ (List.getElem_mem h1)]; omega
  refine ⟨T[a], List.getElem?_eq_getElem h1, ?_⟩
  unfold atT
  rw [List.getElem?_eq_getElem h1]
  simp [h2]
theorem rTogether_c (a b : Int) (ha : okM a) (hb : okM b) (w : World) (R : Ending → World → Prop) (h : ∀ w', Keep0 w w' → R (.returned (.bool (tg a b))) w') : Calls Try.prog 33 #[.int .i64 a, .int .i64 b] w R := by
  apply F33_calls
  obtain ⟨m, rfl⟩ := Int.eq_ofNat_of_zero_le ha.1
  obtain ⟨n, rfl⟩ := Int.eq_ofNat_of_zero_le hb.1
  have hm : m < 7 := by have := ha.2; omega
  have hn : n < 7 := by have := hb.2; omega
  have hbld : ∀ w, (Instr.build 91 #[(0, (Go.Value.string { data := #[121, 121, 121, 121, 121, 121, 121] })), (1, (Go.Value.string { data := #[121, 121, 121, 121, 121, 121, 110] })), (2, (Go.Value.string { data := #[121, 121, 121, 110, 110, 110, 110] })), (3, (Go.Value.string { data := #[121, 121, 110, 121, 110, 121, 110] })), (4, (Go.Value.string { data := #[121, 121, 110, 110, 110, 110, 110] })), (5, (Go.Value.string { data := #[121, 121, 110, 121, 110, 110, 110] })), (6, (Go.Value.string { data := #[121, 110, 110, 110, 110, 110, 110] }))]).run Try.prog w =
      .ok (.agg (tabT.map Value.string).toArray) w := fun w => by kernel_rfl
  have e1 : decide ((m : Int) < 0) = false := by rw [decide_eq_false_iff_not]; omega
  have e2 : decide ((m : Int) > 6) = false := by rw [decide_eq_false_iff_not]; omega
  have e3 : decide ((n : Int) < 0) = false := by rw [decide_eq_false_iff_not]; omega
  have e4 : decide ((n : Int) > 6) = false := by rw [decide_eq_false_iff_not]; omega
  simp only [F33_s1, F33_s1_t, uv_eq (hbld _)]
  rw [uv_allocS (vs := tabT.map Value.string) zer91 siz91 rfl rfl (by intro u hu; obtain ⟨s, _, rfl⟩ := List.mem_map.1 hu; rfl)]
  have hk : Keep0 w (World.add w (.cells (tabT.map Value.string).toArray 91)) := (Keep.refl _ w).add
  have hc : (World.add w (.cells (tabT.map Value.string).toArray 91)).heap[w.heap.size]? = some (.cells (tabT.map Value.string).toArray 91 (0, 0)) := add_new
  generalize World.add w (.cells (tabT.map Value.string).toArray 91) = w1 at hk hc
  obtain ⟨s, hs, hsb⟩ := tab_get (T := tabT) (by decide) hm hn
  have hcell : Sx.cellIn (w1.heap[w.heap.size]?) m = some (.string s) := by
    rw [hc, cellIn_cells, List.getElem?_toArray, List.getElem?_map, hs]; rfl
  simp only [e1, e2, e3, e4, ↓Bc_true, ↓Bc_false, ↓Gk_hit, ↓Gk_tf, ↓Gk_ft, ↓Gk_undef, ↓GH_hit, ↓GH_tf, ↓GH_ft, ↓un_nil, ↓uv_fieldAt, ↓uv_load1, ↓uv_loadN, ↓uu_store1, ↓uv_box, ↓uv_makeMap, ↓uv_eql, ↓uv_neq, ↓uv_lss, ↓uv_leq, ↓uv_gtr, ↓uv_geq, ↓uv_add, ↓uv_sub, ↓uv_not, ↓uv_pick, ↓uv_streq, ↓uv_strne, ↓uv_ptreq, ↓uv_ptrne, ↓uv_func, ↓uv_extract, ↓un_len, ↓uv_and, ↓uv_or, Bool.false_eq_true, if_false, F33_s2, F33_s3, F33_s3_t, uv_eq (run_idxArr hm), uv_eq (run_load1 (P := Try.prog) (t := 9) (by kernel_rfl) hcell), uv_eq (run_idxStr undS hsb)]
  have e5 : (((atT tabT m n).toNat : Int) == 121) = tg m n := by
    have := all2 (P := fun a b => (((atT tabT a.toNat b.toNat).toNat : Int) == 121) == tg a b) (by decide +kernel) ha hb
    simpa using this
  rw [e5]
  exact h w1 hk
theorem rJoin_c (a b : Int) (ha : okM a) (hb : okM b) (w : World) (R : Ending → World → Prop) (h : ∀ w', Keep0 w w' → R (.returned (.int .i64 (jn a b))) w') : Calls Try.prog 43 #[.int .i64 a, .int .i64 b] w R := by
  apply F43_calls
  obtain ⟨m, rfl⟩ := Int.eq_ofNat_of_zero_le ha.1
  obtain ⟨n, rfl⟩ := Int.eq_ofNat_of_zero_le hb.1
  have hm : m < 7 := by have := ha.2; omega
  have hn : n < 7 := by have := hb.2; omega
  have hbld : ∀ w, (Instr.build 91 #[(0, (Go.Value.string { data := #[48, 49, 50, 51, 52, 53, 54] })), (1, (Go.Value.string { data := #[49, 49, 50, 51, 52, 53, 54] })), (2, (Go.Value.string { data := #[50, 50, 50, 52, 52, 54, 54] })), (3, (Go.Value.string { data := #[51, 51, 52, 51, 52, 53, 54] })), (4, (Go.Value.string { data := #[52, 52, 52, 52, 52, 54, 54] })), (5, (Go.Value.string { data := #[53, 53, 54, 53, 54, 53, 54] })), (6, (Go.Value.string { data := #[54, 54, 54, 54, 54, 54, 54] }))]).run Try.prog w =
      .ok (.agg (tabJ.map Value.string).toArray) w := fun w => by kernel_rfl
  have hcv : ∀ (x : Int) (w : World), (convert 5 3 (.int .u8 x)).run Try.prog w = .ok (.int .i64 (IntKind.i64.wrap x)) w := fun x w => by kernel_rfl
  have e1 : decide ((m : Int) < 0) = false := by rw [decide_eq_false_iff_not]; omega
  have e2 : decide ((m : Int) > 6) = false := by rw [decide_eq_false_iff_not]; omega
  have e3 : decide ((n : Int) < 0) = false := by rw [decide_eq_false_iff_not]; omega
  have e4 : decide ((n : Int) > 6) = false := by rw [decide_eq_false_iff_not]; omega
  simp only [F43_s1, F43_s1_t, uv_eq (hbld _)]
  rw [uv_allocS (vs := tabJ.map Value.string) zer91 siz91 rfl rfl (by intro u hu; obtain ⟨s, _, rfl⟩ := List.mem_map.1 hu; rfl)]
  have hk : Keep0 w (World.add w (.cells (tabJ.map Value.string).toArray 91)) := (Keep.refl _ w).add
  have hc : (World.add w (.cells (tabJ.map Value.string).toArray 91)).heap[w.heap.size]? = some (.cells (tabJ.map Value.string).toArray 91 (0, 0)) := add_new
  generalize World.add w (.cells (tabJ.map Value.string).toArray 91) = w1 at hk hc
  obtain ⟨s, hs, hsb⟩ := tab_get (T := tabJ) (by decide) hm hn
  have hcell : Sx.cellIn (w1.heap[w.heap.size]?) m = some (.string s) := by
    rw [hc, cellIn_cells, List.getElem?_toArray, List.getElem?_map, hs]; rfl
  simp only [e1, e2, e3, e4, ↓Bc_true, ↓Bc_false, ↓Gk_hit, ↓Gk_tf, ↓Gk_ft, ↓Gk_undef, ↓GH_hit, ↓GH_tf, ↓GH_ft, ↓un_nil, ↓uv_fieldAt, ↓uv_load1, ↓uv_loadN, ↓uu_store1, ↓uv_box, ↓uv_makeMap, ↓uv_eql, ↓uv_neq, ↓uv_lss, ↓uv_leq, ↓uv_gtr, ↓uv_geq, ↓uv_add, ↓uv_sub, ↓uv_not, ↓uv_pick, ↓uv_streq, ↓uv_strne, ↓uv_ptreq, ↓uv_ptrne, ↓uv_func, ↓uv_extract, ↓un_len, ↓uv_and, ↓uv_or, Bool.false_eq_true, if_false, F43_s2, F43_s3, F43_s3_t, uv_eq (run_idxArr hm), uv_eq (run_load1 (P := Try.prog) (t := 9) (by kernel_rfl) hcell), uv_eq (run_idxStr undS hsb), uv_eq (hcv _ _)]
  have e5 : IntKind.i64.wrap (IntKind.u8.wrap (((atT tabJ m n).toNat : Int) - 48)) = jn m n := by
    have := all2 (P := fun a b => IntKind.i64.wrap (IntKind.u8.wrap (((atT tabJ a.toNat b.toNat).toNat : Int) - 48)) == jn a b) (by decide +kernel) ha hb
    simpa using this
  rw [e5]
  exact h w1 hk
/-- Covers: of modes. -/
def cvB (a b : Int) : Bool := decide (0 ≤ a ∧ a ≤ 6) && decide (0 ≤ b ∧ b ≤ 6) && jn a b == a
theorem rCovers_c (a b : Int) (w : World) (R : Ending → World → Prop) (h : ∀ w', Keep0 w w' → R (.returned (.bool (cvB a b))) w') : Calls Try.prog 15 #[.int .i64 a, .int .i64 b] w R := by
  apply F15_calls
  simp only [F15_s1, F15_s1_t, ↓Bc_true, ↓Bc_false, ↓Gk_hit, ↓Gk_tf, ↓Gk_ft, ↓Gk_undef, ↓GH_hit, ↓GH_tf, ↓GH_ft, ↓un_nil, ↓uv_fieldAt, ↓uv_load1, ↓uv_loadN, ↓uu_store1, ↓uv_box, ↓uv_makeMap, ↓uv_eql, ↓uv_neq, ↓uv_lss, ↓uv_leq, ↓uv_gtr, ↓uv_geq, ↓uv_add, ↓uv_sub, ↓uv_not, ↓uv_pick, ↓uv_streq, ↓uv_strne, ↓uv_ptreq, ↓uv_ptrne, ↓uv_func, ↓uv_extract, ↓un_len, ↓uv_and, ↓uv_or]
  have fin : (¬ okM a ∨ ¬ okM b) → R (.returned (.bool false)) w := fun hn => by
    have e : cvB a b = false := by
      unfold cvB okM at *
      rcases hn with hn | hn <;> rw [decide_eq_false hn] <;> simp
    rw [← e]; exact h w (Keep.refl _ w)
  unfold okM at fin
  cases c1 : decide (a < 0)
  · have d1 : ¬ a < 0 := by simpa using c1
    simp only [↓Bc_true, ↓Bc_false, ↓Gk_hit, ↓Gk_tf, ↓Gk_ft, ↓Gk_undef, ↓GH_hit, ↓GH_tf, ↓GH_ft, ↓un_nil, ↓uv_fieldAt, ↓uv_load1, ↓uv_loadN, ↓uu_store1, ↓uv_box, ↓uv_makeMap, ↓uv_eql, ↓uv_neq, ↓uv_lss, ↓uv_leq, ↓uv_gtr, ↓uv_geq, ↓uv_add, ↓uv_sub, ↓uv_not, ↓uv_pick, ↓uv_streq, ↓uv_strne, ↓uv_ptreq, ↓uv_ptrne, ↓uv_func, ↓uv_extract, ↓un_len, ↓uv_and, ↓uv_or]
    cases c2 : decide (a > 6)
    · have d2 : ¬ a > 6 := by simpa using c2
      simp only [↓Bc_true, ↓Bc_false, ↓Gk_hit, ↓Gk_tf, ↓Gk_ft, ↓Gk_undef, ↓GH_hit, ↓GH_tf, ↓GH_ft, ↓un_nil, ↓uv_fieldAt, ↓uv_load1, ↓uv_loadN, ↓uu_store1, ↓uv_box, ↓uv_makeMap, ↓uv_eql, ↓uv_neq, ↓uv_lss, ↓uv_leq, ↓uv_gtr, ↓uv_geq, ↓uv_add, ↓uv_sub, ↓uv_not, ↓uv_pick, ↓uv_streq, ↓uv_strne, ↓uv_ptreq, ↓uv_ptrne, ↓uv_func, ↓uv_extract, ↓un_len, ↓uv_and, ↓uv_or, Bool.false_eq_true, if_false]
      cases c3 : decide (b < 0)
      · have d3 : ¬ b < 0 := by simpa using c3
        simp only [↓Bc_true, ↓Bc_false, ↓Gk_hit, ↓Gk_tf, ↓Gk_ft, ↓Gk_undef, ↓GH_hit, ↓GH_tf, ↓GH_ft, ↓un_nil, ↓uv_fieldAt, ↓uv_load1, ↓uv_loadN, ↓uu_store1, ↓uv_box, ↓uv_makeMap, ↓uv_eql, ↓uv_neq, ↓uv_lss, ↓uv_leq, ↓uv_gtr, ↓uv_geq, ↓uv_add, ↓uv_sub, ↓uv_not, ↓uv_pick, ↓uv_streq, ↓uv_strne, ↓uv_ptreq, ↓uv_ptrne, ↓uv_func, ↓uv_extract, ↓un_len, ↓uv_and, ↓uv_or]
        cases c4 : decide (b > 6)
        · have d4 : ¬ b > 6 := by simpa using c4
          simp only [↓Bc_true, ↓Bc_false, ↓Gk_hit, ↓Gk_tf, ↓Gk_ft, ↓Gk_undef, ↓GH_hit, ↓GH_tf, ↓GH_ft, ↓un_nil, ↓uv_fieldAt, ↓uv_load1, ↓uv_loadN, ↓uu_store1, ↓uv_box, ↓uv_makeMap, ↓uv_eql, ↓uv_neq, ↓uv_lss, ↓uv_leq, ↓uv_gtr, ↓uv_geq, ↓uv_add, ↓uv_sub, ↓uv_not, ↓uv_pick, ↓uv_streq, ↓uv_strne, ↓uv_ptreq, ↓uv_ptrne, ↓uv_func, ↓uv_extract, ↓un_len, ↓uv_and, ↓uv_or, Bool.false_eq_true, if_false, F15_s2, F15_s3, F15_s3_t]
          have ha : okM a := ⟨by omega, by omega⟩
          have hb : okM b := ⟨by omega, by omega⟩
          refine un_enter (enters Try.func43 (by kernel_rfl) (by kernel_rfl) _ _) (rJoin_c a b ha hb w _ fun w' hk => ?_)
          have := h w' hk
          unfold cvB at this
          rw [decide_eq_true (p := 0 ≤ a ∧ a ≤ 6) ha, decide_eq_true (p := 0 ≤ b ∧ b ≤ 6) hb] at this
          simpa only [↓Bc_true, ↓Bc_false, ↓Gk_hit, ↓Gk_tf, ↓Gk_ft, ↓Gk_undef, ↓GH_hit, ↓GH_tf, ↓GH_ft, ↓un_nil, ↓uv_fieldAt, ↓uv_load1, ↓uv_loadN, ↓uu_store1, ↓uv_box, ↓uv_makeMap, ↓uv_eql, ↓uv_neq, ↓uv_lss, ↓uv_leq, ↓uv_gtr, ↓uv_geq, ↓uv_add, ↓uv_sub, ↓uv_not, ↓uv_pick, ↓uv_streq, ↓uv_strne, ↓uv_ptreq, ↓uv_ptrne, ↓uv_func, ↓uv_extract, ↓un_len, ↓uv_and, ↓uv_or, Bool.true_and] using this
        · simp only [↓Bc_true, ↓Bc_false, ↓Gk_hit, ↓Gk_tf, ↓Gk_ft, ↓Gk_undef, ↓GH_hit, ↓GH_tf, ↓GH_ft, ↓un_nil, ↓uv_fieldAt, ↓uv_load1, ↓uv_loadN, ↓uu_store1, ↓uv_box, ↓uv_makeMap, ↓uv_eql, ↓uv_neq, ↓uv_lss, ↓uv_leq, ↓uv_gtr, ↓uv_geq, ↓uv_add, ↓uv_sub, ↓uv_not, ↓uv_pick, ↓uv_streq, ↓uv_strne, ↓uv_ptreq, ↓uv_ptrne, ↓uv_func, ↓uv_extract, ↓un_len, ↓uv_and, ↓uv_or, Bool.false_eq_true, if_false, if_true, F15_s2, F15_s4, F15_s4_t]
          exact fin (.inr (by have : b > 6 := by simpa using c4
                              omega))
      · simp only [↓Bc_true, ↓Bc_false, ↓Gk_hit, ↓Gk_tf, ↓Gk_ft, ↓Gk_undef, ↓GH_hit, ↓GH_tf, ↓GH_ft, ↓un_nil, ↓uv_fieldAt, ↓uv_load1, ↓uv_loadN, ↓uu_store1, ↓uv_box, ↓uv_makeMap, ↓uv_eql, ↓uv_neq, ↓uv_lss, ↓uv_leq, ↓uv_gtr, ↓uv_geq, ↓uv_add, ↓uv_sub, ↓uv_not, ↓uv_pick, ↓uv_streq, ↓uv_strne, ↓uv_ptreq, ↓uv_ptrne, ↓uv_func, ↓uv_extract, ↓un_len, ↓uv_and, ↓uv_or, Bool.false_eq_true, if_false, if_true, F15_s2, F15_s4, F15_s4_t]
        exact fin (.inr (by have : b < 0 := by simpa using c3
                            omega))
    · simp only [↓Bc_true, ↓Bc_false, ↓Gk_hit, ↓Gk_tf, ↓Gk_ft, ↓Gk_undef, ↓GH_hit, ↓GH_tf, ↓GH_ft, ↓un_nil, ↓uv_fieldAt, ↓uv_load1, ↓uv_loadN, ↓uu_store1, ↓uv_box, ↓uv_makeMap, ↓uv_eql, ↓uv_neq, ↓uv_lss, ↓uv_leq, ↓uv_gtr, ↓uv_geq, ↓uv_add, ↓uv_sub, ↓uv_not, ↓uv_pick, ↓uv_streq, ↓uv_strne, ↓uv_ptreq, ↓uv_ptrne, ↓uv_func, ↓uv_extract, ↓un_len, ↓uv_and, ↓uv_or, Bool.false_eq_true, if_false, if_true, F15_s2, F15_s4, F15_s4_t]
      exact fin (.inl (by have : a > 6 := by simpa using c2
                          omega))
  · simp only [↓Bc_true, ↓Bc_false, ↓Gk_hit, ↓Gk_tf, ↓Gk_ft, ↓Gk_undef, ↓GH_hit, ↓GH_tf, ↓GH_ft, ↓un_nil, ↓uv_fieldAt, ↓uv_load1, ↓uv_loadN, ↓uu_store1, ↓uv_box, ↓uv_makeMap, ↓uv_eql, ↓uv_neq, ↓uv_lss, ↓uv_leq, ↓uv_gtr, ↓uv_geq, ↓uv_add, ↓uv_sub, ↓uv_not, ↓uv_pick, ↓uv_streq, ↓uv_strne, ↓uv_ptreq, ↓uv_ptrne, ↓uv_func, ↓uv_extract, ↓un_len, ↓uv_and, ↓uv_or, Bool.false_eq_true, if_false, if_true, F15_s2, F15_s4, F15_s4_t]
    exact fin (.inl (by have : a < 0 := by simpa using c1
                        omega))

/-- A lock in a row. -/
theorem RowL.read {w : World} {v : Value} {l : List Lk} {i : Nat} {x : Lk} (h : RowL w v l) (hx : l[i]? = some x) : ∃ g o, rowB v = some g ∧ g < w.heap.size ∧ (∀ w1, (Instr.indexAt 32 v (.int .i64 i)).run Try.prog w1 = .ok (.pointer (some ⟨g, o, none⟩)) w1) ∧
    Sx.cellsIn (w.heap[g]?) o 3 = some x.cells.toArray := by
  have hlt := (List.getElem?_eq_some_iff.1 hx).1
  obtain ⟨g, o, hg, hixx, hcl⟩ := h.elem (P := Try.prog) (q := .i64) (i := i) hlt und32 siz37
  rw [show lcells l = l.flatMap Lk.cells from rfl, flat_at Lk.len hx] at hcl
  exact ⟨g, o, hg, h.lt hg, hixx, hcl⟩
theorem lk0 {w : World} {g o : Nat} {x : Lk} (h : Sx.cellsIn (w.heap[g]?) o 3 = some x.cells.toArray) : Sx.cellIn (w.heap[g]?) (o + 0) = some (.int .i64 x.txn) := by
  rw [cellIn_of_cells h (by decide)]; rfl
theorem lk1 {w : World} {g o : Nat} {x : Lk} (h : Sx.cellsIn (w.heap[g]?) o 3 = some x.cells.toArray) : Sx.cellIn (w.heap[g]?) (o + 1) = some (.string x.res) := by
  rw [cellIn_of_cells h (by decide)]; rfl
theorem lk2 {w : World} {g o : Nat} {x : Lk} (h : Sx.cellsIn (w.heap[g]?) o 3 = some x.cells.toArray) : Sx.cellIn (w.heap[g]?) (o + 2) = some (.int .i64 x.mode) := by
  rw [cellIn_of_cells h (by decide)]; rfl
theorem clean_c (v : Value) (l : List Lk) (w : World) (hr : RowL w v l) (hl : l.Pairwise fun b a => a.res = b.res → a.txn ≠ b.txn ∧ okM a.mode ∧ okM b.mode ∧ tg a.mode b.mode = true) (R : Ending → World → Prop) (h : ∀ w', Keep0 w w' → R (.returned (.bool true)) w') :
    Calls Try.prog 12 #[v] w R := by
  apply F12_calls
  have hbd := hr.bound
  have hmax2 : maxLen ≤ 9223372036854775807 := by decide
  simp only [F12_s1, F12_s1_t, F12_s4]
  refine ⟨fun v5 w' => ∃ i : Nat, v5 = .int .i64 i ∧ i ≤ l.length ∧ Keep0 w w', fun v5 _ => match v5 with | .int _ i => l.length - i.toNat | _ => 0, ⟨0, rfl, by omega, Keep.refl _ w⟩, ?_⟩
  rintro v5 w1 ⟨i, rfl, hi, hk1⟩
  have hr1 := hr.keep hk1 (fun _ _ => id)
  simp only [F12_s5, F12_s5_t, un_lenR und32 hr1, ↓Bc_true, ↓Bc_false, ↓Gk_hit, ↓Gk_tf, ↓Gk_ft, ↓Gk_undef, ↓GH_hit, ↓GH_tf, ↓GH_ft, ↓un_nil, ↓uv_fieldAt, ↓uv_load1, ↓uv_loadN, ↓uu_store1, ↓uv_box, ↓uv_makeMap, ↓uv_eql, ↓uv_neq, ↓uv_lss, ↓uv_leq, ↓uv_gtr, ↓uv_geq, ↓uv_add, ↓uv_sub, ↓uv_not, ↓uv_pick, ↓uv_streq, ↓uv_strne, ↓uv_ptreq, ↓uv_ptrne, ↓uv_func, ↓uv_extract, ↓un_len, ↓uv_and, ↓uv_or, F12_s6]
  by_cases hlt : i < l.length
  · have e1 : decide ((i : Int) < (l.length : Int)) = true := by rw [decide_eq_true_eq]; omega
    obtain ⟨x, hx⟩ : ∃ x, l[i]? = some x := ⟨l[i], List.getElem?_eq_getElem hlt⟩
    have e3 : IntKind.i64.wrap ((i : Int) + 1) = ((i + 1 : Nat) : Int) := by rw [wrap_id (by omega) (by omega)]; omega
    simp only [e1, ↓Bc_true, ↓Bc_false, ↓Gk_hit, ↓Gk_tf, ↓Gk_ft, ↓Gk_undef, ↓GH_hit, ↓GH_tf, ↓GH_ft, ↓un_nil, ↓uv_fieldAt, ↓uv_load1, ↓uv_loadN, ↓uu_store1, ↓uv_box, ↓uv_makeMap, ↓uv_eql, ↓uv_neq, ↓uv_lss, ↓uv_leq, ↓uv_gtr, ↓uv_geq, ↓uv_add, ↓uv_sub, ↓uv_not, ↓uv_pick, ↓uv_streq, ↓uv_strne, ↓uv_ptreq, ↓uv_ptrne, ↓uv_func, ↓uv_extract, ↓un_len, ↓uv_and, ↓uv_or, F12_s9, F12_s9_t, F12_s11]
    refine ⟨fun v4 w' => ∃ k : Nat, v4 = .int .i64 k ∧ k ≤ i ∧ Keep0 w w', fun v4 _ => match v4 with | .int _ k => i - k.toNat | _ => 0, ⟨0, rfl, by omega, hk1⟩, ?_⟩
    rintro v4 w2 ⟨k, rfl, hki, hk2⟩
    have hr2 := hr.keep hk2 (fun _ _ => id)
    simp only [F12_s12, F12_s12_t, ↓Bc_true, ↓Bc_false, ↓Gk_hit, ↓Gk_tf, ↓Gk_ft, ↓Gk_undef, ↓GH_hit, ↓GH_tf, ↓GH_ft, ↓un_nil, ↓uv_fieldAt, ↓uv_load1, ↓uv_loadN, ↓uu_store1, ↓uv_box, ↓uv_makeMap, ↓uv_eql, ↓uv_neq, ↓uv_lss, ↓uv_leq, ↓uv_gtr, ↓uv_geq, ↓uv_add, ↓uv_sub, ↓uv_not, ↓uv_pick, ↓uv_streq, ↓uv_strne, ↓uv_ptreq, ↓uv_ptrne, ↓uv_func, ↓uv_extract, ↓un_len, ↓uv_and, ↓uv_or, F12_s13]
    by_cases hkl : k < i
    · have e2 : decide ((k : Int) < (i : Int)) = true := by rw [decide_eq_true_eq]; omega
      obtain ⟨y, hy⟩ : ∃ y, l[k]? = some y := ⟨l[k], List.getElem?_eq_getElem (by omega)⟩
      have e4 : IntKind.i64.wrap ((k : Int) + 1) = ((k + 1 : Nat) : Int) := by rw [wrap_id (by omega) (by omega)]; omega
      have hpair : x.res = y.res → x.txn ≠ y.txn ∧ okM x.mode ∧ okM y.mode ∧ tg x.mode y.mode = true := by
        have := List.pairwise_iff_getElem.1 hl k i (by omega) hlt hkl
        rw [(List.getElem?_eq_some_iff.1 hx).2, (List.getElem?_eq_some_iff.1 hy).2] at this
        exact this
      obtain ⟨gx, ox, hgx, hlx, ixx, cx⟩ := RowL.read hr2 hx
      obtain ⟨gy, oy, hgy, hly, ixy, cy⟩ := RowL.read hr2 hy
      have next : ∀ w3, Keep0 w2 w3 → F12_s15 R (fun y0 w' => (∃ i : Nat, y0 = .int .i64 i ∧ i ≤ l.length ∧ Keep0 w w') ∧ (match y0 with | .int _ i => l.length - i.toNat | _ => 0) < (match (Value.int .i64 i) with | .int _ i => l.length - i.toNat | _ => 0)) (fun y0 w' => (∃ k : Nat, y0 = .int .i64 k ∧ k ≤ i ∧ Keep0 w w') ∧ (match y0 with | .int _ k => i - k.toNat | _ => 0) < (match (Value.int .i64 k) with | .int _ k => i - k.toNat | _ => 0)) v (.int .i64 i) (.int .i64 k) w3 := fun w3 hk3 => by
        simp only [F12_s15, F12_s15_t, ↓Bc_true, ↓Bc_false, ↓Gk_hit, ↓Gk_tf, ↓Gk_ft, ↓Gk_undef, ↓GH_hit, ↓GH_tf, ↓GH_ft, ↓un_nil, ↓uv_fieldAt, ↓uv_load1, ↓uv_loadN, ↓uu_store1, ↓uv_box, ↓uv_makeMap, ↓uv_eql, ↓uv_neq, ↓uv_lss, ↓uv_leq, ↓uv_gtr, ↓uv_geq, ↓uv_add, ↓uv_sub, ↓uv_not, ↓uv_pick, ↓uv_streq, ↓uv_strne, ↓uv_ptreq, ↓uv_ptrne, ↓uv_func, ↓uv_extract, ↓un_len, ↓uv_and, ↓uv_or, e4]
        exact ⟨⟨k + 1, rfl, by omega, hk2.trans hk3 (fun _ _ h => h)⟩, by simp; omega⟩
      simp only [e2, ↓Bc_true, ↓Bc_false, ↓Gk_hit, ↓Gk_tf, ↓Gk_ft, ↓Gk_undef, ↓GH_hit, ↓GH_tf, ↓GH_ft, ↓un_nil, ↓uv_fieldAt, ↓uv_load1, ↓uv_loadN, ↓uu_store1, ↓uv_box, ↓uv_makeMap, ↓uv_eql, ↓uv_neq, ↓uv_lss, ↓uv_leq, ↓uv_gtr, ↓uv_geq, ↓uv_add, ↓uv_sub, ↓uv_not, ↓uv_pick, ↓uv_streq, ↓uv_strne, ↓uv_ptreq, ↓uv_ptrne, ↓uv_func, ↓uv_extract, ↓un_len, ↓uv_and, ↓uv_or, F12_s16, F12_s16_t]
      refine ⟨fun w' => Keep0 w2 w', (Keep.refl _ w2).drew, ?_⟩
      have at' : ∀ {w' : World} {g : Nat}, g < w2.heap.size → Keep0 w2 w' → w'.heap[g]? = w2.heap[g]? := fun hg hk => hk.keep _ hg id
      refine HV_of (fun w' _ => ixx w') (HV_field (off := 1) (by kernel_rfl) (HV_load1 (v := .string x.res) (by kernel_rfl) (fun w' hw => by rw [at' hlx hw]; exact lk1 cx) (HV_of (fun w' _ => ixy w') (HV_field (off := 1) (by kernel_rfl) (HV_load1 (v := .string y.res) (by kernel_rfl) (fun w' hw => by rw [at' hly hw]; exact lk1 cy) (HV_of (fun w' _ => run_streq) ?_))))))
      rw [ba_toList_eq]
      by_cases hxy : x.res = y.res
      · obtain ⟨hne, hmx, hmy, htg⟩ := hpair hxy
        rw [decide_eq_true hxy]
        simp only [GH_hit]
        refine HV_of (fun w' _ => ixx w') (HV_field (off := 0) (by kernel_rfl) (HV_load1 (v := .int .i64 x.txn) (by kernel_rfl) (fun w' hw => by rw [at' hlx hw]; exact lk0 cx) (HV_of (fun w' _ => ixy w') (HV_field (off := 0) (by kernel_rfl) (HV_load1 (v := .int .i64 y.txn) (by kernel_rfl) (fun w' hw => by rw [at' hly hw]; exact lk0 cy) (HV_of (fun w' _ => run_eqI) ?_))))))
        have e5 : (x.txn == y.txn) = false := by simpa using hne
        simp only [e5, GH_hit]
        refine HV_of (fun w' _ => ixx w') (HV_field (off := 2) (by kernel_rfl) (HV_load1 (v := .int .i64 x.mode) (by kernel_rfl) (fun w' hw => by rw [at' hlx hw]; exact lk2 cx) (HV_of (fun w' _ => ixy w') (HV_field (off := 2) (by kernel_rfl) (HV_load1 (v := .int .i64 y.mode) (by kernel_rfl) (fun w' hw => by rw [at' hly hw]; exact lk2 cy) ?_)))))
        simp only [Gk_hit]
        refine un_enter (enters Try.func33 (by kernel_rfl) (by kernel_rfl) _ _) (rTogether_c _ _ hmx hmy _ _ fun w3 hk3 => ?_)
        have hk23 : Keep0 w2 w3 := ((Keep.refl (fun _ => False) w2).drew).trans hk3 (fun _ _ h => h)
        refine ⟨hk23, ?_⟩
        rw [htg]
        refine HV_of (fun w' _ => run_not) (HV_of (fun w' _ => run_pick) (HV_of (fun w' _ => run_pick) ?_))
        simp only [Bool.not_true, Bool.false_eq_true, if_false, if_true, F12_s17, ↓Bc_true, ↓Bc_false, ↓Gk_hit, ↓Gk_tf, ↓Gk_ft, ↓Gk_undef, ↓GH_hit, ↓GH_tf, ↓GH_ft, ↓un_nil, ↓uv_fieldAt, ↓uv_load1, ↓uv_loadN, ↓uu_store1, ↓uv_box, ↓uv_makeMap, ↓uv_eql, ↓uv_neq, ↓uv_lss, ↓uv_leq, ↓uv_gtr, ↓uv_geq, ↓uv_add, ↓uv_sub, ↓uv_not, ↓uv_pick, ↓uv_streq, ↓uv_strne, ↓uv_ptreq, ↓uv_ptrne, ↓uv_func, ↓uv_extract, ↓un_len, ↓uv_and, ↓uv_or]
        exact next w3 hk23
      · rw [decide_eq_false hxy]
        simp only [GH_ft, GH_undef, Gk_undef]
        refine ⟨(Keep.refl _ w2).drew, HV_of (fun w' _ => run_pick) ?_⟩
        simp only [Bool.false_eq_true, if_false, F12_s17, ↓Bc_true, ↓Bc_false, ↓Gk_hit, ↓Gk_tf, ↓Gk_ft, ↓Gk_undef, ↓GH_hit, ↓GH_tf, ↓GH_ft, ↓un_nil, ↓uv_fieldAt, ↓uv_load1, ↓uv_loadN, ↓uu_store1, ↓uv_box, ↓uv_makeMap, ↓uv_eql, ↓uv_neq, ↓uv_lss, ↓uv_leq, ↓uv_gtr, ↓uv_geq, ↓uv_add, ↓uv_sub, ↓uv_not, ↓uv_pick, ↓uv_streq, ↓uv_strne, ↓uv_ptreq, ↓uv_ptrne, ↓uv_func, ↓uv_extract, ↓un_len, ↓uv_and, ↓uv_or]
        exact next _ (Keep.refl _ w2).drew
    · have e2 : decide ((k : Int) < (i : Int)) = false := by rw [decide_eq_false_iff_not]; omega
      simp only [e2, ↓Bc_true, ↓Bc_false, ↓Gk_hit, ↓Gk_tf, ↓Gk_ft, ↓Gk_undef, ↓GH_hit, ↓GH_tf, ↓GH_ft, ↓un_nil, ↓uv_fieldAt, ↓uv_load1, ↓uv_loadN, ↓uu_store1, ↓uv_box, ↓uv_makeMap, ↓uv_eql, ↓uv_neq, ↓uv_lss, ↓uv_leq, ↓uv_gtr, ↓uv_geq, ↓uv_add, ↓uv_sub, ↓uv_not, ↓uv_pick, ↓uv_streq, ↓uv_strne, ↓uv_ptreq, ↓uv_ptrne, ↓uv_func, ↓uv_extract, ↓un_len, ↓uv_and, ↓uv_or, F12_s8, F12_s8_t, e3]
      exact ⟨⟨i + 1, rfl, by omega, hk2⟩, by simp; omega⟩
  · have e1 : decide ((i : Int) < (l.length : Int)) = false := by rw [decide_eq_false_iff_not]; omega
    simp only [e1, ↓Bc_true, ↓Bc_false, ↓Gk_hit, ↓Gk_tf, ↓Gk_ft, ↓Gk_undef, ↓GH_hit, ↓GH_tf, ↓GH_ft, ↓un_nil, ↓uv_fieldAt, ↓uv_load1, ↓uv_loadN, ↓uu_store1, ↓uv_box, ↓uv_makeMap, ↓uv_eql, ↓uv_neq, ↓uv_lss, ↓uv_leq, ↓uv_gtr, ↓uv_geq, ↓uv_add, ↓uv_sub, ↓uv_not, ↓uv_pick, ↓uv_streq, ↓uv_strne, ↓uv_ptreq, ↓uv_ptrne, ↓uv_func, ↓uv_extract, ↓un_len, ↓uv_and, ↓uv_or, F12_s3, F12_s3_t]
    exact h w1 hk1
end Go.Proofs.Ytpghlemcgjogpaa
