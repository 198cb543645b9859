/- Edges: what the comparison and the library's parts come to. -/
import Derived.Test.YtpghlemcgjogpaaGreatCJ
import Derived.Laws.StructEq
set_option linter.unusedVariables false
set_option linter.unusedSimpArgs false
set_option linter.unnecessarySimpa false
set_option maxRecDepth 100000
namespace Go.Proofs.YtpghlemcgjogpaaGreat
open Go.Sx

structure Ed where
  a : Int
  b : Int
  deriving DecidableEq, Inhabited
def Ed.cells (e : Ed) : List Value := [.int .i64 e.a, .int .i64 e.b]
theorem Ed.len (e : Ed) : e.cells.length = 2 := rfl
def ecells (l : List Ed) : List Value := l.flatMap Ed.cells
theorem ecells_one (q : List Ed) : ∀ u ∈ ecells q, oneV u = true := by
  intro u hu
  simp only [ecells, List.mem_flatMap] at hu
  obtain ⟨x, _, hu⟩ := hu
  simp only [Ed.cells, List.mem_cons, List.not_mem_nil, or_false] at hu
  rcases hu with rfl | rfl <;> rfl
abbrev RowE (w : World) (v : Value) (l : List Ed) : Prop := Row w 83 2 v l.length (ecells l)
theorem und38 : Tryz.prog.underlying 39 = some (.slice 83) := by kernel_rfl
theorem apE : apB Tryz.prog 39 83 2 16 = true := by kernel_rfl
theorem siz81 : (Tryz.prog.info? 83).map (·.size) = some 2 := by kernel_rfl

/-- A world with draws and new blocks more. -/
def Grown (w w' : World) : Prop := ∃ q os', w' = Sort.grow (w.drewN q) os'
theorem Grown.refl (w : World) : Grown w w := ⟨0, #[], by simp [Sort.grow, World.drewN]⟩
theorem Grown.drew {w w' : World} (h : Grown w w') : Grown w w'.drew := by
  obtain ⟨q, os, rfl⟩ := h
  exact ⟨q + 1, os, rfl⟩
theorem Grown.add {w w' : World} {o : Obj} (h : Grown w w') : Grown w (World.add w' o) := by
  obtain ⟨q, os, rfl⟩ := h
  refine ⟨q, os.push o, ?_⟩
  simp [World.add, Sort.grow]

def orI (l : List Int) : Int := (l.find? fun x => x != 0).getD 0
theorem or_c (v : Value) (l : List Int) (w : World) (hr : RowI w v l) (R : Ending → World → Prop) (h : R (.returned (.int .i64 (orI l))) w) : Calls Tryz.prog 43 #[v] w R := by
  apply F43_calls
  have hb := hr.bound
  have hmax2 : maxLen ≤ 9223372036854775807 := by decide
  simp only [F43_s1, F43_s1_t, un_lenR und55' hr, F43_s4]
  refine ⟨fun v8 w' => ∃ i : Nat, v8 = .int .i64 i ∧ i ≤ l.length ∧ w' = w ∧ ∀ j y, j < i → l[j]? = some y → y = 0, fun v8 _ => match v8 with | .int _ i => l.length - i.toNat | _ => 0, ⟨0, rfl, by omega, rfl, fun j y hj => by omega⟩, ?_⟩
  rintro v8 w1 ⟨i, rfl, hi, rfl, hn⟩
  simp only [F43_s5, F43_s5_t, ↓uL.1, F43_s6]
  by_cases hlt : i < l.length
  · have e1 : decide ((i : Int) < (l.length : Int)) = true := by rw [decide_eq_true_eq]; omega
    obtain ⟨x, hx⟩ : ∃ x, l[i]? = some x := ⟨l[i], List.getElem?_eq_getElem hlt⟩
    obtain ⟨g, o, hg, hixx, hcl⟩ := hr.elem (P := Tryz.prog) (q := .i64) (i := i) hlt und55' siz3'
    rw [ints_at hx] at hcl
    have hcl1 : cellIn (w1.heap[g]?) o = some (.int .i64 x) := by
      have := cellIn_of_cells (j := 0) hcl (by omega)
      simpa using this
    simp only [e1, ↓uL.1, F43_s9, F43_s9_t, uv_eq (hixx _), uv_load1 (by kernel_rfl : plainT Tryz.prog 3 = true) (by rw [hcl1]; rfl), hcl1, Option.getD_some, F43_s10]
    have e3 : IntKind.i64.wrap ((i : Int) + 1) = ((i + 1 : Nat) : Int) := by rw [wrap_id (by omega) (by omega)]; omega
    cases hx0 : (x != 0)
    · simp only [↓uL.1, F43_s8, F43_s8_t, e3]
      refine ⟨⟨i + 1, rfl, by omega, by trivial, fun j y hj hy => ?_⟩, by simp; omega⟩
      by_cases hji : j = i
      · subst hji; rw [hx] at hy; cases hy; simpa using hx0
      · exact hn j y (by omega) hy
    · simp only [↓uL.1, F43_s11, F43_s11_t]
      have : orI l = x := by
        have : l.find? (fun x => x != 0) = some x := by
          rw [List.find?_eq_some_iff_getElem]
          refine ⟨hx0, i, hlt, (List.getElem?_eq_some_iff.1 hx).2, fun j hj => ?_⟩
          have := hn j l[j] hj (List.getElem?_eq_getElem (by omega))
          simp [this]
        simp [orI, this]
      rw [this] at h; exact h
  · have e1 : decide ((i : Int) < (l.length : Int)) = false := by rw [decide_eq_false_iff_not]; omega
    simp only [e1, ↓uL.1, F43_s3, F43_s3_t]
    have : orI l = 0 := by
      have : l.find? (fun x => x != 0) = none := by
        rw [List.find?_eq_none]
        intro y hy
        obtain ⟨j, hj⟩ := List.getElem?_of_mem hy
        have := hn j y (by have := (List.getElem?_eq_some_iff.1 hj).1; omega) hj
        simp [this]
      simp [orI, this]
    rw [this] at h; exact h

def cmpE (x y : Ed) : Int := orI [cmpI x.a y.a, cmpI x.b y.b]
theorem bsl2 (a b : Int) (w : World) : (Instr.buildSlice 35 2 #[(0, .int .i64 a), (1, .int .i64 b)]).run Tryz.prog w = .ok (.slice (some ⟨w.heap.size, 0, none⟩) 2 2) (World.add w (.cells #[.int .i64 a, .int .i64 b] 3)) := by kernel_rfl
theorem edgesC_c (x y : Ed) (w : World) (R : Ending → World → Prop) (h : ∀ w', Grown w w' → R (.returned (.int .i64 (cmpE x y))) w') :
    Calls Tryz.prog 42 #[.agg x.cells.toArray, .agg y.cells.toArray] w R := by
  apply F42_calls
  simp only [F42_s1, F42_s1_t, ↓uL.1, Value.cells, hadd_size]
  have h1 : (World.add (World.add w (.cells x.cells.toArray 83)) (.cells y.cells.toArray 83)).heap[w.heap.size]? = some (.cells #[.int .i64 x.a, .int .i64 x.b] 83 (0, 0)) := by
    rw [add_old (by rw [add_new]; rfl), add_new]; rfl
  have h2 : (World.add (World.add w (.cells x.cells.toArray 83)) (.cells y.cells.toArray 83)).heap[w.heap.size + 1]? = some (.cells #[.int .i64 y.a, .int .i64 y.b] 83 (0, 0)) := by
    have := add_new (w := World.add w (.cells x.cells.toArray 83)) (o := .cells y.cells.toArray 83)
    rw [hadd_size] at this; exact this
  have hg : Grown w (World.add (World.add w (.cells x.cells.toArray 83)) (.cells y.cells.toArray 83)) := ((Grown.refl w).add).add
  generalize World.add (World.add w (.cells x.cells.toArray 83)) (.cells y.cells.toArray 83) = w1 at *
  refine ⟨fun w' => w'.heap[w.heap.size]? = some (.cells #[.int .i64 x.a, .int .i64 x.b] 83 (0, 0)) ∧ w'.heap[w.heap.size + 1]? = some (.cells #[.int .i64 y.a, .int .i64 y.b] 83 (0, 0)), ⟨h1, h2⟩, ?_⟩
  refine HV_field (off := 0) (by kernel_rfl) (HV_load1 (v := .int .i64 x.a) (by kernel_rfl) (fun w hw => by rw [hw.1]; rfl) (HV_field (off := 0) (by kernel_rfl) (HV_load1 (v := .int .i64 y.a) (by kernel_rfl) (fun w hw => by rw [hw.2]; rfl) ?_)))
  refine HV_field (off := 1) (by kernel_rfl) (HV_load1 (v := .int .i64 x.b) (by kernel_rfl) (fun w hw => by rw [hw.1]; rfl) (HV_field (off := 1) (by kernel_rfl) (HV_load1 (v := .int .i64 y.b) (by kernel_rfl) (fun w hw => by rw [hw.2]; rfl) ?_)))
  refine un_enter (enters Tryz.func44 (by kernel_rfl) (by kernel_rfl) _ _) (compare_c _ _ _ _ ⟨⟨h1, h2⟩, ?_⟩)
  refine un_enter (enters Tryz.func44 (by kernel_rfl) (by kernel_rfl) _ _) (compare_c _ _ _ _ ?_)
  simp only [uv_eq (bsl2 _ _ _)]
  have hr : RowI (World.add w1.drew (.cells #[.int .i64 (cmpI x.a y.a), .int .i64 (cmpI x.b y.b)] 3)) (.slice (some ⟨w1.drew.heap.size, 0, none⟩) 2 2) [cmpI x.a y.a, cmpI x.b y.b] := Row.fresh (cs := [.int .i64 (cmpI x.a y.a), .int .i64 (cmpI x.b y.b)]) rfl (by decide)
  refine un_enter (enters Tryz.func43 (by kernel_rfl) (by kernel_rfl) _ _) (or_c _ _ _ hr _ ?_)
  exact h _ (hg.drew.add)
section
variable {P : Program} {d : Nat} {xs ys : Array Value} {f : Field} {fs : List Field} {a b : Value} {r s : Bool} {w : World}
theorem eqf_cons (hn : (f.name == "_") = false) (ha : (part f.type xs f.offset).run P w = .ok a w) (hb : (part f.type ys f.offset).run P w = .ok b w) (he : (Op.equalIn d f.type a b).run P w = .ok r w) (hr : (Op.eqFields d xs ys fs).run P w = .ok s w) : (Op.eqFields d xs ys (f :: fs)).run P w = .ok (r && s) w := by
  have hn' : f.name ≠ "_" := by simpa using hn
  rw [Op.eqFields]
  simp only [if_pos hn', Sem.run_bind, ha, hb, he, Result.andThen_ok]
  cases r
  · simp
  · simpa using hr
theorem eqf_nil : (Op.eqFields d xs ys []).run P w = .ok true w := by simp [Op.eqFields]
end
theorem eqE0 (x y : Ed) (w : World) : (Op.equal  83 (.agg x.cells.toArray) (.agg y.cells.toArray)).run Tryz.prog w = .ok (x.a == y.a && (x.b == y.b && true)) w := by
  have hl : (Tryz.prog.fieldsOf 83).toList = [(Tryz.prog.fieldsOf 83)[0]!, (Tryz.prog.fieldsOf 83)[1]!] := by kernel_rfl
  have h0 : (Op.equalIn (9999 + 1)  83 (.agg x.cells.toArray) (.agg y.cells.toArray)).run Tryz.prog w = (Op.eqFields 9999 x.cells.toArray y.cells.toArray (Tryz.prog.fieldsOf 83).toList).run Tryz.prog w := run_equalIn_struct w 9999  83 _ _ (by kernel_rfl) (by kernel_rfl)
  show (Op.equalIn Op.maxDepth  83 _ _).run _ _ = _
  have hm : Op.maxDepth = 9999 + 1 := by decide
  rw [hm, h0, hl]
  refine eqf_cons (by kernel_rfl) (a := .int .i64 x.a) (b := .int .i64 y.a) (by kernel_rfl) (by kernel_rfl) (by kernel_rfl) (eqf_cons (by kernel_rfl) (a := .int .i64 x.b) (b := .int .i64 y.b) (by kernel_rfl) (by kernel_rfl) (by kernel_rfl) eqf_nil)

theorem edEq (x y : Ed) : (x.a == y.a && (x.b == y.b && true)) = decide (x = y) := by
  obtain ⟨a, b⟩ := x
  obtain ⟨c, d⟩ := y
  rw [Bool.eq_iff_iff]
  simp
theorem run_eqE (x y : Ed) (o o' : Operand) (w : World) : (binS .eql 83 o o' (.agg x.cells.toArray) (.agg y.cells.toArray)).run Tryz.prog w = .ok (.bool (decide (x = y))) w := by
  have hg : (eqGuard .eql 83 o o' (.agg x.cells.toArray) (.agg y.cells.toArray)).run Tryz.prog w = .ok () w := by kernel_rfl
  have he := eqE0 x y w
  rw [edEq] at he
  simp only [binS, Sem.run_bind, hg, Result.andThen_ok]
  show (binOp .eql 83 _ _).run Tryz.prog w = _
  simp only [binOp, Sem.run_bind, he, Result.andThen_ok, Sem.run_pure]
theorem run_neE (x y : Ed) (o o' : Operand) (w : World) : (binS .neq 83 o o' (.agg x.cells.toArray) (.agg y.cells.toArray)).run Tryz.prog w = .ok (.bool (!decide (x = y))) w := by
  have hg : (eqGuard .neq 83 o o' (.agg x.cells.toArray) (.agg y.cells.toArray)).run Tryz.prog w = .ok () w := by kernel_rfl
  have he := eqE0 x y w
  rw [edEq] at he
  simp only [binS, Sem.run_bind, hg, Result.andThen_ok]
  show (binOp .neq 83 _ _).run Tryz.prog w = _
  simp only [binOp, Sem.run_bind, he, Result.andThen_ok, Sem.run_pure]
end Go.Proofs.YtpghlemcgjogpaaGreat
