/- Equations for the operations of the printed readings: each under conditions that a rewriting can pay. -/
import Derived.Test.YtpghlemcgjogpaaGreatSx
import Derived.Laws.AppendOwn
import Derived.Laws.Cells
import Derived.Laws.World
import Derived.Laws.Sem
import Derived.WalkKit
set_option linter.unusedVariables false
set_option linter.unusedSimpArgs false
namespace Go.Sx

theorem uv_eq {P : Program} {R : Ending → World → Prop} {s : Sem Value} {w w' : World} {v : Value} {k : Value → World → Prop} (h : s.run P w = .ok v w') : uv P R s w k = k v w' := by
  unfold uv U; rw [h]
theorem uu_eq {P : Program} {R : Ending → World → Prop} {s : Sem Unit} {w w' : World} {k : World → Prop} (h : s.run P w = .ok () w') : uu P R s w k = k w' := by
  unfold uu UU; rw [h]
theorem un_eq {P : Program} {R : Ending → World → Prop} {s : Sem Next} {w w' : World} {v : Value} {k : Value → World → Prop} (h : s.run P w = .ok (.value v) w') : un P R s w k = k v w' := by
  unfold un UN; rw [h]
theorem un_enter {P : Program} {R : Ending → World → Prop} {s : Sem Next} {w w' : World} {g : FuncId} {args : Array Value} {k : Value → World → Prop} (h : s.run P w = .ok (.enter g args) w')
    (hc : Calls P g args w' fun e w'' => match e with | .returned v => k v w'' | .panicked ch => R (.panicked ch) w'' | .outgrown => False) : un P R s w k := by
  unfold un UN; rw [h]; exact hc

/-- A call of a function that has a body. -/
theorem enters {P : Program} {g : FuncId} {fn : Func} (hf : P.funcs[g]? = some fn) (hb : fn.body.isNone = false) (hn : (fn.name == "runtime.NumGoroutine") = false) (args : Array Value) (w : World) :
    (callFunc g args).run P w = .ok (.enter g args) w := by
  unfold callFunc
  simp only [Sem.run_bind]
  show (Sem.run P (match P.funcs[g]? with | none => _ | some fn => _) w) = _
  rw [hf]
  simp only [hn, hb, Bool.false_eq_true, if_false, Sem.run_pure]
theorem callV_func {P : Program} {g : FuncId} {cap : Array Value} {args : Array Value} {w : World} {r : Result Next} (h : (callFunc g (args ++ cap)).run P w = r) : (callV (.func (.func g) #[] cap) args).run P w = r := by
  simp only [callV, Deferred.ofValue, invoke, Sem.run_bind, Sem.run_pure, Result.andThen_ok]
  simpa using h
/-! ### Branches -/
theorem Bc_true {x y : Prop} : Bc (.bool true) x y = x := by simp [Bc]
theorem Bc_false {x y : Prop} : Bc (.bool false) x y = y := by simp [Bc]
theorem Bc_bool {b : Bool} {x y : Prop} : Bc (.bool b) x y = (if b = true then x else y) := by cases b <;> simp [Bc]
theorem Gk_hit {b : Bool} {body : (Value → World → Prop) → Prop} {w : World} {next : Value → World → Prop} : Gk (.bool b) b body w next = body next := by simp [Gk, Gd]
theorem Gk_tf {body : (Value → World → Prop) → Prop} {w : World} {next : Value → World → Prop} : Gk (.bool true) false body w next = next undef w := by simp [Gk, Gd]
theorem Gk_ft {body : (Value → World → Prop) → Prop} {w : World} {next : Value → World → Prop} : Gk (.bool false) true body w next = next undef w := by simp [Gk, Gd]
theorem Gk_undef {b : Bool} {body : (Value → World → Prop) → Prop} {w : World} {next : Value → World → Prop} : Gk undef b body w next = next undef w := by simp [Gk, Gd, undef]
theorem GH_hit {b : Bool} {body : (Value → Prop) → Prop} {next : Value → Prop} : GH (.bool b) b body next = body next := by simp [GH, Gd]
theorem GH_tf {body : (Value → Prop) → Prop} {next : Value → Prop} : GH (.bool true) false body next = next undef := by simp [GH, Gd]
theorem GH_ft {body : (Value → Prop) → Prop} {next : Value → Prop} : GH (.bool false) true body next = next undef := by simp [GH, Gd]

/-! ### Worlds, block by block -/
def World.put (w : World) (b : Nat) (o : Obj) : World := { w with heap := w.heap.setIfInBounds b o }
def World.add (w : World) (o : Obj) : World := { w with heap := w.heap.push o }
theorem hput_size {w : World} {b : Nat} {o : Obj} : (World.put w b o).heap.size = w.heap.size := by simp [World.put]
theorem hadd_size {w : World} {o : Obj} : (World.add w o).heap.size = w.heap.size + 1 := by simp [World.add]
theorem put_same {w : World} {b : Nat} {o : Obj} (h : (w.heap[b]?).isSome = true) : (World.put w b o).heap[b]? = some o := by
  obtain ⟨x, hx⟩ := Option.isSome_iff_exists.1 h
  have := (Array.getElem?_eq_some_iff.1 hx).1
  simp [World.put, this]
theorem put_ne {w : World} {b c : Nat} {o : Obj} (h : b ≠ c) : (World.put w b o).heap[c]? = w.heap[c]? := by simp [World.put, Array.getElem?_setIfInBounds_ne h]
theorem add_old {w : World} {b : Nat} {o : Obj} (h : (w.heap[b]?).isSome = true) : (World.add w o).heap[b]? = w.heap[b]? := by
  obtain ⟨x, hx⟩ := Option.isSome_iff_exists.1 h
  have := (Array.getElem?_eq_some_iff.1 hx).1
  show (w.heap.push o)[b]? = _
  rw [Array.getElem?_push, if_neg (Nat.ne_of_lt this)]
theorem add_new {w : World} {o : Obj} : (World.add w o).heap[w.heap.size]? = some o := by
  show (w.heap.push o)[w.heap.size]? = _
  rw [Array.getElem?_push, if_pos rfl]
theorem drew_heap {w : World} : w.drew.heap = w.heap := rfl

def cellIn : Option Obj → Nat → Option Value
  | some (.cells c _ _), o => c[o]?
  | _, _ => none
def frzIn : Option Obj → Nat → Bool
  | some (.cells _ _ (lo, hi)), o => lo ≤ o && o < hi
  | _, _ => false
def setIn : Option Obj → Nat → Value → Obj
  | some (.cells c t f), o, v => .cells (c.setIfInBounds o v) t f
  | _, _, _ => default
theorem cellIn_cells {c : Array Value} {t : TypeId} {f : Nat × Nat} {o : Nat} : cellIn (some (.cells c t f)) o = c[o]? := rfl
theorem frzIn_00 {c : Array Value} {t : TypeId} {o : Nat} : frzIn (some (.cells c t (0, 0))) o = false := by simp [frzIn]
theorem setIn_cells {c : Array Value} {t : TypeId} {f : Nat × Nat} {o : Nat} {v : Value} : setIn (some (.cells c t f)) o v = .cells (c.setIfInBounds o v) t f := rfl
theorem cell_mk {w : World} {b o : Nat} : w.cell? ⟨b, o, none⟩ = cellIn (w.heap[b]?) o := by
  unfold World.cell? cellIn
  cases h : w.heap[b]? with
  | none => rfl
  | some x => cases x <;> simp

/-! ### Types -/
def plainT (P : Program) (t : TypeId) : Bool := match P.underlying t with | some (.struct _) | some (.array _ _) => false | some _ => true | none => false
def aggT (P : Program) (t : TypeId) : Option Nat := match P.underlying t with | some (.struct _) | some (.array _ _) => (P.info? t).map (·.size) | _ => none
def fieldT (P : Program) (s i : Nat) : Option Nat :=
  match P.underlying s with
  | some (.struct fs) => (match fs.toList[i]? with
    | some f => (match P.info? f.type with | some inf => (match inf.size with | 0 => none | _ + 1 => some f.offset) | none => none)
    | none => none)
  | _ => none
/-- A slice type: its element's type and size. -/
def sliceT (P : Program) (t : TypeId) : Option (Nat × Nat) := match P.underlying t with | some (.slice e) => (P.info? e).map fun i => (e, i.size) | _ => none
def ptrT (P : Program) (t : TypeId) : Bool := match P.underlying t with | some (.pointer _) => true | _ => false

theorem run_nil {P : Program} {w : World} {a : Addr} : (nilS (.pointer (some a))).run P w = .ok (.value (.pointer (some a))) w := by simp [nilS, execOp]
theorem un_nil {P : Program} {R : Ending → World → Prop} {w : World} {a : Addr} {k : Value → World → Prop} : un P R (nilS (.pointer (some a))) w k = k (.pointer (some a)) w := un_eq run_nil

theorem run_fieldAt {P : Program} {w : World} {s i b o off : Nat} (h : fieldT P s i = some off) : (Instr.fieldAt s (.pointer (some ⟨b, o, none⟩)) i).run P w = .ok (.pointer (some ⟨b, o + off, none⟩)) w := by
  unfold fieldT at h
  split at h
  case h_2 => cases h
  rename_i fs hfs
  split at h
  case h_2 => cases h
  rename_i f hf
  split at h
  case h_2 => cases h
  rename_i inf hinf
  split at h
  · cases h
  rename_i n hn
  cases h
  rw [Array.getElem?_toList] at hf
  simp [Instr.fieldAt, underlying, hfs, hf, Instr.sureAddr, fieldPlace, sizeOf, typeInfo, hinf, hn, Addr.add, go_sem]
theorem uv_fieldAt {P : Program} {R : Ending → World → Prop} {w : World} {s i b o : Nat} {k : Value → World → Prop} (h : (fieldT P s i).isSome = true) :
    uv P R (Instr.fieldAt s (.pointer (some ⟨b, o, none⟩)) i) w k = k (.pointer (some ⟨b, o + (fieldT P s i).getD 0, none⟩)) w := by
  obtain ⟨x, hx⟩ := Option.isSome_iff_exists.1 h
  rw [hx]; exact uv_eq (run_fieldAt hx)

theorem run_load1 {P : Program} {w : World} {t b o : Nat} {v : Value} (hp : plainT P t = true) (h : cellIn (w.heap[b]?) o = some v) : (Instr.loadAt t (.pointer (some ⟨b, o, none⟩))).run P w = .ok v w := by
  have hc : w.cell? ⟨b, o, none⟩ = some v := by rw [cell_mk]; exact h
  unfold plainT at hp
  split at hp
  · cases hp
  · cases hp
  · rename_i d h1 h2 hu
    have : (isAgg t).run P w = .ok false w := by
      simp only [isAgg, underlying]
      cases d <;> simp_all [go_sem]
    simp [Instr.loadAt, Instr.sureAddr, loadVar, this, load, hc, Sem.run]
  · cases hp
theorem uv_load1 {P : Program} {R : Ending → World → Prop} {w : World} {t b o : Nat} {k : Value → World → Prop} (hp : plainT P t = true) (h : (cellIn (w.heap[b]?) o).isSome = true) :
    uv P R (Instr.loadAt t (.pointer (some ⟨b, o, none⟩))) w k = k ((cellIn (w.heap[b]?) o).getD undef) w := by
  obtain ⟨x, hx⟩ := Option.isSome_iff_exists.1 h
  rw [hx]; exact uv_eq (run_load1 hp hx)

/-- n cells from o on. -/
def cellsIn : Option Obj → Nat → Nat → Option (Array Value)
  | some (.cells c _ _), o, n => if o + n ≤ c.size then some (c.extract o (o + n)) else none
  | _, _, _ => none
theorem cellsIn_cells {c : Array Value} {t : TypeId} {f : Nat × Nat} {o n : Nat} : cellsIn (some (.cells c t f)) o n = if o + n ≤ c.size then some (c.extract o (o + n)) else none := rfl
theorem run_loadCells {P : Program} {w : World} {b : Nat} : ∀ (n o i : Nat) (acc : Array Value) (c : Array Value) (t : TypeId) (f : Nat × Nat), w.heap[b]? = some (.cells c t f) → o + i + n ≤ c.size →
    (loadCellsFrom ⟨b, o, none⟩ i n acc).run P w = .ok (acc ++ c.extract (o + i) (o + i + n)) w
  | 0, o, i, acc, c, t, f, h, hle => by
    simp [loadCellsFrom]
    omega
  | n + 1, o, i, acc, c, t, f, h, hle => by
    have hc : w.cell? ⟨b, o + i, none⟩ = some (c[o + i]'(by omega)) := by rw [cell_mk, h, cellIn_cells]; simp [show o + i < c.size by omega]
    simp only [loadCellsFrom, Sem.run_bind]
    have ha : (⟨b, o, none⟩ : Addr).add i = ⟨b, o + i, none⟩ := by unfold Addr.add; split <;> simp_all
    have hl : (load ((⟨b, o, none⟩ : Addr).add i)).run P w = .ok (c[o + i]'(by omega)) w := by rw [ha]; simp [load, Sem.run, hc]
    rw [hl]
    simp only [Result.andThen_ok]
    rw [run_loadCells n o (i + 1) _ c t f h (by omega)]
    congr 1
    apply Array.ext'
    simp only [Array.toList_append, Array.toList_push, Array.toList_extract, List.append_assoc]
    congr 1
    rw [List.extract_eq_take_drop, List.extract_eq_take_drop]
    have : o + i < c.toList.length := by simp; omega
    rw [List.drop_eq_getElem_cons this]
    have e1 : o + (i + 1) + n - (o + (i + 1)) = n := by omega
    have e2 : o + i + (n + 1) - (o + i) = n + 1 := by omega
    rw [e1, e2, List.take_succ_cons]
    simp [Nat.add_assoc]
theorem run_loadN {P : Program} {w : World} {t b o n : Nat} {cs : Array Value} (ha : aggT P t = some n) (h : cellsIn (w.heap[b]?) o n = some cs) :
    (Instr.loadAt t (.pointer (some ⟨b, o, none⟩))).run P w = .ok (.agg cs) w := by
  unfold aggT at ha
  have hagg : (isAgg t).run P w = .ok true w := by
    split at ha
    · rename_i fs hu; simp [isAgg, underlying, hu, go_sem]
    · rename_i l e hu; simp [isAgg, underlying, hu, go_sem]
    · cases ha
  have hinf : ∃ i, P.info? t = some i ∧ i.size = n := by
    split at ha
    · exact Option.map_eq_some_iff.1 ha
    · exact Option.map_eq_some_iff.1 ha
    · cases ha
  obtain ⟨inf, hi, hn⟩ := hinf
  have hs : (sizeOf t).run P w = .ok n w := by simp [sizeOf, typeInfo, hi, hn, go_sem]
  cases hb : w.heap[b]? with
  | none => rw [hb] at h; cases h
  | some ob =>
    rw [hb] at h
    cases ob with
    | cells c tt f =>
      rw [cellsIn_cells] at h
      split at h
      · rename_i hle
        cases h
        have := run_loadCells (P := P) n o 0 #[] c tt f hb (by omega)
        simp only [Instr.loadAt, Instr.sureAddr, loadVar, Sem.run_bind, Sem.run_pure, Result.andThen_ok, hagg, if_true, hs, loadCells, this]
        simp
      · cases h
    | _ => cases h
theorem uv_loadN {P : Program} {R : Ending → World → Prop} {w : World} {t b o : Nat} {k : Value → World → Prop} (ha : (aggT P t).isSome = true) (h : (cellsIn (w.heap[b]?) o ((aggT P t).getD 0)).isSome = true) :
    uv P R (Instr.loadAt t (.pointer (some ⟨b, o, none⟩))) w k = k (.agg ((cellsIn (w.heap[b]?) o ((aggT P t).getD 0)).getD #[])) w := by
  obtain ⟨n, hn⟩ := Option.isSome_iff_exists.1 ha
  rw [hn] at h ⊢
  obtain ⟨x, hx⟩ := Option.isSome_iff_exists.1 h
  simp only [Option.getD_some] at hx ⊢
  rw [hx]; exact uv_eq (run_loadN hn hx)

/-! ### Stores -/
def oneV : Value → Bool
  | .agg _ | .tuple _ => false
  | _ => true
theorem run_store1 {P : Program} {w : World} {t b o : Nat} {v : Value} (hp : plainT P t = true) (hs : (P.info? t).map (·.size) = some 1) (hv : oneV v = true) (h : (cellIn (w.heap[b]?) o).isSome = true) (hf : frzIn (w.heap[b]?) o = false) :
    (Instr.storeAt t (.pointer (some ⟨b, o, none⟩)) v).run P w = .ok () (World.put w b (setIn (w.heap[b]?) o v)) := by
  obtain ⟨x, hx⟩ := Option.isSome_iff_exists.1 h
  have hc : w.cell? ⟨b, o, none⟩ = some x := by rw [cell_mk]; exact hx
  obtain ⟨c, tt, lo, hi, hb⟩ : ∃ c tt lo hi, w.heap[b]? = some (.cells c tt (lo, hi)) := by
    unfold cellIn at hx
    split at hx
    · rename_i c tt f hb; exact ⟨c, tt, f.1, f.2, hb⟩
    · cases hx
  have hfz : w.frozen? ⟨b, o, none⟩ = false := by
    rw [hb] at hf
    simp only [World.frozen?, hb]; exact hf
  have hcs : v.cells = #[v] := by cases v <;> first | rfl | cases hv
  have hadd : (⟨b, o, none⟩ : Addr).add 0 = ⟨b, o, none⟩ := by unfold Addr.add; split <;> simp_all
  obtain ⟨inf, hi', hn⟩ := Option.map_eq_some_iff.1 hs
  have hst : (store ⟨b, o, none⟩ v).run P w = .ok () (w.setCell ⟨b, o, none⟩ v) := by
    simp only [store]
    cases v <;> first | (simp [Sem.run, hc, hfz]; done) | cases hv
  have hw : w.setCell ⟨b, o, none⟩ v = World.put w b (setIn (w.heap[b]?) o v) := by
    unfold World.setCell World.put
    rw [hb, setIn_cells]
    congr 1
    have hlt := (Array.getElem?_eq_some_iff.1 hb).1
    apply Array.ext_getElem?
    intro i
    rw [Array.getElem?_modify, Array.getElem?_setIfInBounds]
    by_cases e : b = i
    · subst e
      have hg := (Array.getElem?_eq_some_iff.1 hb).2
      simp [hlt, hg]
    · simp [e]
  have e0 : Instr.storeAt t (.pointer (some ⟨b, o, none⟩)) v = storeVar t ⟨b, o, none⟩ v := rfl
  have e1 : (sizeOf t).run P w = .ok 1 w := by simp [sizeOf, typeInfo, hi', hn, go_sem]
  have e2 : (storeCells ⟨b, o, none⟩ [v]).run P w = .ok () (w.setCell ⟨b, o, none⟩ v) := by
    simp only [storeCells, Sem.run_bind, hadd, hst, Result.andThen_ok, Sem.run_pure]
  rw [e0]
  unfold storeVar
  rw [hcs, ← hw]
  simp only [Sem.run_bind, e1, Result.andThen_ok]
  simp [e2]
theorem uu_store1 {P : Program} {R : Ending → World → Prop} {w : World} {t b o : Nat} {v : Value} {k : World → Prop} (hp : plainT P t = true) (hs : (P.info? t).map (·.size) = some 1) (hv : oneV v = true) (h : (cellIn (w.heap[b]?) o).isSome = true) (hf : frzIn (w.heap[b]?) o = false) :
    uu P R (Instr.storeAt t (.pointer (some ⟨b, o, none⟩)) v) w k = k (World.put w b (setIn (w.heap[b]?) o v)) := uu_eq (run_store1 hp hs hv h hf)

/-! ### New variables -/
theorem run_box {P : Program} {w : World} {t : Nat} {v : Value} : (Instr.box t v).run P w = .ok (.pointer (some ⟨w.heap.size, 0, none⟩)) (World.add w (.cells v.cells t)) := by
  simp [Instr.box, newVar, newRow, newObj, Sem.run, World.add, go_sem]
theorem uv_box {P : Program} {R : Ending → World → Prop} {w : World} {t : Nat} {v : Value} {k : Value → World → Prop} : uv P R (Instr.box t v) w k = k (.pointer (some ⟨w.heap.size, 0, none⟩)) (World.add w (.cells v.cells t)) := uv_eq run_box
theorem run_makeMap {P : Program} {w : World} {t : Nat} : (Instr.makeMap t none).run P w = .ok (.map (some w.heap.size)) (World.add w (.map #[] 0)) := by
  simp [Instr.makeMap, newObj, Sem.run, World.add, go_sem]
theorem uv_makeMap {P : Program} {R : Ending → World → Prop} {w : World} {t : Nat} {k : Value → World → Prop} : uv P R (Instr.makeMap t none) w k = k (.map (some w.heap.size)) (World.add w (.map #[] 0)) := uv_eq run_makeMap

/-! ### Arithmetic and tests -/
theorem wrap_id {n : Int} (h0 : -9223372036854775808 ≤ n) (h1 : n ≤ 9223372036854775807) : IntKind.i64.wrap n = n := by
  rw [IntKind.wrap_i64]; omega
section
variable {P : Program} {R : Ending → World → Prop} {w : World} {k : Value → World → Prop} {t : TypeId} {x y : Operand} {q : IntKind} {a b : Int}
theorem uv_eql : uv P R (binS .eql t x y (.int q a) (.int q b)) w k = k (.bool (a == b)) w := uv_eq (by simp [binS, eqGuard, binOp, Op.intCmp])
theorem uv_neq : uv P R (binS .neq t x y (.int q a) (.int q b)) w k = k (.bool (a != b)) w := uv_eq (by simp [binS, eqGuard, binOp, Op.intCmp])
theorem uv_lss : uv P R (binS .lss t x y (.int q a) (.int q b)) w k = k (.bool (decide (a < b))) w := uv_eq (by simp [binS, eqGuard, binOp, Op.intCmp])
theorem uv_leq : uv P R (binS .leq t x y (.int q a) (.int q b)) w k = k (.bool (decide (a ≤ b))) w := uv_eq (by simp [binS, eqGuard, binOp, Op.intCmp])
theorem uv_gtr : uv P R (binS .gtr t x y (.int q a) (.int q b)) w k = k (.bool (decide (a > b))) w := uv_eq (by simp [binS, eqGuard, binOp, Op.intCmp])
theorem uv_geq : uv P R (binS .geq t x y (.int q a) (.int q b)) w k = k (.bool (decide (a ≥ b))) w := uv_eq (by simp [binS, eqGuard, binOp, Op.intCmp])
theorem uv_add : uv P R (binS .add t x y (.int q a) (.int q b)) w k = k (.int q (q.wrap (a + b))) w := uv_eq (by simp [binS, eqGuard, binOp, Op.intArith])
theorem uv_sub : uv P R (binS .sub t x y (.int q a) (.int q b)) w k = k (.int q (q.wrap (a - b))) w := uv_eq (by simp [binS, eqGuard, binOp, Op.intArith])
def band (a b : Int) : Int := IntKind.i64.wrap ((BitVec.ofInt 64 a &&& BitVec.ofInt 64 b).toNat : Nat)
def bor (a b : Int) : Int := IntKind.i64.wrap ((BitVec.ofInt 64 a ||| BitVec.ofInt 64 b).toNat : Nat)
theorem uv_and : uv P R (binS .and t x y (.int .i64 a) (.int .i64 b)) w k = k (.int .i64 (band a b)) w := uv_eq (by kernel_rfl)
theorem uv_or : uv P R (binS .or t x y (.int .i64 a) (.int .i64 b)) w k = k (.int .i64 (bor a b)) w := uv_eq (by kernel_rfl)
theorem uv_not {c : Bool} : uv P R (Op.unary .not (.bool c)) w k = k (.bool (!c)) w := uv_eq (by simp [Op.unary])
theorem uv_pick {c : Bool} {u v : Value} : uv P R (pickS (.bool c) u v) w k = k (if c = true then u else v) w := uv_eq (by simp [pickS, asBool, go_sem])
theorem uv_streq {s u : ByteArray} : uv P R (binS .eql t x y (.string s) (.string u)) w k = k (.bool (s.toList == u.toList)) w := uv_eq (by simp [binS, eqGuard, binOp, Op.stringOp])
theorem uv_strne {s u : ByteArray} : uv P R (binS .neq t x y (.string s) (.string u)) w k = k (.bool (s.toList != u.toList)) w := uv_eq (by simp [binS, eqGuard, binOp, Op.stringOp, bne])
theorem run_ptr_nil {p : Option Addr} (h : ptrT P t = true) : (Op.equal t (.pointer p) (.pointer none)).run P w = .ok p.isNone w := by
  unfold ptrT at h
  split at h
  · rename_i e hu
    unfold Op.equal Op.maxDepth
    rw [Op.equalIn]
    cases p <;> simp [underlying, hu]
  · cases h
theorem uv_ptreq {p : Option Addr} (h : ptrT P t = true) : uv P R (binS .eql t x y (.pointer p) (.pointer none)) w k = k (.bool p.isNone) w := uv_eq (by
  have e : binS .eql t x y (.pointer p) (.pointer none) = (do let b ← Op.equal t (.pointer p) (.pointer none); pure (.bool b)) := by cases p <;> rfl
  rw [e]; simp only [Sem.run_bind, run_ptr_nil h, Result.andThen_ok, Sem.run_pure])
theorem uv_ptrne {p : Option Addr} (h : ptrT P t = true) : uv P R (binS .neq t x y (.pointer p) (.pointer none)) w k = k (.bool p.isSome) w := uv_eq (by
  have e : binS .neq t x y (.pointer p) (.pointer none) = (do let b ← Op.equal t (.pointer p) (.pointer none); pure (.bool (!b))) := by cases p <;> rfl
  rw [e]; simp only [Sem.run_bind, run_ptr_nil h, Result.andThen_ok, Sem.run_pure]; cases p <;> rfl)
theorem uv_func {f : Fn} {l c : Array Value} : uv P R (Instr.makeFunc f l c) w k = k (.func f l c) w := uv_eq (by simp [Instr.makeFunc])
theorem uv_extract {vs : Array Value} {i : Nat} (h : (vs[i]?).isSome = true) : uv P R (Instr.extract (.tuple vs) i) w k = k ((vs[i]?).getD undef) w := uv_eq (by
  obtain ⟨u, hu⟩ := Option.isSome_iff_exists.1 h
  simp [Instr.extract, hu])
theorem run_builtin (b : Builtin) (f : Array TypeId → TypeId → Array Value → Sem Value) (hb : ∀ ts ty cs args, builtin b ts ty cs args = (do pure (Next.value (← f ts ty args)))) {ts : Array TypeId} {ty : TypeId} {cs : Array Bool} {args : Array Value} {v : Value} {w' : World}
    (h : (f ts ty args).run P w = .ok v w') : (builtin b ts ty cs args).run P w = .ok (.value v) w' := by
  rw [hb]; simp only [Sem.run_bind, h, Result.andThen_ok, Sem.run_pure]
theorem un_len {ty : TypeId} {cs : Array Bool} {ad : Option Addr} {n c : Nat} (h : (sliceT P t).isSome = true) :
    un P R (builtin .len #[t] ty cs #[.slice ad n c]) w k = k (.int .i64 n) w := un_eq (run_builtin .len Builtin.len_ (fun _ _ _ _ => rfl) (by
  unfold sliceT at h
  split at h
  · rename_i e hu
    simp [Builtin.len_, underlying, hu, goInt, go_sem]
  · cases h))
theorem run_add : (binS .add t x y (.int q a) (.int q b)).run P w = .ok (.int q (q.wrap (a + b))) w := by simp [binS, eqGuard, binOp, Op.intArith]
theorem run_sub : (binS .sub t x y (.int q a) (.int q b)).run P w = .ok (.int q (q.wrap (a - b))) w := by simp [binS, eqGuard, binOp, Op.intArith]
theorem HV_of {S : World → Prop} {s : Sem Value} {v : Value} {k : Value → Prop} (h : ∀ w, S w → s.run P w = .ok v w) (hk : k v) : HV P S s k := ⟨v, h, hk⟩
theorem HN_of {S : World → Prop} {s : Sem Next} {v : Value} {k : Value → Prop} (h : ∀ w, S w → s.run P w = .ok (.value v) w) (hk : k v) : HN P S s k := ⟨v, h, hk⟩
theorem HN_nil {S : World → Prop} {ad : Addr} {k : Value → Prop} (hk : k (.pointer (some ad))) : HN P S (nilS (.pointer (some ad))) k := ⟨_, fun w _ => run_nil, hk⟩
theorem HV_field {S : World → Prop} {s i b o off : Nat} {k : Value → Prop} (h : fieldT P s i = some off) (hk : k (.pointer (some ⟨b, o + off, none⟩))) : HV P S (Instr.fieldAt s (.pointer (some ⟨b, o, none⟩)) i) k := ⟨_, fun w _ => run_fieldAt h, hk⟩
theorem HV_load1 {S : World → Prop} {b o : Nat} {v : Value} {k : Value → Prop} (hp : plainT P t = true) (h : ∀ w, S w → cellIn (w.heap[b]?) o = some v) (hk : k v) : HV P S (Instr.loadAt t (.pointer (some ⟨b, o, none⟩))) k := ⟨_, fun w hw => run_load1 hp (h w hw), hk⟩
theorem HV_loadN {S : World → Prop} {b o n : Nat} {cs : Array Value} {k : Value → Prop} (ha : aggT P t = some n) (h : ∀ w, S w → cellsIn (w.heap[b]?) o n = some cs) (hk : k (.agg cs)) : HV P S (Instr.loadAt t (.pointer (some ⟨b, o, none⟩))) k := ⟨_, fun w hw => run_loadN ha (h w hw), hk⟩
end
/-- The operations' equations, as one. -/
def uL := PProd.mk (And.intro @Bc_true <| And.intro @Bc_false <| And.intro @Gk_hit <| And.intro @Gk_tf <| And.intro @Gk_ft <| And.intro @Gk_undef <| And.intro @GH_hit <| And.intro @GH_tf <| And.intro @GH_ft <| And.intro @un_nil <| And.intro @uv_fieldAt <| And.intro @uv_load1 <| And.intro @uv_loadN <| And.intro @uu_store1 <| And.intro @uv_box <| And.intro @uv_makeMap <| And.intro @uv_eql <| And.intro @uv_neq <| And.intro @uv_lss <| And.intro @uv_leq <| And.intro @uv_gtr <| And.intro @uv_geq <| And.intro @uv_add <| And.intro @uv_sub <| And.intro @uv_not <| And.intro @uv_pick <| And.intro @uv_streq <| And.intro @uv_strne <| And.intro @uv_ptreq <| And.intro @uv_ptrne <| And.intro @uv_func <| And.intro @uv_extract <| And.intro @un_len <| And.intro @uv_and <| @uv_or) Unit.unit
end Go.Sx
