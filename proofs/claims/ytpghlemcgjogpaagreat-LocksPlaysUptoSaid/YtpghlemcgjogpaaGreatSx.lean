/- A frame-free reading of a Go function's code: 'wpE' over function frames, and that it is sound for 'Calls'. -/
import Derived.Tactics
import Derived.OrdersHeld
import Derived.KernelRfl
import Derived.Defers
set_option linter.unusedVariables false
set_option linter.unusedSimpArgs false
namespace Go.Sx

/-- A frame: what each temporary holds. -/
abbrev Fr := Nat → Value
def Fr.put (f : Fr) (d : Option Nat) (v : Value) : Fr :=
  match d with
  | some d => fun j => match Nat.beq j d with | true => v | false => f j
  | none => f
def ev (f : Fr) : Operand → Value
  | .tmp t => f t
  | .const v => v
  | .global g => .pointer (some ⟨g, 0, none⟩)
  | .func n => .func (.func n) #[] #[]

/-- What an operation does, its operands read. -/
inductive OpK where
  | mv (v : Value)
  | sv (s : Sem Value)
  | su (s : Sem Unit)
  | sn (s : Sem Next)
def OpK.sem : OpK → Sem Next
  | .mv v => pure (.value v)
  | .sv s => do pure (.value (← s))
  | .su s => do s; pure .skip
  | .sn s => s
def nilS (v : Value) : Sem Next := execOp (fun _ => v) { dst := none, op := .nilCheck (.tmp 0), type := 0, pos := "", after := #[], guard := none }
def callV (v : Value) (args : Array Value) : Sem Next := do let d ← Deferred.ofValue v args; invoke d.target d.args
def isC : Operand → Bool
  | .const _ => true
  | _ => false
def pickS (c a b : Value) : Sem Value := do pure (if ← asBool c then a else b)
def binS (op : BinOp) (t : TypeId) (x y : Operand) (a b : Value) : Sem Value := do eqGuard op t x y a b; binOp op t a b
def mapL (ρ : Operand → Value) (xs : Array Operand) : Array Value := (xs.toList.map ρ).toArray
def mapP (ρ : Operand → Value) (xs : Array (Nat × Operand)) : Array (Nat × Value) := (xs.toList.map fun p => (p.1, ρ p.2)).toArray

def opSem (ρ : Operand → Value) (o : Oper) : OpK :=
  match o.op with
  | .move x | .assign x => .mv (ρ x)
  | .pick c a b => .sv (pickS (ρ c) (ρ a) (ρ b))
  | .alloc elem => .sv (Instr.alloc elem true (.tuple #[]))
  | .box elem x => .sv (Instr.box elem (ρ x))
  | .build t parts => .sv (Instr.build t (mapP ρ parts))
  | .buildSlice t len parts => .sv (Instr.buildSlice t len (mapP ρ parts))
  | .load t a => .sv (Instr.loadAt t (ρ a))
  | .store t a x => .su (Instr.storeAt t (ρ a) (ρ x))
  | .nilCheck x => .sn (nilS (ρ x))
  | .binOp op t x y _ => .sv (binS op t x y (ρ x) (ρ y))
  | .unOp op _ x => .sv (Op.unary op (ρ x))
  | .convert src dst x => .sv (convert src dst (ρ x))
  | .makeInterface t x => .sv (Instr.makeInterface t (ρ x))
  | .makeFunc fn first captured => .sv (Instr.makeFunc fn (mapL ρ first) (mapL ρ captured))
  | .makeMap t r => .sv (Instr.makeMap t (match r with | none => none | some x => some (ρ x)))
  | .makeSlice t l c => .sv (Instr.makeSlice t (ρ l) (ρ c))
  | .slice t x lo hi mx => .sv (Instr.sliceAt t (ρ x) (match lo with | none => none | some x => some (ρ x)) (match hi with | none => none | some x => some (ρ x)) (match mx with | none => none | some x => some (ρ x)))
  | .fieldAddr s x i => .sv (Instr.fieldAt s (ρ x) i)
  | .field t x i => .sv (Instr.field t (ρ x) i)
  | .indexAddr t x ix => .sv (Instr.indexAt t (ρ x) (ρ ix))
  | .index t x ix => .sv (Instr.index t (ρ x) (ρ ix))
  | .lookup t x ix ok => .sv (Instr.lookup t (ρ x) (ρ ix) ok)
  | .mapUpdate t m k x | .insert t m k x => .su (Instr.mapUpdate t (ρ m) (ρ k) (ρ x))
  | .mapEntry t m k => .sv (Instr.mapEntry t (ρ m) (ρ k))
  | .entryStore t m s x => .su (Instr.entryStore t (ρ m) (ρ s) (ρ x))
  | .range t x => .sv (Instr.range t (ρ x))
  | .next it isS => .sv (Instr.next (ρ it) isS o.type)
  | .entry it => .sv (Instr.entry (ρ it))
  | .typeAssert x a b ok => .sv (Instr.typeAssert (ρ x) a b ok)
  | .extract t ix => .sv (Instr.extract (ρ t) ix)
  | .panic x => .sv (Instr.panic (ρ x))
  | .call { callee := .builtin b, args := args, argTypes := ts } => .sn (builtin b ts o.type ((args.toList.map isC).toArray) (mapL ρ args))
  | .call { callee := .value (.func n), args := args, argTypes := _ } => .sn (callFunc n (mapL ρ args))
  | .call { callee := .value x, args := args, argTypes := _ } => .sn (callV (ρ x) (mapL ρ args))
  | _ => .sn (execOp ρ o)

theorem mapL_eq (ρ : Operand → Value) (xs : Array Operand) : mapL ρ xs = xs.map ρ := by
  apply Array.toList_inj.1; simp [mapL]
theorem mapP_eq (ρ : Operand → Value) (xs : Array (Nat × Operand)) : mapP ρ xs = xs.map fun (i, x) => (i, ρ x) := by
  apply Array.toList_inj.1; simp [mapP]
theorem isC_eq (args : Array Operand) : ((args.toList.map isC).toArray) = args.map fun | .const _ => true | _ => false := by
  apply Array.toList_inj.1
  simp only [Array.toList_map]
  apply List.map_congr_left
  intro x _
  cases x <;> rfl

theorem opSem_spec (ρ : Operand → Value) (hc : ∀ n, ρ (.func n) = .func (.func n) #[] #[]) (o : Oper) : execOp ρ o = (opSem ρ o).sem := by
  obtain ⟨dst, op, type, pos, after, guard⟩ := o
  cases op
  case call c =>
    obtain ⟨callee, args, ts⟩ := c
    cases callee with
    | builtin b =>
      simp only [opSem, OpK.sem, execOp, resolve, mapL_eq, isC_eq]
      rfl
    | invoke r m => rfl
    | value x =>
      cases x with
      | func n =>
        simp only [opSem, OpK.sem, execOp, resolve, mapL_eq, hc]
        simp [Deferred.ofValue, invoke, bind, Sem.bind, pure]
      | _ => simp only [opSem, OpK.sem, execOp, resolve, mapL_eq, callV]
  case build t ps => simp only [opSem, OpK.sem, execOp, mapP_eq]
  case buildSlice t n ps => simp only [opSem, OpK.sem, execOp, mapP_eq]
  case makeFunc fn a b => simp only [opSem, OpK.sem, execOp, mapL_eq]
  case makeMap t r => cases r <;> rfl
  case slice t x lo hi mx => cases lo <;> cases hi <;> cases mx <;> rfl
  case nilCheck x => simp only [opSem, OpK.sem, nilS, execOp]
  case pick c a b =>
    simp only [opSem, OpK.sem, execOp, pickS, bind_assoc, pure_bind]
  all_goals first
    | rfl
    | skip


/-- Run an action and go on. -/
def U (P : Program) (s : Sem Value) (w : World) (k : Value → World → Prop) (pan : List PanicEntry → World → Prop) : Prop :=
  match s.run P w with
  | .ok v w' => k v w'
  | .halt (.panic v) w' => pan [{ v, recovered := false }] w'
  | _ => False
def UU (P : Program) (s : Sem Unit) (w : World) (k : World → Prop) (pan : List PanicEntry → World → Prop) : Prop :=
  match s.run P w with
  | .ok _ w' => k w'
  | .halt (.panic v) w' => pan [{ v, recovered := false }] w'
  | _ => False
def UN (P : Program) (s : Sem Next) (w : World) (k : Value → World → Prop) (pan : List PanicEntry → World → Prop) : Prop :=
  match s.run P w with
  | .ok (.value v) w' => k v w'
  | .ok .skip w' => k undef w'
  | .ok (.enter g args) w' => Calls P g args w' fun e w'' => match e with
      | .returned v => k v w''
      | .panicked ch => pan ch w''
      | .outgrown => False
  | .halt (.panic v) w' => pan [{ v, recovered := false }] w'
  | _ => False

def opK (P : Program) (pan : List PanicEntry → World → Prop) (o : Oper) (f : Fr) (w : World) (next : Value → World → Prop) : Prop :=
  match opSem (ev f) o with
  | .mv v => next v w
  | .sv s => U P s w next pan
  | .su s => UU P s w (next undef) pan
  | .sn s => UN P s w next pan

/-- What a guard reads. -/
def gval (ops : List Oper) (f : Fr) (j : Nat) : Value :=
  match ops[j]? with
  | some o => (match o.dst with | some d => f d | none => undef)
  | none => undef
/-- Under a guard. -/
def Gd (v : Value) (b : Bool) (x y : Prop) : Prop := (v = .bool b → x) ∧ (v ≠ .bool b → y)
def Gk (v : Value) (b : Bool) (body : (Value → World → Prop) → Prop) (w : World) (next : Value → World → Prop) : Prop :=
  Gd v b (body next) (next undef w)

def opG (P : Program) (pan : List PanicEntry → World → Prop) (ops : List Oper) (o : Oper) (f : Fr) (w : World) (next : Value → World → Prop) : Prop :=
  match o.guard with
  | none => opK P pan o f w next
  | some (j, b) => Gk (gval ops f j) b (opK P pan o f w) w next

def opsE (P : Program) (pan : List PanicEntry → World → Prop) (ops : List Oper) : List Oper → (Fr → World → Prop) → Fr → World → Prop
  | [], kn, f, w => kn f w
  | o :: rest, kn, f, w => opG P pan ops o f w fun v w' => opsE P pan ops rest kn (f.put o.dst v) w'

/-- An action that gives a value and changes nothing, in every world that meets S. -/
def HN (P : Program) (S : World → Prop) (s : Sem Next) (k : Value → Prop) : Prop := ∃ v, (∀ w, S w → s.run P w = .ok (.value v) w) ∧ k v
def HV (P : Program) (S : World → Prop) (s : Sem Value) (k : Value → Prop) : Prop := ∃ v, (∀ w, S w → s.run P w = .ok v w) ∧ k v
def opH (P : Program) (S : World → Prop) (o : Oper) (f : Fr) (next : Value → Prop) : Prop :=
  match opSem (ev f) o with
  | .mv v => next v
  | .sv s => HV P S s next
  | .su _ => False
  | .sn s => HN P S s next
def GH (v : Value) (b : Bool) (body : (Value → Prop) → Prop) (next : Value → Prop) : Prop := Gd v b (body next) (next undef)
def opHG (P : Program) (S : World → Prop) (ops : List Oper) (o : Oper) (f : Fr) (next : Value → Prop) : Prop :=
  match o.guard with
  | none => opH P S o f next
  | some (j, b) => GH (gval ops f j) b (opH P S o f) next

/-- Operations that hang on no world. -/
def pureO (o : Oper) : Bool :=
  match o.op with
  | .move _ | .assign _ | .nilCheck _ | .fieldAddr .. => true
  | _ => false
/-- Whether number j waits for number i. -/
def reach (ops : List Oper) : Nat → Nat → Nat → Bool
  | 0, _, _ => false
  | n + 1, j, i => match ops[j]? with
    | none => false
    | some o => o.after.toList.any fun e => Region.binds .any e && (Nat.beq e.on i || reach ops n e.on i)
/-- Whether something of hs may still be to come behind number j. -/
def needs (ops : List Oper) (hs : List Nat) (j : Nat) : Bool := hs.any fun i => !Nat.beq i j && !reach ops ops.length j i
/-- Those taken first that look at the world. -/
def hoists (ops : List Oper) : List (Nat × Bool) → List Nat
  | [] => []
  | (i, true) :: l => match ops[i]? with
    | none => hoists ops l
    | some o => match pureO o with
      | true => hoists ops l
      | false => i :: hoists ops l
  | (_, false) :: l => hoists ops l
/-- A region that draws its order, taken in a chosen order: 'true': an operation that gives its value wherever S holds; 'false': the only one that may come up. -/
def dchain (P : Program) (pan : List PanicEntry → World → Prop) (ops : Array Oper) (S : World → Prop) (hs : List Nat) (kn : Fr → World → Prop) : List (Nat × Bool) → Bool → Array Bool → Fr → World → Prop
  | [], _, listed, f, w => match (Region.ready .any ops listed) with | [] => kn f w | _ => False
  | (i, true) :: l, held, listed, f, w =>
    match Region.free .any ops listed i && (Region.ready .any ops listed).contains i with
    | true => (match ops.toList[i]? with
      | none => False
      | some o => match pureO o with
        | true => opHG P (fun _ => True) ops.toList o f fun v => dchain P pan ops S hs kn l held (listed.setIfInBounds i true) (f.put o.dst v) w
        | false => match held && hs.contains i with
          | true => opHG P S ops.toList o f fun v => dchain P pan ops S hs kn l held (listed.setIfInBounds i true) (f.put o.dst v) w
          | false => False)
    | false => False
  | (i, false) :: l, held, listed, f, w =>
    match (Region.ready .any ops listed) == [i] with
    | true => (match ops.toList[i]? with
      | none => False
      | some o => opG P pan ops.toList o f w fun v w' => match needs ops.toList hs i with
        | true => S w' ∧ dchain P pan ops S hs kn l true (listed.setIfInBounds i true) (f.put o.dst v) w'
        | false => dchain P pan ops S hs kn l false (listed.setIfInBounds i true) (f.put o.dst v) w')
    | false => False

def Bc (v : Value) (x y : Prop) : Prop := (v = .bool true ∧ x) ∨ (v = .bool false ∧ y)

/-- The reading of code; 'dc' chooses the orders of the regions that draw. -/
def wpE (P : Program) (dc : Nat → List (Nat × Bool)) (kr : Fr → World → Prop) (pan : List PanicEntry → World → Prop) :
    Code → (Fr → World → Prop) → (Nat → Fr → World → Prop) → Fr → World → Prop
  | .skip, kn, _ => kn
  | .seq a b, kn, kx => wpE P dc kr pan a (wpE P dc kr pan b kn kx) kx
  | .cond c a b, kn, kx => fun f w => Bc (ev f c) (wpE P dc kr pan a kn kx f w) (wpE P dc kr pan b kn kx f w)
  | .block id c, kn, kx => wpE P dc kr pan c kn (fun i => match Nat.beq i id with | true => kn | false => kx i)
  | .exit id, _, kx => kx id
  | .ret, _, _ => kr
  | .region _ ops false, kn, _ => opsE P pan ops.toList ops.toList kn
  | .region id ops true, kn, _ => fun f w => match Nat.ble (dc id).length ops.toList.length with
    | true => ∃ S : World → Prop, S w.drew ∧ dchain P pan ops S (hoists ops.toList (dc id)) kn (dc id) true (Array.replicate ops.size false) f w.drew
    | false => False
  | .loop c, _, kx => fun f w => ∃ (I : Fr → World → Prop) (μ : Fr → World → Nat), I f w ∧ ∀ f w, I f w → wpE P dc kr pan c (fun f' w' => I f' w' ∧ μ f' w' < μ f w) kx f w
  | _, _, _ => fun _ _ => False

/-- What each code writes stays within n. -/
def fits (n : Nat) : Code → Bool
  | .seq a b => fits n a && fits n b
  | .cond _ a b => fits n a && fits n b
  | .block _ c => fits n c
  | .region _ ops d => (ops.toList.all fun o => match o.dst with | some d => d < n | none => true) && (!d || Region.noSelect ops)
  | .loop c => fits n c
  | _ => true

def Act.fr (a : Act) : Fr := fun t => a.tmps.getD t undef
theorem fr_eval (a : Act) : a.eval = ev (Act.fr a) := by funext x; cases x <;> rfl
theorem fr_put (a : Act) (d : Option Nat) (v : Value) (h : ∀ k, d = some k → k < a.tmps.size) : Act.fr (a.put d v) = (Act.fr a).put d v := by
  cases d with
  | none => rfl
  | some d =>
    funext j
    have hd := h d rfl
    simp only [Act.fr, Act.put, Fr.put]
    by_cases e : j = d
    · subst e; simp [hd]
    · have hb : Nat.beq j d = false := Bool.eq_false_iff.2 fun hb => e (Nat.eq_of_beq_eq_true hb)
      rw [hb]
      simp [Array.getElem?_setIfInBounds_ne (Ne.symm e)]
theorem put_size (a : Act) (d : Option Nat) (v : Value) : (a.put d v).tmps.size = a.tmps.size := by cases d <;> simp [Act.put]
theorem put_defers (a : Act) (d : Option Nat) (v : Value) : (a.put d v).defers = a.defers := by cases d <;> rfl

/-- The post that goes with the continuations. -/
def Qof (n : Nat) (kn : Fr → World → Prop) (kx : Nat → Fr → World → Prop) (kr : Fr → World → Prop) (pan : List PanicEntry → World → Prop) : Exit → Act → World → Prop
  | .normal, a, w => a.tmps.size = n ∧ a.defers = [] ∧ kn (Act.fr a) w
  | .exit i, a, w => a.tmps.size = n ∧ a.defers = [] ∧ kx i (Act.fr a) w
  | .ret, a, w => a.tmps.size = n ∧ a.defers = [] ∧ kr (Act.fr a) w
  | .panic ch, a, w => a.defers = [] ∧ pan ch w
  | _, _, _ => False

theorem opK_wp {P : Program} {pan : List PanicEntry → World → Prop} {o : Oper} {a : Act} {w : World} {next : Value → World → Prop} {K : Act → World → Prop} {Q : Exit → Act → World → Prop}
    (hQ : ∀ ch w', pan ch w' → Q (.panic ch) a w') (hK : ∀ v w', next v w' → K (a.put o.dst v) w')
    (h : opK P pan o (Act.fr a) w next) : o.wp P a w K Q := by
  unfold Oper.wp
  rw [fr_eval, opSem_spec _ (fun _ => rfl)]
  unfold opK at h
  generalize opSem (ev (Act.fr a)) o = r at h ⊢
  cases r with
  | mv v => simp only [OpK.sem, Sem.run_pure, Oper.upon]; exact hK _ _ h
  | sv s =>
    simp only [OpK.sem, Sem.run_bind]
    simp only [U] at h
    generalize s.run P w = r at h ⊢
    cases r with
    | ok v w' => simp only [Result.andThen_ok, Sem.run_pure, Oper.upon]; exact hK _ _ h
    | halt x w' => cases x <;> simp only [Result.andThen_halt, Oper.upon] at h ⊢ <;> exact hQ _ _ h
  | su s =>
    simp only [OpK.sem, Sem.run_bind]
    simp only [UU] at h
    generalize s.run P w = r at h ⊢
    cases r with
    | ok v w' => simp only [Result.andThen_ok, Sem.run_pure, Oper.upon]; exact hK _ _ h
    | halt x w' => cases x <;> simp only [Result.andThen_halt, Oper.upon] at h ⊢ <;> exact hQ _ _ h
  | sn s =>
    simp only [OpK.sem]
    simp only [UN] at h
    generalize s.run P w = r at h ⊢
    cases r with
    | ok n w' =>
      cases n <;> simp only [Oper.upon] at h ⊢
      case value v => exact hK _ _ h
      case skip => exact hK _ _ h
      case enter g args =>
        refine Calls.mono h fun e w'' he => ?_
        cases e with
        | returned v => exact hK _ _ he
        | panicked ch => exact hQ _ _ he
        | outgrown => exact he.elim
    | halt x w' => cases x <;> simp only [Oper.upon] at h ⊢ <;> exact hQ _ _ h

theorem gval_iff (ops : Array Oper) (a : Act) (j : Nat) (b : Bool) : (yielded ops a.tmps j == some b) = true ↔ gval ops.toList (Act.fr a) j = .bool b := by
  unfold yielded gval
  rw [Array.getElem?_toList]
  cases ho : ops[j]? with
  | none => simp [undef]
  | some o =>
    simp only [Option.bind_some]
    cases hd : o.dst with
    | none => simp [undef]
    | some d =>
      simp only [Option.bind_some, Act.fr, Array.getD_eq_getD_getElem?]
      cases ht : a.tmps[d]? with
      | none => simp [undef]
      | some v => cases v <;> simp

theorem opG_wp {P : Program} {pan : List PanicEntry → World → Prop} {ops : Array Oper} {o : Oper} {a : Act} {w : World} {next : Value → World → Prop} {K : Act → World → Prop} {Q : Exit → Act → World → Prop}
    (hQ : ∀ ch w', pan ch w' → Q (.panic ch) a w') (hK : ∀ v w', next v w' → K (a.put o.dst v) w')
    (h : opG P pan ops.toList o (Act.fr a) w next) : if Region.wanted o (yielded ops a.tmps) then o.wp P a w K Q else K (a.put o.dst undef) w := by
  unfold opG at h
  unfold Region.wanted
  cases hg : o.guard with
  | none => simp only [hg] at h; simp only [if_true]; exact opK_wp hQ hK h
  | some g =>
    obtain ⟨j, b⟩ := g
    simp only [hg, Gk, Gd] at h
    simp only
    split
    · rename_i hw; exact opK_wp hQ hK (h.1 ((gval_iff ops a j b).1 hw))
    · rename_i hw; exact hK _ _ (h.2 fun e => hw ((gval_iff ops a j b).2 e))

theorem opsE_sound {P : Program} {pan : List PanicEntry → World → Prop} {ops : Array Oper} {n : Nat} {kn : Fr → World → Prop} {Q : Exit → Act → World → Prop}
    (hQ : ∀ a ch w', a.defers = [] → pan ch w' → Q (.panic ch) a w') (hN : ∀ a w, a.tmps.size = n → a.defers = [] → kn (Act.fr a) w → Q .normal a w) :
    ∀ (l : List Oper) (a : Act) (w : World), (l.all fun o => match o.dst with | some d => d < n | none => true) = true → a.tmps.size = n → a.defers = [] →
      opsE P pan ops.toList l kn (Act.fr a) w → wpList P ops Q l a w
  | [], a, w, _, hs, hd, h => hN a w hs hd h
  | o :: rest, a, w, hl, hs, hd, h => by
    simp only [List.all_cons, Bool.and_eq_true] at hl
    simp only [wpList]
    simp only [opsE] at h
    have hlt : ∀ k, o.dst = some k → k < a.tmps.size := fun k hk => by
      have := hl.1
      rw [hk] at this
      simpa [hs] using this
    have := opG_wp (P := P) (pan := pan) (ops := ops) (o := o) (a := a) (w := w) (K := wpList P ops Q rest) (Q := Q) (fun ch w' hp => hQ a ch w' hd hp)
      (fun v w' hn => opsE_sound hQ hN rest (a.put o.dst v) w' hl.2 (by rw [put_size, hs]) (by rw [put_defers, hd]) (by rw [fr_put a _ _ hlt]; exact hn)) h
    split
    · rename_i hw; rw [if_pos hw] at this; exact .inl this
    · rename_i hw; rw [if_neg hw] at this; exact this

theorem opH_yields {P : Program} {S : World → Prop} {ops : Array Oper} {o : Oper} {a : Act} {next : Value → Prop} (h : opHG P S ops.toList o (Act.fr a) next) :
    ∃ v, YieldsIf P ops S o v a ∧ next v := by
  have core : opH P S o (Act.fr a) next → ∃ v, (∀ w, S w → (execOp a.eval o).run P w = .ok (.value v) w) ∧ next v := by
    intro h
    rw [fr_eval, opSem_spec _ (fun _ => rfl)]
    unfold opH at h
    generalize opSem (ev (Act.fr a)) o = r at h ⊢
    cases r with
    | mv v => exact ⟨v, fun w _ => rfl, h⟩
    | sv s =>
      obtain ⟨v, hv, hn⟩ := h
      exact ⟨v, fun w hS => by simp only [OpK.sem, Sem.run_bind, hv w hS, Result.andThen_ok, Sem.run_pure], hn⟩
    | su s => exact h.elim
    | sn s =>
      obtain ⟨v, hv, hn⟩ := h
      exact ⟨v, fun w hS => hv w hS, hn⟩
  unfold opHG at h
  unfold YieldsIf Region.wanted
  cases hg : o.guard with
  | none =>
    simp only [hg] at h
    obtain ⟨v, hv, hn⟩ := core h
    exact ⟨v, .inl ⟨rfl, hv⟩, hn⟩
  | some g =>
    obtain ⟨j, b⟩ := g
    simp only [hg, GH, Gd] at h
    by_cases hw : gval ops.toList (Act.fr a) j = .bool b
    · obtain ⟨v, hv, hn⟩ := core (h.1 hw)
      exact ⟨v, .inl ⟨(gval_iff ops a j b).2 hw, hv⟩, hn⟩
    · refine ⟨undef, .inr ⟨?_, rfl⟩, h.2 hw⟩
      rw [Bool.eq_false_iff]
      exact fun e => hw ((gval_iff ops a j b).1 e)

/-! ### A region in a chosen order: where S is wanted -/
def Cl (ops : Array Oper) (listed : Array Bool) : Prop := ∀ k, listed.getD k false = true → ∀ o, ops[k]? = some o → ∀ e ∈ o.after, Region.binds .any e = true → listed.getD e.on false = true
theorem Cl.set {ops : Array Oper} {listed : Array Bool} {j : Nat} (h : Cl ops listed) (hj : j ∈ Region.ready .any ops listed) : Cl ops (listed.setIfInBounds j true) := by
  intro k hk o ho e he hb
  by_cases hkj : j = k
  · subst hkj
    obtain ⟨_, o', ho', hall⟩ := mem_ready.1 hj
    rw [ho] at ho'
    cases ho'
    exact getD_set_true (hall e he hb)
  · rw [getD_set_ne false hkj] at hk
    exact getD_set_true (h k hk o ho e he hb)
theorem reach_listed {ops : Array Oper} {listed : Array Bool} (hc : Cl ops listed) : ∀ (n j i : Nat), (∀ o, ops[j]? = some o → ∀ e ∈ o.after, Region.binds .any e = true → listed.getD e.on false = true) → reach ops.toList n j i = true → listed.getD i false = true
  | 0, _, _, _, h => by simp [reach] at h
  | n + 1, j, i, hp, h => by
    simp only [reach] at h
    rw [Array.getElem?_toList] at h
    cases ho : ops[j]? with
    | none => simp [ho] at h
    | some o =>
      simp only [ho, List.any_eq_true, Bool.and_eq_true, Bool.or_eq_true] at h
      obtain ⟨e, he, hb, h⟩ := h
      have hl := hp o ho e (Array.mem_toList_iff.1 he) hb
      rcases h with h | h
      · rw [Nat.eq_of_beq_eq_true h] at hl; exact hl
      · exact reach_listed hc n e.on i (fun o' ho' e' he' hb' => hc e.on hl o' ho' e' he' hb') h
theorem needs_of {ops : Array Oper} {listed : Array Bool} {hs : List Nat} {i j : Nat} (hc : Cl ops listed) (hi : i ∈ hs) (hne : j ≠ i) (hu : listed.getD i true = false) (hj : j ∈ Region.ready .any ops listed) : needs ops.toList hs j = true := by
  unfold needs
  rw [List.any_eq_true]
  refine ⟨i, hi, ?_⟩
  rw [Bool.and_eq_true, Bool.not_eq_true', Bool.not_eq_true']
  refine ⟨Bool.eq_false_iff.2 fun hb => hne (Nat.eq_of_beq_eq_true hb).symm, Bool.eq_false_iff.2 fun hr => ?_⟩
  obtain ⟨_, o, ho, hall⟩ := mem_ready.1 hj
  have := reach_listed hc _ j i (fun o' ho' e he hb => by rw [ho] at ho'; cases ho'; exact hall e he hb) hr
  rcases Nat.lt_or_ge i listed.size with h' | h'
  · simp [h'] at hu this; rw [hu] at this; cases this
  · simp [Array.getElem?_eq_none h'] at this

/-- Whatever order is picked from here on, and S holds behind every operation behind which it is wanted. -/
def wpAnyT (P : Program) (ops : Array Oper) (Q : Exit → Act → World → Prop) (S : World → Prop) (hs : List Nat) : Nat → Array Bool → Act → World → Prop
  | 0, listed, a, w => Region.ready .any ops listed = [] ∧ Q .normal a w
  | fuel + 1, listed, a, w =>
    (Region.ready .any ops listed = [] → Q .normal a w) ∧
    ∀ i ∈ Region.ready .any ops listed, wpOp P ops Q i (fun a' w' => (needs ops.toList hs i = true → S w → S w') ∧ wpAnyT P ops Q S hs fuel (listed.setIfInBounds i true) a' w') a w
theorem wpAny_of_T {P : Program} {ops : Array Oper} {Q : Exit → Act → World → Prop} {S : World → Prop} {hs : List Nat} : ∀ (fuel : Nat) (listed : Array Bool) (a : Act) (w : World), wpAnyT P ops Q S hs fuel listed a w → wpAny P .any ops Q fuel listed a w
  | 0, _, _, _, h => h
  | fuel + 1, _, _, _, h => ⟨h.1, fun i hi => wpOp_mono (fun a' w' h' => wpAny_of_T fuel _ a' w' h'.2) (h.2 i hi)⟩
theorem wpAnyT_first {P : Program} {ops : Array Oper} {Q : Exit → Act → World → Prop} {S S0 : World → Prop} {hs : List Nat} {i : Nat} {oi : Oper} {v : Value} (hi : ops[i]? = some oi) (hsel : ∀ (j : Nat) (o : Oper) cs b, ops[j]? = some o → o.op ≠ .select cs b)
    (hQ : ∀ c a w, Q (.panic c) (a.put oi.dst v) w → Q (.panic c) a w) (hS0 : (∀ w, S0 w) ∨ i ∈ hs ∧ S0 = S) :
    ∀ (fuel : Nat) (listed : Array Bool) (a : Act) (w : World), Cl ops listed →
      (∀ j oj, ops[j]? = some oj → j ≠ i → listed.getD j true = false → (∀ e ∈ oj.after, Region.binds .any e = true → e.on ≠ i) → oi.apart ops oj = true) →
      i ∈ Region.ready .any ops listed → YieldsIf P ops S0 oi v a → S0 w →
      wpAnyT P ops Q S hs fuel (listed.setIfInBounds i true) (a.put oi.dst v) w → wpAnyT P ops Q S hs (fuel + 1) listed a w := by
  intro fuel
  induction fuel with
  | zero =>
    intro listed a w _ _ hr hy hS H
    refine ⟨fun h => (by rw [h] at hr; cases hr), fun j hj => ?_⟩
    by_cases hji : j = i
    · subst hji; exact hy.wpOp hi hS ⟨fun _ h => h, H⟩
    · have := ready_mono hj hji
      rw [H.1] at this
      cases this
  | succ fuel ih =>
    intro listed a w hcl hfree hr hy hS H
    refine ⟨fun h => (by rw [h] at hr; cases hr), fun j hj => ?_⟩
    by_cases hji : j = i
    · subst hji; exact hy.wpOp hi hS ⟨fun _ h => h, H⟩
    · have h1 := H.2 j (ready_mono hj hji)
      obtain ⟨hjun, oj, hoj, hall⟩ := mem_ready.1 hj
      have hnot : ∀ e ∈ oj.after, Region.binds .any e = true → e.on ≠ i := fun e he hb heq => by
        have h1 := hall e he hb
        have h0 := (mem_ready.1 hr).1
        rw [heq] at h1
        rcases Nat.lt_or_ge i listed.size with h' | h'
        · simp [h'] at h0 h1; rw [h0] at h1; cases h1
        · simp [Array.getElem?_eq_none h'] at h1
      have h2 := wpOp_putIf hoj (hfree j oj hoj hji hjun hnot) (fun cs b => hsel i oi cs b hi) (fun cs b => hsel j oj cs b hoj) hQ hy h1
      have hfree' : ∀ k ok, ops[k]? = some ok → k ≠ i → (listed.setIfInBounds j true).getD k true = false →
          (∀ e ∈ ok.after, Region.binds .any e = true → e.on ≠ i) → oi.apart ops ok = true := fun k ok hk hki hun hno => by
        refine hfree k ok hk hki ?_ hno
        by_cases hjk : j = k
        · subst hjk; exact hjun
        · rw [getD_set_ne true hjk] at hun; exact hun
      have hnS : ∀ w', (needs ops.toList hs j = true → S w → S w') → S0 w' := fun w' hw' => by
        rcases hS0 with h | ⟨h, rfl⟩
        · exact h w'
        · exact hw' (needs_of hcl h hji (mem_ready.1 hr).1 hj) hS
      refine wpOp_mono (fun a' w' h3 => ⟨h3.2.1, ih (listed.setIfInBounds j true) a' w' (hcl.set hj) hfree' (ready_mono hr (Ne.symm hji)) h3.1 (hnS w' h3.2.1) ?_⟩) h2
      rw [Array.setIfInBounds_comm _ _ hji]
      exact h3.2.2

theorem dchain_sound {P : Program} {pan : List PanicEntry → World → Prop} {ops : Array Oper} {S : World → Prop} {hs : List Nat} {n : Nat} {kn : Fr → World → Prop} {Q : Exit → Act → World → Prop}
    (hsel : Region.noSelect ops = true) (hfit : (ops.toList.all fun o => match o.dst with | some d => d < n | none => true) = true)
    (hQ : ∀ a ch w', a.defers = [] → pan ch w' → Q (.panic ch) a w') (hQ' : ∀ a d v c w', Q (.panic c) (a.put d v) w' → Q (.panic c) a w')
    (hN : ∀ a w, a.tmps.size = n → a.defers = [] → kn (Act.fr a) w → Q .normal a w) :
    ∀ (l : List (Nat × Bool)) (held : Bool) (listed : Array Bool) (a : Act) (w : World) (fuel : Nat), l.length ≤ fuel → a.tmps.size = n → a.defers = [] → (held = true → S w) → Cl ops listed →
      dchain P pan ops S hs kn l held listed (Act.fr a) w → wpAnyT P ops Q S hs fuel listed a w
  | [], held, listed, a, w, fuel, _, hs, hd, hS, hcl, h => by
    simp only [dchain] at h
    split at h
    · rename_i hr
      cases fuel with
      | zero => exact ⟨hr, hN a w hs hd h⟩
      | succ fuel => exact ⟨fun _ => hN a w hs hd h, by rw [hr]; simp⟩
    · exact h.elim
  | (i, true) :: l, held, listed, a, w, fuel, hf, hs, hd, hS, hcl, h => by
    simp only [dchain] at h
    split at h
    · rename_i hfr
      simp only [Bool.and_eq_true] at hfr
      have hri : i ∈ Region.ready .any ops listed := by simpa using hfr.2
      split at h
      · exact h.elim
      · rename_i o ho
        rw [Array.getElem?_toList] at ho
        obtain ⟨fuel, rfl⟩ : ∃ m, fuel = m + 1 := ⟨fuel - 1, by simp only [List.length_cons] at hf; omega⟩
        have hlt : ∀ k, o.dst = some k → k < a.tmps.size := fun k hk => by
          have := List.all_eq_true.1 hfit o (Array.mem_toList_iff.2 (Array.mem_of_getElem? ho))
          rw [hk] at this
          simpa [hs] using this
        split at h
        · obtain ⟨v, hy, hn⟩ := opH_yields h
          refine wpAnyT_first ho (Region.noSelect_spec hsel) (fun c a w => hQ' a o.dst v c w) (.inl fun _ => trivial) fuel listed a w hcl (Region.free_spec ho hfr.1) hri hy trivial ?_
          exact dchain_sound hsel hfit hQ hQ' hN l _ _ _ w fuel (by simp only [List.length_cons] at hf; omega) (by rw [put_size, hs]) (by rw [put_defers, hd]) hS (hcl.set hri) (by rw [fr_put a _ _ hlt]; exact hn)
        · split at h
          · rename_i hh
            simp only [Bool.and_eq_true] at hh
            obtain ⟨v, hy, hn⟩ := opH_yields h
            refine wpAnyT_first ho (Region.noSelect_spec hsel) (fun c a w => hQ' a o.dst v c w) (.inr ⟨by simpa using hh.2, rfl⟩) fuel listed a w hcl (Region.free_spec ho hfr.1) hri hy (hS hh.1) ?_
            exact dchain_sound hsel hfit hQ hQ' hN l _ _ _ w fuel (by simp only [List.length_cons] at hf; omega) (by rw [put_size, hs]) (by rw [put_defers, hd]) hS (hcl.set hri) (by rw [fr_put a _ _ hlt]; exact hn)
          · exact h.elim
    · exact h.elim
  | (i, false) :: l, held, listed, a, w, fuel, hf, hs, hd, hS, hcl, h => by
    simp only [dchain] at h
    split at h
    · rename_i hr
      have hr := eq_of_beq hr
      split at h
      · exact h.elim
      · rename_i o ho
        rw [Array.getElem?_toList] at ho
        obtain ⟨fuel, rfl⟩ : ∃ m, fuel = m + 1 := ⟨fuel - 1, by simp only [List.length_cons] at hf; omega⟩
        have hlt : ∀ k, o.dst = some k → k < a.tmps.size := fun k hk => by
          have := List.all_eq_true.1 hfit o (Array.mem_toList_iff.2 (Array.mem_of_getElem? ho))
          rw [hk] at this
          simpa [hs] using this
        refine ⟨fun h0 => (by rw [hr] at h0; cases h0), fun j hj => ?_⟩
        have hj' := hj
        rw [hr] at hj
        obtain rfl : j = i := by simpa using hj
        unfold wpOp
        simp only [ho]
        have := opG_wp (P := P) (pan := pan) (ops := ops) (o := o) (a := a) (w := w) (K := fun a' w' => (needs ops.toList _ j = true → S w → S w') ∧ wpAnyT P ops Q S _ fuel (listed.setIfInBounds j true) a' w') (Q := Q) (fun ch w' hp => hQ a ch w' hd hp)
          (fun v w' hn => by
            split at hn
            · exact ⟨fun _ _ => hn.1, dchain_sound hsel hfit hQ hQ' hN l _ _ _ w' fuel (by simp only [List.length_cons] at hf; omega) (by rw [put_size, hs]) (by rw [put_defers, hd]) (fun _ => hn.1) (hcl.set hj') (by rw [fr_put a _ _ hlt]; exact hn.2)⟩
            · rename_i hnn
              exact ⟨fun h => (by rw [hnn] at h; cases h), dchain_sound hsel hfit hQ hQ' hN l false _ _ w' fuel (by simp only [List.length_cons] at hf; omega) (by rw [put_size, hs]) (by rw [put_defers, hd]) (fun h => (Bool.noConfusion h : S w')) (hcl.set hj') (by rw [fr_put a _ _ hlt]; exact hn)⟩) h
        split
        · rename_i hw; rw [if_pos hw] at this; exact .inl this
        · rename_i hw; rw [if_neg hw] at this; exact this
    · exact h.elim

theorem wpE_sound {P : Program} (hm : P.follows .mixedOrders = true) {dc : Nat → List (Nat × Bool)} {kr : Fr → World → Prop} {pan : List PanicEntry → World → Prop} {n : Nat} :
    ∀ (c : Code) (kn : Fr → World → Prop) (kx : Nat → Fr → World → Prop) (a : Act) (w : World), fits n c = true → a.tmps.size = n → a.defers = [] →
      wpE P dc kr pan c kn kx (Act.fr a) w → c.wp P (Qof n kn kx kr pan) a w := by
  intro c
  induction c with
  | skip => intro kn kx a w _ hs hd h; exact wp_skip ⟨hs, hd, h⟩
  | exit id => intro kn kx a w _ hs hd h; exact wp_exit ⟨hs, hd, h⟩
  | ret => intro kn kx a w _ hs hd h; exact wp_ret ⟨hs, hd, h⟩
  | region id ops draw =>
    intro kn kx a w hf hs hd h
    simp only [fits, Bool.and_eq_true] at hf
    cases draw with
    | false =>
      refine wp_region_list (opsE_sound (n := n) (kn := kn) (pan := pan) (fun a ch w' hd hp => ⟨hd, hp⟩) (fun a w h1 h2 h3 => ⟨h1, h2, h3⟩) _ a w hf.1 hs hd h)
    | true =>
      simp only [wpE] at h
      split at h
      · rename_i hlen
        obtain ⟨S, hS, h⟩ := h
        refine wp_region_any hm (wpAny_of_T (S := S) (hs := hoists ops.toList (dc id)) _ _ _ _ ?_)
        refine dchain_sound (n := n) (kn := kn) (pan := pan) (by simpa using hf.2) hf.1 (fun a ch w' hd hp => ⟨hd, hp⟩) (fun a d v c w' hq => ⟨by have := hq.1; rwa [put_defers] at this, hq.2⟩)
          (fun a w h1 h2 h3 => ⟨h1, h2, h3⟩) (dc id) true _ a w.drew ops.size (by simpa using Nat.le_of_ble_eq_true hlen) hs hd (fun _ => hS) (fun k hk => ?_) h
        exfalso
        rcases Nat.lt_or_ge k ops.size with h' | h'
        · simp [h'] at hk
        · simp [Array.getElem?_eq_none, h'] at hk
      · exact h.elim
  | seq x y ihx ihy =>
    intro kn kx a w hf hs hd h
    simp only [fits, Bool.and_eq_true] at hf
    refine wp_seq (wp_mono (ihx _ kx a w hf.1 hs hd h) ?_)
    rintro e a' w' hq
    cases e <;> simp only [Qof, Exit.then] at hq ⊢
    case normal => exact ihy kn kx a' w' hf.2 hq.1 hq.2.1 hq.2.2
    all_goals exact hq
  | cond c x y ihx ihy =>
    intro kn kx a w hf hs hd h
    simp only [fits, Bool.and_eq_true] at hf
    simp only [wpE, Bc] at h
    rcases h with ⟨hc, h⟩ | ⟨hc, h⟩
    · exact wp_cond_true (by rw [fr_eval]; exact hc) (ihx kn kx a w hf.1 hs hd h)
    · exact wp_cond_false (by rw [fr_eval]; exact hc) (ihy kn kx a w hf.2 hs hd h)
  | block id c ih =>
    intro kn kx a w hf hs hd h
    simp only [fits] at hf
    refine wp_block (wp_mono (ih kn _ a w hf hs hd h) ?_)
    rintro e a' w' hq
    cases e <;> simp only [Qof, Exit.inBlock] at hq ⊢
    case exit i =>
      obtain ⟨h1, h2, h3⟩ := hq
      split
      · rename_i hi; subst hi; simp only [Nat.beq_refl] at h3; exact ⟨h1, h2, h3⟩
      · rename_i hi
        have : Nat.beq i id = false := Bool.eq_false_iff.2 fun hb => hi (Nat.eq_of_beq_eq_true hb)
        rw [this] at h3
        exact ⟨h1, h2, h3⟩
    all_goals exact hq
  | loop c ih =>
    intro kn kx a w hf hs hd h
    simp only [fits] at hf
    obtain ⟨I, μ, h0, hr⟩ := h
    refine wp_loop (fun a w => a.tmps.size = n ∧ a.defers = [] ∧ I (Act.fr a) w) (fun a w => μ (Act.fr a) w) ⟨hs, hd, h0⟩ fun a w ⟨hs, hd, hI⟩ => ?_
    refine wp_mono (ih _ kx a w hf hs hd (hr _ _ hI)) ?_
    rintro e a' w' hq
    cases e <;> simp only [Qof, Exit.then] at hq ⊢
    case normal => exact ⟨⟨hq.1, hq.2.1, hq.2.2.1⟩, hq.2.2.2⟩
    all_goals exact hq
  | _ => intro kn kx a w _ _ _ h; exact h.elim

/-- A result that lies in memory. -/
def Rc (P : Program) (t : TypeId) (a : Value) (w : World) (k : Value → Prop) : Prop := ∃ v, (Instr.loadAt t a).run P w = .ok v w ∧ k v
def oneOf : List Value → Value
  | [v] => v
  | vs => .tuple vs.toArray
def resL (P : Program) : List ResultVar → Fr → World → (List Value → Prop) → Prop
  | [], _, _, k => k []
  | .tmp t :: rs, f, w, k => resL P rs f w fun vs => k (f t :: vs)
  | .cell a t :: rs, f, w, k => Rc P t (f a) w fun v => resL P rs f w fun vs => k (v :: vs)
/-- The results, read from the frame. -/
def resK (P : Program) (rs : List ResultVar) (R : Ending → World → Prop) (f : Fr) (w : World) : Prop :=
  resL P rs f w fun vs => R (.returned (oneOf vs)) w
def panK (R : Ending → World → Prop) (ch : List PanicEntry) (w : World) : Prop := R (.panicked ch) w
def noX : Nat → Fr → World → Prop := fun _ _ _ => False
def initFr (args : List Value) : Fr := fun t => args.getD t undef

def resG (tmps : Array Value) : ResultVar → Sem Value
  | .tmp t => pure (tmps.getD t undef)
  | .cell b t => do loadVar t (← asAddr (tmps.getD b undef))
theorem results_eq (fn : Func) (tmps : Array Value) : results fn tmps = (do let vs ← fn.results.mapM (resG tmps); pure (if h : vs.size = 1 then vs[0] else .tuple vs)) := by
  unfold results
  congr 1
theorem resL_sound {P : Program} {a : Act} {w : World} {k : List Value → Prop} : ∀ (rs : List ResultVar), resL P rs (Act.fr a) w k →
    ∃ vs, (rs.mapM (resG a.tmps)).run P w = .ok vs w ∧ k vs
  | [], h => ⟨[], by simp, h⟩
  | .tmp t :: rs, h => by
    obtain ⟨vs, hr, hk⟩ := resL_sound (k := fun vs => k (Act.fr a t :: vs)) rs h
    exact ⟨_, by simp only [List.mapM_cons, resG, Sem.run_bind, Sem.run_pure, Result.andThen_ok, hr]; rfl, hk⟩
  | .cell b t :: rs, h => by
    obtain ⟨v, hv, h⟩ := h
    obtain ⟨vs, hr, hk⟩ := resL_sound (k := fun vs => k (v :: vs)) rs h
    have hv' : (resG a.tmps (.cell b t)).run P w = .ok v w := by
      have e : Act.fr a b = a.tmps.getD b undef := rfl
      rw [e] at hv
      show (do loadVar t (← asAddr (a.tmps.getD b undef)) : Sem Value).run P w = .ok v w
      generalize a.tmps.getD b undef = x at hv ⊢
      cases x with
      | pointer ad =>
        cases ad with
        | none => simp [Instr.loadAt, Instr.sureAddr, stuck] at hv
        | some ad => exact hv
      | _ => simp [Instr.loadAt, Instr.sureAddr, stuck] at hv
    refine ⟨_, ?_, hk⟩
    simp only [List.mapM_cons, Sem.run_bind, hv', Sem.run_pure, Result.andThen_ok, hr]
theorem resK_sound {P : Program} {fn : Func} {R : Ending → World → Prop} {a : Act} {w : World} {rs : List ResultVar} (hrs : fn.results.toList = rs) (h : resK P rs R (Act.fr a) w) :
    ∃ v, (results fn a.tmps).run P w = .ok v w ∧ R (.returned v) w := by
  obtain ⟨vs, hr, hk⟩ := resL_sound rs h
  refine ⟨_, ?_, hk⟩
  have e : fn.results = rs.toArray := by rw [← hrs]
  rw [results_eq, e, List.mapM_toArray]
  simp only [Sem.run_bind, Sem.run_map]
  rw [hr]
  simp only [Result.andThen_ok, Sem.run_pure]
  match vs with
  | [] => rfl
  | [v] => rfl
  | v :: u :: vs => simp [oneOf]

theorem calls_of_wpE {P : Program} (hm : P.follows .mixedOrders = true) {i : FuncId} {fn : Func} {c : Code} {rs : List ResultVar} {args : List Value} {w : World} {R : Ending → World → Prop} {dc : Nat → List (Nat × Bool)}
    (hf : P.funcs[i]? = some fn) (hb : fn.body = some c) (hrs : fn.results.toList = rs) (hfit : fits fn.ntmps c = true) (hargs : args.length ≤ fn.ntmps)
    (h : wpE P dc (resK P rs R) (panK R) c (resK P rs R) noX (initFr args) w) : Calls P i args.toArray w R := by
  refine calls_of_wp hf hb ?_
  have hfr : Act.fr { tmps := args.toArray ++ Array.replicate (fn.ntmps - args.toArray.size) undef, defers := [] } = initFr args := by
    funext t
    simp only [Act.fr, initFr, Array.getD_eq_getD_getElem?, List.getD_eq_getElem?_getD]
    rw [Array.getElem?_append]
    by_cases ht : t < args.length
    · simp [ht]
    · rw [if_neg (by simpa using ht), List.getElem?_eq_none (by omega), Array.getElem?_replicate]
      split <;> rfl
  refine wp_mono (wpE_sound hm c _ _ _ w hfit (by simp; omega) rfl (by rw [hfr]; exact h)) ?_
  rintro e a' w' hq
  cases e <;> simp only [Qof, bodyPost, noX] at hq ⊢
  case normal => exact ⟨hq.2.1, resK_sound hrs hq.2.2⟩
  case ret => exact ⟨hq.2.1, resK_sound hrs hq.2.2⟩
  case panic ch => exact ⟨hq.1, hq.2⟩
  all_goals exact hq.2.2

/-! Continuations may be weakened; what is not written stays. -/
theorem opK_mono {P : Program} {pan : List PanicEntry → World → Prop} {o : Oper} {f : Fr} {w : World} {next next' : Value → World → Prop} (hn : ∀ v w, next v w → next' v w)
    (h : opK P pan o f w next) : opK P pan o f w next' := by
  unfold opK at h ⊢
  generalize opSem (ev f) o = r at h ⊢
  cases r with
  | mv v => exact hn _ _ h
  | sv s =>
    simp only [U] at h ⊢
    generalize s.run P w = r at h ⊢
    cases r with
    | ok v w' => exact hn _ _ h
    | halt x w' => cases x <;> exact h
  | su s =>
    simp only [UU] at h ⊢
    generalize s.run P w = r at h ⊢
    cases r with
    | ok v w' => exact hn _ _ h
    | halt x w' => cases x <;> exact h
  | sn s =>
    simp only [UN] at h ⊢
    generalize s.run P w = r at h ⊢
    cases r with
    | ok n w' =>
      cases n <;> simp only at h ⊢
      case value v => exact hn _ _ h
      case skip => exact hn _ _ h
      case enter g args => exact Calls.mono h fun e w'' he => by cases e <;> first | exact hn _ _ he | exact he
    | halt x w' => cases x <;> exact h

theorem opG_mono {P : Program} {pan : List PanicEntry → World → Prop} {ops : List Oper} {o : Oper} {f : Fr} {w : World} {next next' : Value → World → Prop} (hn : ∀ v w, next v w → next' v w)
    (h : opG P pan ops o f w next) : opG P pan ops o f w next' := by
  unfold opG at h ⊢
  split
  · rename_i hg; simp only [hg] at h; exact opK_mono hn h
  · rename_i j b hg
    simp only [hg, Gk, Gd] at h ⊢
    exact ⟨fun e => opK_mono hn (h.1 e), fun e => hn _ _ (h.2 e)⟩

theorem opsE_mono {P : Program} {pan : List PanicEntry → World → Prop} {ops : List Oper} {kn kn' : Fr → World → Prop} (hn : ∀ f w, kn f w → kn' f w) :
    ∀ (l : List Oper) (f : Fr) (w : World), opsE P pan ops l kn f w → opsE P pan ops l kn' f w
  | [], f, w, h => hn _ _ h
  | o :: l, f, w, h => opG_mono (fun v w' h' => opsE_mono hn l _ w' h') h

theorem opHG_mono {P : Program} {S : World → Prop} {ops : List Oper} {o : Oper} {f : Fr} {next next' : Value → Prop} (hn : ∀ v, next v → next' v) (h : opHG P S ops o f next) : opHG P S ops o f next' := by
  have core : opH P S o f next → opH P S o f next' := by
    intro h
    unfold opH at h ⊢
    generalize opSem (ev f) o = r at h ⊢
    cases r with
    | mv v => exact hn _ h
    | sv s => obtain ⟨v, hv, hk⟩ := h; exact ⟨v, hv, hn _ hk⟩
    | su s => exact h
    | sn s => obtain ⟨v, hv, hk⟩ := h; exact ⟨v, hv, hn _ hk⟩
  unfold opHG at h ⊢
  split
  · rename_i hg; simp only [hg] at h; exact core h
  · rename_i j b hg
    simp only [hg, GH, Gd] at h ⊢
    exact ⟨fun e => core (h.1 e), fun e => hn _ (h.2 e)⟩

theorem dchain_mono {P : Program} {pan : List PanicEntry → World → Prop} {ops : Array Oper} {S : World → Prop} {hs : List Nat} {kn kn' : Fr → World → Prop} (hn : ∀ f w, kn f w → kn' f w) :
    ∀ (l : List (Nat × Bool)) (held : Bool) (listed : Array Bool) (f : Fr) (w : World), dchain P pan ops S hs kn l held listed f w → dchain P pan ops S hs kn' l held listed f w
  | [], held, listed, f, w, h => by
    simp only [dchain] at h ⊢
    split at h
    · exact hn _ _ h
    · exact h.elim
  | (i, true) :: l, held, listed, f, w, h => by
    simp only [dchain] at h ⊢
    split at h
    · split at h
      · exact h.elim
      · split at h
        · exact opHG_mono (fun v h' => dchain_mono hn l _ _ _ w h') h
        · split at h
          · exact opHG_mono (fun v h' => dchain_mono hn l _ _ _ w h') h
          · exact h.elim
    · exact h.elim
  | (i, false) :: l, held, listed, f, w, h => by
    simp only [dchain] at h ⊢
    split at h
    · split at h
      · exact h.elim
      · refine opG_mono (fun v w' h' => ?_) h
        split at h'
        · exact ⟨h'.1, dchain_mono hn l _ _ _ w' h'.2⟩
        · exact dchain_mono hn l _ _ _ w' h'
    · exact h.elim

theorem wpE_mono {P : Program} {dc : Nat → List (Nat × Bool)} {kr : Fr → World → Prop} {pan : List PanicEntry → World → Prop} :
    ∀ (c : Code) {kn kn' : Fr → World → Prop} {kx kx' : Nat → Fr → World → Prop} (_ : ∀ f w, kn f w → kn' f w) (_ : ∀ i f w, kx i f w → kx' i f w) (f : Fr) (w : World),
      wpE P dc kr pan c kn kx f w → wpE P dc kr pan c kn' kx' f w := by
  intro c
  induction c with
  | skip => intro kn kn' kx kx' hn hx f w h; exact hn _ _ h
  | exit id => intro kn kn' kx kx' hn hx f w h; exact hx _ _ _ h
  | ret => intro kn kn' kx kx' hn hx f w h; exact h
  | region id ops draw =>
    intro kn kn' kx kx' hn hx f w h
    cases draw with
    | false => exact opsE_mono hn _ f w h
    | true =>
      simp only [wpE] at h ⊢
      split at h
      · obtain ⟨S, hS, h⟩ := h
        exact ⟨S, hS, dchain_mono hn _ _ _ f _ h⟩
      · exact h.elim
  | seq x y ihx ihy => intro kn kn' kx kx' hn hx f w h; exact ihx (fun f w h => ihy hn hx f w h) hx f w h
  | cond c x y ihx ihy =>
    intro kn kn' kx kx' hn hx f w h
    simp only [wpE, Bc] at h ⊢
    exact h.imp (fun h => ⟨h.1, ihx hn hx f w h.2⟩) (fun h => ⟨h.1, ihy hn hx f w h.2⟩)
  | block id c ih =>
    intro kn kn' kx kx' hn hx f w h
    refine ih hn (fun i f w h => ?_) f w h
    cases hb : Nat.beq i id <;> simp only [hb] at h ⊢
    · exact hx _ _ _ h
    · exact hn _ _ h
  | loop c ih =>
    intro kn kn' kx kx' hn hx f w h
    obtain ⟨I, μ, h0, hr⟩ := h
    exact ⟨I, μ, h0, fun f w hI => ih (fun _ _ h => h) hx f w (hr f w hI)⟩
  | _ => intro kn kn' kx kx' hn hx f w h; exact h.elim

/-- Does code write a temporary? -/
def writes (s : Nat) : Code → Bool
  | .seq a b => writes s a || writes s b
  | .cond _ a b => writes s a || writes s b
  | .block _ c => writes s c
  | .region _ ops _ => ops.toList.any fun o => match o.dst with | some d => Nat.beq d s | none => false
  | .loop c => writes s c
  | _ => false

theorem put_other {f : Fr} {d : Option Nat} {v : Value} {s : Nat} (h : (match d with | some d => Nat.beq d s | none => false) = false) : f.put d v s = f s := by
  cases d with
  | none => rfl
  | some d =>
    simp only [Fr.put]
    have hb : Nat.beq s d = false := Bool.eq_false_iff.2 fun hb => by
      have := Nat.eq_of_beq_eq_true hb
      subst this
      simp at h
    rw [hb]

theorem opsE_frame {P : Program} {pan : List PanicEntry → World → Prop} {ops : List Oper} {kn : Fr → World → Prop} :
    ∀ (l : List Oper) (f : Fr) (w : World), opsE P pan ops l kn f w →
      opsE P pan ops l (fun f' w' => kn f' w' ∧ ∀ s, (l.any fun o => match o.dst with | some d => Nat.beq d s | none => false) = false → f' s = f s) f w
  | [], f, w, h => ⟨h, fun _ _ => rfl⟩
  | o :: l, f, w, h => by
    refine opG_mono (fun v w' h' => ?_) h
    refine opsE_mono (fun f' w'' h'' => ⟨h''.1, fun s hs => ?_⟩) l _ w' (opsE_frame l _ w' h')
    simp only [List.any_cons, Bool.or_eq_false_iff] at hs
    rw [h''.2 s hs.2, put_other hs.1]

theorem dchain_frame {P : Program} {pan : List PanicEntry → World → Prop} {ops : Array Oper} {S : World → Prop} {hs : List Nat} {kn : Fr → World → Prop} :
    ∀ (l : List (Nat × Bool)) (held : Bool) (listed : Array Bool) (f : Fr) (w : World), dchain P pan ops S hs kn l held listed f w →
      dchain P pan ops S hs (fun f' w' => kn f' w' ∧ ∀ s, (ops.toList.any fun o => match o.dst with | some d => Nat.beq d s | none => false) = false → f' s = f s) l held listed f w
  | [], held, listed, f, w, h => by
    simp only [dchain] at h ⊢
    split at h
    · refine ⟨h, ?_⟩; intros; first | rfl | trivial
    · exact h.elim
  | (i, true) :: l, held, listed, f, w, h => by
    simp only [dchain] at h ⊢
    split at h
    · split at h
      · exact h.elim
      · rename_i o ho
        split at h
        · refine opHG_mono (fun v h' => dchain_mono (fun f' w'' h'' => ⟨h''.1, fun s hs => ?_⟩) l _ _ _ w (dchain_frame l _ _ _ w h')) h
          rw [h''.2 s hs, put_other (Bool.eq_false_iff.2 (List.any_eq_false.1 hs o (List.mem_of_getElem? ho)))]
        · split at h
          · refine opHG_mono (fun v h' => dchain_mono (fun f' w'' h'' => ⟨h''.1, fun s hs => ?_⟩) l _ _ _ w (dchain_frame l _ _ _ w h')) h
            rw [h''.2 s hs, put_other (Bool.eq_false_iff.2 (List.any_eq_false.1 hs o (List.mem_of_getElem? ho)))]
          · exact h.elim
    · exact h.elim
  | (i, false) :: l, held, listed, f, w, h => by
    simp only [dchain] at h ⊢
    split at h
    · split at h
      · exact h.elim
      · rename_i o ho
        refine opG_mono (fun v w' h' => ?_) h
        split at h'
        · refine ⟨h'.1, dchain_mono (fun f' w'' h'' => ⟨h''.1, fun s hs => ?_⟩) l _ _ _ w' (dchain_frame l _ _ _ w' h'.2)⟩
          rw [h''.2 s hs, put_other (Bool.eq_false_iff.2 (List.any_eq_false.1 hs o (List.mem_of_getElem? ho)))]
        · refine dchain_mono (fun f' w'' h'' => ⟨h''.1, fun s hs => ?_⟩) l _ _ _ w' (dchain_frame l _ _ _ w' h')
          rw [h''.2 s hs, put_other (Bool.eq_false_iff.2 (List.any_eq_false.1 hs o (List.mem_of_getElem? ho)))]
    · exact h.elim

theorem wpE_frame {P : Program} {dc : Nat → List (Nat × Bool)} {kr : Fr → World → Prop} {pan : List PanicEntry → World → Prop} :
    ∀ (c : Code) {kn : Fr → World → Prop} {kx : Nat → Fr → World → Prop} (f : Fr) (w : World),
      wpE P dc kr pan c kn kx f w → wpE P dc kr pan c (fun f' w' => kn f' w' ∧ ∀ s, writes s c = false → f' s = f s) (fun i f' w' => kx i f' w' ∧ ∀ s, writes s c = false → f' s = f s) f w := by
  intro c
  induction c with
  | skip => intro kn kx f w h; exact ⟨h, fun _ _ => rfl⟩
  | exit id => intro kn kx f w h; exact ⟨h, fun _ _ => rfl⟩
  | ret => intro kn kx f w h; exact h
  | region id ops draw =>
    intro kn kx f w h
    cases draw with
    | false => exact opsE_mono (fun f' w' h' => ⟨h'.1, fun s hs => h'.2 s hs⟩) _ f w (opsE_frame _ f w h)
    | true =>
      simp only [wpE] at h ⊢
      split at h
      · obtain ⟨S, hS, h⟩ := h
        exact ⟨S, hS, dchain_mono (fun f' w' h' => ⟨h'.1, fun s hs => h'.2 s hs⟩) _ _ _ f _ (dchain_frame _ _ _ f _ h)⟩
      · exact h.elim
  | seq x y ihx ihy =>
    intro kn kx f w h
    refine wpE_mono x (fun f' w' h' => ?_) (fun i f' w' h' => ⟨h'.1, fun s hs => ?_⟩) f w (ihx f w h)
    · refine wpE_mono y (fun f'' w'' h'' => ⟨h''.1, fun s hs => ?_⟩) (fun i f'' w'' h'' => ⟨h''.1, fun s hs => ?_⟩) f' w' (ihy f' w' h'.1)
      all_goals
        simp only [writes, Bool.or_eq_false_iff] at hs
        rw [h''.2 s hs.2, h'.2 s hs.1]
    · simp only [writes, Bool.or_eq_false_iff] at hs
      exact h'.2 s hs.1
  | cond c x y ihx ihy =>
    intro kn kx f w h
    simp only [wpE, Bc] at h ⊢
    refine h.imp (fun h => ⟨h.1, wpE_mono x (fun f' w' h' => ⟨h'.1, fun s hs => ?_⟩) (fun i f' w' h' => ⟨h'.1, fun s hs => ?_⟩) f w (ihx f w h.2)⟩) (fun h => ⟨h.1, wpE_mono y (fun f' w' h' => ⟨h'.1, fun s hs => ?_⟩) (fun i f' w' h' => ⟨h'.1, fun s hs => ?_⟩) f w (ihy f w h.2)⟩)
    all_goals
      simp only [writes, Bool.or_eq_false_iff] at hs
      first | exact h'.2 s hs.1 | exact h'.2 s hs.2
  | block id c ih =>
    intro kn kx f w h
    refine wpE_mono c (fun f' w' h' => ⟨h'.1, fun s hs => h'.2 s hs⟩) (fun i f' w' h' => ?_) f w (ih f w h)
    obtain ⟨h1, h2⟩ := h'
    cases hb : Nat.beq i id <;> simp only [hb] at h1 ⊢ <;> exact ⟨h1, fun s hs => h2 s hs⟩
  | loop c ih =>
    intro kn kx f w h
    obtain ⟨I, μ, h0, hr⟩ := h
    refine ⟨fun f' w' => I f' w' ∧ ∀ s, writes s c = false → f' s = f s, μ, ⟨h0, fun _ _ => rfl⟩, fun f1 w1 hI => ?_⟩
    refine wpE_mono c (fun f' w' h' => ⟨⟨h'.1.1, fun s hs => by rw [h'.2 s hs, hI.2 s hs]⟩, h'.1.2⟩) (fun i f' w' h' => ⟨h'.1, fun s hs => ?_⟩) f1 w1 (ih f1 w1 (hr f1 w1 hI.1))
    simp only [writes] at hs
    rw [h'.2 s hs, hI.2 s hs]
  | _ => intro kn kx f w h; exact h.elim

/-! The shapes of the printed readings. -/
def cL : Code → Code
  | .seq a _ => a
  | c => c
def cR : Code → Code
  | .seq _ b => b
  | c => c
def cT : Code → Code
  | .cond _ a _ => a
  | c => c
def cF : Code → Code
  | .cond _ _ b => b
  | c => c
def cI : Code → Code
  | .block _ c => c
  | .loop c => c
  | c => c
def bodyOf (fn : Func) : Code := match fn.body with | some c => c | none => .skip
def kxB (id : Nat) (kn : Fr → World → Prop) (kx : Nat → Fr → World → Prop) : Nat → Fr → World → Prop := fun i => match Nat.beq i id with | true => kn | false => kx i
/-- A region that draws. -/
def Dr (c : (World → Prop) → World → Prop) (w : World) : Prop := ∃ S : World → Prop, S w.drew ∧ c S w.drew
/-- The same, as it is printed. -/
def uv (P : Program) (R : Ending → World → Prop) (s : Sem Value) (w : World) (k : Value → World → Prop) : Prop := U P s w k (panK R)
def uu (P : Program) (R : Ending → World → Prop) (s : Sem Unit) (w : World) (k : World → Prop) : Prop := UU P s w k (panK R)
def un (P : Program) (R : Ending → World → Prop) (s : Sem Next) (w : World) (k : Value → World → Prop) : Prop := UN P s w k (panK R)
theorem Bc_imp {v : Value} {x y x' y' : Prop} (hx : x → x') (hy : y → y') (h : Bc v x y) : Bc v x' y' := h.imp (fun h => ⟨h.1, hx h.2⟩) (fun h => ⟨h.1, hy h.2⟩)
theorem skip_ok {P : Program} {dc : Nat → List (Nat × Bool)} {kr : Fr → World → Prop} {pan : List PanicEntry → World → Prop} {kn : Fr → World → Prop} {kx : Nat → Fr → World → Prop} {f : Fr} {w : World}
    (h : kn f w) : wpE P dc kr pan .skip kn kx f w := h
theorem ret_ok {P : Program} {dc : Nat → List (Nat × Bool)} {kr : Fr → World → Prop} {pan : List PanicEntry → World → Prop} {kn : Fr → World → Prop} {kx : Nat → Fr → World → Prop} {f : Fr} {w : World}
    (h : kr f w) : wpE P dc kr pan .ret kn kx f w := h
theorem exit_hit {P : Program} {dc : Nat → List (Nat × Bool)} {kr : Fr → World → Prop} {pan : List PanicEntry → World → Prop} {id : Nat} {K kn : Fr → World → Prop} {kx : Nat → Fr → World → Prop} {f : Fr} {w : World}
    (h : K f w) : wpE P dc kr pan (.exit id) kn (kxB id K kx) f w := by
  simp only [wpE, kxB, Nat.beq_refl]; exact h
theorem exit_miss {P : Program} {dc : Nat → List (Nat × Bool)} {kr : Fr → World → Prop} {pan : List PanicEntry → World → Prop} {i id : Nat} {K kn : Fr → World → Prop} {kx : Nat → Fr → World → Prop} {f : Fr} {w : World}
    (hne : Nat.beq i id = false) (h : wpE P dc kr pan (.exit i) kn kx f w) : wpE P dc kr pan (.exit i) kn (kxB id K kx) f w := by
  simp only [wpE, kxB, hne]; exact h
theorem cut {P : Program} {dc : Nat → List (Nat × Bool)} {kr : Fr → World → Prop} {pan : List PanicEntry → World → Prop} (x y : Code) {K kn : Fr → World → Prop} {kx : Nat → Fr → World → Prop}
    (hy : ∀ f w, K f w → wpE P dc kr pan y kn kx f w) (f : Fr) (w : World) (h : wpE P dc kr pan x K kx f w) : wpE P dc kr pan (.seq x y) kn kx f w :=
  wpE_mono x hy (fun _ _ _ h => h) f w h

/-- A loop whose state is 0 values. -/
def Lp0 (B : (World → Prop) → World → Prop) (w : World) : Prop :=
  ∃ (I : World → Prop) (μ : World → Nat), I w ∧ ∀ w, I w → B (fun w' => I w' ∧ μ w' < μ w) w
theorem loop0_ok {P : Program} {dc : Nat → List (Nat × Bool)} {kr : Fr → World → Prop} {pan : List PanicEntry → World → Prop} (c : Code) {kn : Fr → World → Prop} {kx : Nat → Fr → World → Prop} (B : (World → Prop) → World → Prop) (f0 : Fr)
    (hb : ∀ rec f w, (∀ s, writes s c = false → f s = f0 s) → B rec w → wpE P dc kr pan c (fun f w => rec w) kx f w) (w : World) (h : Lp0 B w) : wpE P dc kr pan (.loop c) kn kx f0 w := by
  obtain ⟨I, μ, h0, hr⟩ := h
  refine ⟨fun f w => I w ∧ ∀ s, writes s c = false → f s = f0 s, fun f w => μ w, ⟨h0, fun _ _ => rfl⟩, fun f w ⟨hI, hf⟩ => ?_⟩
  exact wpE_mono c (fun f' w' h' => ⟨⟨h'.1.1, fun s hs => by rw [h'.2 s hs, hf s hs]⟩, h'.1.2⟩) (fun i f' w' h' => h'.1) f w (wpE_frame c f w (hb _ f w hf (hr _ hI)))

/-- A loop whose state is 1 values. -/
def Lp1 (B : (Value → World → Prop) → Value → World → Prop) (x0 : Value) (w : World) : Prop :=
  ∃ (I : Value → World → Prop) (μ : Value → World → Nat), I x0 w ∧ ∀ x0 w, I x0 w → B (fun y0 w' => I y0 w' ∧ μ y0 w' < μ x0 w) x0 w
theorem loop1_ok {P : Program} {dc : Nat → List (Nat × Bool)} {kr : Fr → World → Prop} {pan : List PanicEntry → World → Prop} (c : Code) {kn : Fr → World → Prop} {kx : Nat → Fr → World → Prop} (s0 : Nat) (B : (Value → World → Prop) → Value → World → Prop) (f0 : Fr)
    (hb : ∀ rec f w, (∀ s, writes s c = false → f s = f0 s) → B rec (f s0) w → wpE P dc kr pan c (fun f w => rec (f s0) w) kx f w) (w : World) (h : Lp1 B (f0 s0) w) : wpE P dc kr pan (.loop c) kn kx f0 w := by
  obtain ⟨I, μ, h0, hr⟩ := h
  refine ⟨fun f w => I (f s0) w ∧ ∀ s, writes s c = false → f s = f0 s, fun f w => μ (f s0) w, ⟨h0, fun _ _ => rfl⟩, fun f w ⟨hI, hf⟩ => ?_⟩
  exact wpE_mono c (fun f' w' h' => ⟨⟨h'.1.1, fun s hs => by rw [h'.2 s hs, hf s hs]⟩, h'.1.2⟩) (fun i f' w' h' => h'.1) f w (wpE_frame c f w (hb _ f w hf (hr _ _ hI)))

/-- A loop whose state is 2 values. -/
def Lp2 (B : (Value → Value → World → Prop) → Value → Value → World → Prop) (x0 : Value) (x1 : Value) (w : World) : Prop :=
  ∃ (I : Value → Value → World → Prop) (μ : Value → Value → World → Nat), I x0 x1 w ∧ ∀ x0 x1 w, I x0 x1 w → B (fun y0 y1 w' => I y0 y1 w' ∧ μ y0 y1 w' < μ x0 x1 w) x0 x1 w
theorem loop2_ok {P : Program} {dc : Nat → List (Nat × Bool)} {kr : Fr → World → Prop} {pan : List PanicEntry → World → Prop} (c : Code) {kn : Fr → World → Prop} {kx : Nat → Fr → World → Prop} (s0 s1 : Nat) (B : (Value → Value → World → Prop) → Value → Value → World → Prop) (f0 : Fr)
    (hb : ∀ rec f w, (∀ s, writes s c = false → f s = f0 s) → B rec (f s0) (f s1) w → wpE P dc kr pan c (fun f w => rec (f s0) (f s1) w) kx f w) (w : World) (h : Lp2 B (f0 s0) (f0 s1) w) : wpE P dc kr pan (.loop c) kn kx f0 w := by
  obtain ⟨I, μ, h0, hr⟩ := h
  refine ⟨fun f w => I (f s0) (f s1) w ∧ ∀ s, writes s c = false → f s = f0 s, fun f w => μ (f s0) (f s1) w, ⟨h0, fun _ _ => rfl⟩, fun f w ⟨hI, hf⟩ => ?_⟩
  exact wpE_mono c (fun f' w' h' => ⟨⟨h'.1.1, fun s hs => by rw [h'.2 s hs, hf s hs]⟩, h'.1.2⟩) (fun i f' w' h' => h'.1) f w (wpE_frame c f w (hb _ f w hf (hr _ _ _ hI)))

/-- A loop whose state is 3 values. -/
def Lp3 (B : (Value → Value → Value → World → Prop) → Value → Value → Value → World → Prop) (x0 : Value) (x1 : Value) (x2 : Value) (w : World) : Prop :=
  ∃ (I : Value → Value → Value → World → Prop) (μ : Value → Value → Value → World → Nat), I x0 x1 x2 w ∧ ∀ x0 x1 x2 w, I x0 x1 x2 w → B (fun y0 y1 y2 w' => I y0 y1 y2 w' ∧ μ y0 y1 y2 w' < μ x0 x1 x2 w) x0 x1 x2 w
theorem loop3_ok {P : Program} {dc : Nat → List (Nat × Bool)} {kr : Fr → World → Prop} {pan : List PanicEntry → World → Prop} (c : Code) {kn : Fr → World → Prop} {kx : Nat → Fr → World → Prop} (s0 s1 s2 : Nat) (B : (Value → Value → Value → World → Prop) → Value → Value → Value → World → Prop) (f0 : Fr)
    (hb : ∀ rec f w, (∀ s, writes s c = false → f s = f0 s) → B rec (f s0) (f s1) (f s2) w → wpE P dc kr pan c (fun f w => rec (f s0) (f s1) (f s2) w) kx f w) (w : World) (h : Lp3 B (f0 s0) (f0 s1) (f0 s2) w) : wpE P dc kr pan (.loop c) kn kx f0 w := by
  obtain ⟨I, μ, h0, hr⟩ := h
  refine ⟨fun f w => I (f s0) (f s1) (f s2) w ∧ ∀ s, writes s c = false → f s = f0 s, fun f w => μ (f s0) (f s1) (f s2) w, ⟨h0, fun _ _ => rfl⟩, fun f w ⟨hI, hf⟩ => ?_⟩
  exact wpE_mono c (fun f' w' h' => ⟨⟨h'.1.1, fun s hs => by rw [h'.2 s hs, hf s hs]⟩, h'.1.2⟩) (fun i f' w' h' => h'.1) f w (wpE_frame c f w (hb _ f w hf (hr _ _ _ _ hI)))

/-- A loop whose state is 4 values. -/
def Lp4 (B : (Value → Value → Value → Value → World → Prop) → Value → Value → Value → Value → World → Prop) (x0 : Value) (x1 : Value) (x2 : Value) (x3 : Value) (w : World) : Prop :=
  ∃ (I : Value → Value → Value → Value → World → Prop) (μ : Value → Value → Value → Value → World → Nat), I x0 x1 x2 x3 w ∧ ∀ x0 x1 x2 x3 w, I x0 x1 x2 x3 w → B (fun y0 y1 y2 y3 w' => I y0 y1 y2 y3 w' ∧ μ y0 y1 y2 y3 w' < μ x0 x1 x2 x3 w) x0 x1 x2 x3 w
theorem loop4_ok {P : Program} {dc : Nat → List (Nat × Bool)} {kr : Fr → World → Prop} {pan : List PanicEntry → World → Prop} (c : Code) {kn : Fr → World → Prop} {kx : Nat → Fr → World → Prop} (s0 s1 s2 s3 : Nat) (B : (Value → Value → Value → Value → World → Prop) → Value → Value → Value → Value → World → Prop) (f0 : Fr)
    (hb : ∀ rec f w, (∀ s, writes s c = false → f s = f0 s) → B rec (f s0) (f s1) (f s2) (f s3) w → wpE P dc kr pan c (fun f w => rec (f s0) (f s1) (f s2) (f s3) w) kx f w) (w : World) (h : Lp4 B (f0 s0) (f0 s1) (f0 s2) (f0 s3) w) : wpE P dc kr pan (.loop c) kn kx f0 w := by
  obtain ⟨I, μ, h0, hr⟩ := h
  refine ⟨fun f w => I (f s0) (f s1) (f s2) (f s3) w ∧ ∀ s, writes s c = false → f s = f0 s, fun f w => μ (f s0) (f s1) (f s2) (f s3) w, ⟨h0, fun _ _ => rfl⟩, fun f w ⟨hI, hf⟩ => ?_⟩
  exact wpE_mono c (fun f' w' h' => ⟨⟨h'.1.1, fun s hs => by rw [h'.2 s hs, hf s hs]⟩, h'.1.2⟩) (fun i f' w' h' => h'.1) f w (wpE_frame c f w (hb _ f w hf (hr _ _ _ _ _ hI)))

/-- A loop whose state is 5 values. -/
def Lp5 (B : (Value → Value → Value → Value → Value → World → Prop) → Value → Value → Value → Value → Value → World → Prop) (x0 : Value) (x1 : Value) (x2 : Value) (x3 : Value) (x4 : Value) (w : World) : Prop :=
  ∃ (I : Value → Value → Value → Value → Value → World → Prop) (μ : Value → Value → Value → Value → Value → World → Nat), I x0 x1 x2 x3 x4 w ∧ ∀ x0 x1 x2 x3 x4 w, I x0 x1 x2 x3 x4 w → B (fun y0 y1 y2 y3 y4 w' => I y0 y1 y2 y3 y4 w' ∧ μ y0 y1 y2 y3 y4 w' < μ x0 x1 x2 x3 x4 w) x0 x1 x2 x3 x4 w
theorem loop5_ok {P : Program} {dc : Nat → List (Nat × Bool)} {kr : Fr → World → Prop} {pan : List PanicEntry → World → Prop} (c : Code) {kn : Fr → World → Prop} {kx : Nat → Fr → World → Prop} (s0 s1 s2 s3 s4 : Nat) (B : (Value → Value → Value → Value → Value → World → Prop) → Value → Value → Value → Value → Value → World → Prop) (f0 : Fr)
    (hb : ∀ rec f w, (∀ s, writes s c = false → f s = f0 s) → B rec (f s0) (f s1) (f s2) (f s3) (f s4) w → wpE P dc kr pan c (fun f w => rec (f s0) (f s1) (f s2) (f s3) (f s4) w) kx f w) (w : World) (h : Lp5 B (f0 s0) (f0 s1) (f0 s2) (f0 s3) (f0 s4) w) : wpE P dc kr pan (.loop c) kn kx f0 w := by
  obtain ⟨I, μ, h0, hr⟩ := h
  refine ⟨fun f w => I (f s0) (f s1) (f s2) (f s3) (f s4) w ∧ ∀ s, writes s c = false → f s = f0 s, fun f w => μ (f s0) (f s1) (f s2) (f s3) (f s4) w, ⟨h0, fun _ _ => rfl⟩, fun f w ⟨hI, hf⟩ => ?_⟩
  exact wpE_mono c (fun f' w' h' => ⟨⟨h'.1.1, fun s hs => by rw [h'.2 s hs, hf s hs]⟩, h'.1.2⟩) (fun i f' w' h' => h'.1) f w (wpE_frame c f w (hb _ f w hf (hr _ _ _ _ _ _ hI)))

/-- A loop whose state is 6 values. -/
def Lp6 (B : (Value → Value → Value → Value → Value → Value → World → Prop) → Value → Value → Value → Value → Value → Value → World → Prop) (x0 : Value) (x1 : Value) (x2 : Value) (x3 : Value) (x4 : Value) (x5 : Value) (w : World) : Prop :=
  ∃ (I : Value → Value → Value → Value → Value → Value → World → Prop) (μ : Value → Value → Value → Value → Value → Value → World → Nat), I x0 x1 x2 x3 x4 x5 w ∧ ∀ x0 x1 x2 x3 x4 x5 w, I x0 x1 x2 x3 x4 x5 w → B (fun y0 y1 y2 y3 y4 y5 w' => I y0 y1 y2 y3 y4 y5 w' ∧ μ y0 y1 y2 y3 y4 y5 w' < μ x0 x1 x2 x3 x4 x5 w) x0 x1 x2 x3 x4 x5 w
theorem loop6_ok {P : Program} {dc : Nat → List (Nat × Bool)} {kr : Fr → World → Prop} {pan : List PanicEntry → World → Prop} (c : Code) {kn : Fr → World → Prop} {kx : Nat → Fr → World → Prop} (s0 s1 s2 s3 s4 s5 : Nat) (B : (Value → Value → Value → Value → Value → Value → World → Prop) → Value → Value → Value → Value → Value → Value → World → Prop) (f0 : Fr)
    (hb : ∀ rec f w, (∀ s, writes s c = false → f s = f0 s) → B rec (f s0) (f s1) (f s2) (f s3) (f s4) (f s5) w → wpE P dc kr pan c (fun f w => rec (f s0) (f s1) (f s2) (f s3) (f s4) (f s5) w) kx f w) (w : World) (h : Lp6 B (f0 s0) (f0 s1) (f0 s2) (f0 s3) (f0 s4) (f0 s5) w) : wpE P dc kr pan (.loop c) kn kx f0 w := by
  obtain ⟨I, μ, h0, hr⟩ := h
  refine ⟨fun f w => I (f s0) (f s1) (f s2) (f s3) (f s4) (f s5) w ∧ ∀ s, writes s c = false → f s = f0 s, fun f w => μ (f s0) (f s1) (f s2) (f s3) (f s4) (f s5) w, ⟨h0, fun _ _ => rfl⟩, fun f w ⟨hI, hf⟩ => ?_⟩
  exact wpE_mono c (fun f' w' h' => ⟨⟨h'.1.1, fun s hs => by rw [h'.2 s hs, hf s hs]⟩, h'.1.2⟩) (fun i f' w' h' => h'.1) f w (wpE_frame c f w (hb _ f w hf (hr _ _ _ _ _ _ _ hI)))

/-- A loop whose state is 7 values. -/
def Lp7 (B : (Value → Value → Value → Value → Value → Value → Value → World → Prop) → Value → Value → Value → Value → Value → Value → Value → World → Prop) (x0 : Value) (x1 : Value) (x2 : Value) (x3 : Value) (x4 : Value) (x5 : Value) (x6 : Value) (w : World) : Prop :=
  ∃ (I : Value → Value → Value → Value → Value → Value → Value → World → Prop) (μ : Value → Value → Value → Value → Value → Value → Value → World → Nat), I x0 x1 x2 x3 x4 x5 x6 w ∧ ∀ x0 x1 x2 x3 x4 x5 x6 w, I x0 x1 x2 x3 x4 x5 x6 w → B (fun y0 y1 y2 y3 y4 y5 y6 w' => I y0 y1 y2 y3 y4 y5 y6 w' ∧ μ y0 y1 y2 y3 y4 y5 y6 w' < μ x0 x1 x2 x3 x4 x5 x6 w) x0 x1 x2 x3 x4 x5 x6 w
theorem loop7_ok {P : Program} {dc : Nat → List (Nat × Bool)} {kr : Fr → World → Prop} {pan : List PanicEntry → World → Prop} (c : Code) {kn : Fr → World → Prop} {kx : Nat → Fr → World → Prop} (s0 s1 s2 s3 s4 s5 s6 : Nat) (B : (Value → Value → Value → Value → Value → Value → Value → World → Prop) → Value → Value → Value → Value → Value → Value → Value → World → Prop) (f0 : Fr)
    (hb : ∀ rec f w, (∀ s, writes s c = false → f s = f0 s) → B rec (f s0) (f s1) (f s2) (f s3) (f s4) (f s5) (f s6) w → wpE P dc kr pan c (fun f w => rec (f s0) (f s1) (f s2) (f s3) (f s4) (f s5) (f s6) w) kx f w) (w : World) (h : Lp7 B (f0 s0) (f0 s1) (f0 s2) (f0 s3) (f0 s4) (f0 s5) (f0 s6) w) : wpE P dc kr pan (.loop c) kn kx f0 w := by
  obtain ⟨I, μ, h0, hr⟩ := h
  refine ⟨fun f w => I (f s0) (f s1) (f s2) (f s3) (f s4) (f s5) (f s6) w ∧ ∀ s, writes s c = false → f s = f0 s, fun f w => μ (f s0) (f s1) (f s2) (f s3) (f s4) (f s5) (f s6) w, ⟨h0, fun _ _ => rfl⟩, fun f w ⟨hI, hf⟩ => ?_⟩
  exact wpE_mono c (fun f' w' h' => ⟨⟨h'.1.1, fun s hs => by rw [h'.2 s hs, hf s hs]⟩, h'.1.2⟩) (fun i f' w' h' => h'.1) f w (wpE_frame c f w (hb _ f w hf (hr _ _ _ _ _ _ _ _ hI)))

/-- A loop whose state is 8 values. -/
def Lp8 (B : (Value → Value → Value → Value → Value → Value → Value → Value → World → Prop) → Value → Value → Value → Value → Value → Value → Value → Value → World → Prop) (x0 : Value) (x1 : Value) (x2 : Value) (x3 : Value) (x4 : Value) (x5 : Value) (x6 : Value) (x7 : Value) (w : World) : Prop :=
  ∃ (I : Value → Value → Value → Value → Value → Value → Value → Value → World → Prop) (μ : Value → Value → Value → Value → Value → Value → Value → Value → World → Nat), I x0 x1 x2 x3 x4 x5 x6 x7 w ∧ ∀ x0 x1 x2 x3 x4 x5 x6 x7 w, I x0 x1 x2 x3 x4 x5 x6 x7 w → B (fun y0 y1 y2 y3 y4 y5 y6 y7 w' => I y0 y1 y2 y3 y4 y5 y6 y7 w' ∧ μ y0 y1 y2 y3 y4 y5 y6 y7 w' < μ x0 x1 x2 x3 x4 x5 x6 x7 w) x0 x1 x2 x3 x4 x5 x6 x7 w
theorem loop8_ok {P : Program} {dc : Nat → List (Nat × Bool)} {kr : Fr → World → Prop} {pan : List PanicEntry → World → Prop} (c : Code) {kn : Fr → World → Prop} {kx : Nat → Fr → World → Prop} (s0 s1 s2 s3 s4 s5 s6 s7 : Nat) (B : (Value → Value → Value → Value → Value → Value → Value → Value → World → Prop) → Value → Value → Value → Value → Value → Value → Value → Value → World → Prop) (f0 : Fr)
    (hb : ∀ rec f w, (∀ s, writes s c = false → f s = f0 s) → B rec (f s0) (f s1) (f s2) (f s3) (f s4) (f s5) (f s6) (f s7) w → wpE P dc kr pan c (fun f w => rec (f s0) (f s1) (f s2) (f s3) (f s4) (f s5) (f s6) (f s7) w) kx f w) (w : World) (h : Lp8 B (f0 s0) (f0 s1) (f0 s2) (f0 s3) (f0 s4) (f0 s5) (f0 s6) (f0 s7) w) : wpE P dc kr pan (.loop c) kn kx f0 w := by
  obtain ⟨I, μ, h0, hr⟩ := h
  refine ⟨fun f w => I (f s0) (f s1) (f s2) (f s3) (f s4) (f s5) (f s6) (f s7) w ∧ ∀ s, writes s c = false → f s = f0 s, fun f w => μ (f s0) (f s1) (f s2) (f s3) (f s4) (f s5) (f s6) (f s7) w, ⟨h0, fun _ _ => rfl⟩, fun f w ⟨hI, hf⟩ => ?_⟩
  exact wpE_mono c (fun f' w' h' => ⟨⟨h'.1.1, fun s hs => by rw [h'.2 s hs, hf s hs]⟩, h'.1.2⟩) (fun i f' w' h' => h'.1) f w (wpE_frame c f w (hb _ f w hf (hr _ _ _ _ _ _ _ _ _ hI)))

attribute [irreducible] wpE U UU UN uv uu un

/-! ### Short words for the printed readings -/
abbrev KX := Nat → Fr → World → Prop
abbrev KF := Fr → World → Prop
abbrev OkW (W : Code → KF → KX → Fr → World → Prop) (A : KF) (c : Code) (K : KF) (X : KX) : Prop := ∀ f w, A f w → W c K X f w
abbrev V0 := World → Prop
abbrev RT := Ending → World → Prop
abbrev V1 := Value → V0
abbrev V2 := Value → V1
abbrev V3 := Value → V2
abbrev V4 := Value → V3
abbrev V5 := Value → V4
abbrev V6 := Value → V5
abbrev V7 := Value → V6
abbrev V8 := Value → V7
abbrev V9 := Value → V8
abbrev V10 := Value → V9
abbrev V11 := Value → V10
abbrev V12 := Value → V11
abbrev V13 := Value → V12
abbrev V14 := Value → V13
abbrev V15 := Value → V14
abbrev V16 := Value → V15
abbrev V17 := Value → V16
abbrev V18 := Value → V17
abbrev V19 := Value → V18
abbrev V20 := Value → V19
abbrev V21 := Value → V20
abbrev V22 := Value → V21
abbrev V23 := Value → V22
abbrev V24 := Value → V23
abbrev a1 (g : V1) (i0 : Nat) : KF := fun f w => g (f i0) w
abbrev a2 (g : V2) (i0 i1 : Nat) : KF := fun f w => g (f i0) (f i1) w
abbrev a3 (g : V3) (i0 i1 i2 : Nat) : KF := fun f w => g (f i0) (f i1) (f i2) w
abbrev a4 (g : V4) (i0 i1 i2 i3 : Nat) : KF := fun f w => g (f i0) (f i1) (f i2) (f i3) w
abbrev a5 (g : V5) (i0 i1 i2 i3 i4 : Nat) : KF := fun f w => g (f i0) (f i1) (f i2) (f i3) (f i4) w
abbrev a6 (g : V6) (i0 i1 i2 i3 i4 i5 : Nat) : KF := fun f w => g (f i0) (f i1) (f i2) (f i3) (f i4) (f i5) w
abbrev a7 (g : V7) (i0 i1 i2 i3 i4 i5 i6 : Nat) : KF := fun f w => g (f i0) (f i1) (f i2) (f i3) (f i4) (f i5) (f i6) w
abbrev a8 (g : V8) (i0 i1 i2 i3 i4 i5 i6 i7 : Nat) : KF := fun f w => g (f i0) (f i1) (f i2) (f i3) (f i4) (f i5) (f i6) (f i7) w
abbrev a9 (g : V9) (i0 i1 i2 i3 i4 i5 i6 i7 i8 : Nat) : KF := fun f w => g (f i0) (f i1) (f i2) (f i3) (f i4) (f i5) (f i6) (f i7) (f i8) w
abbrev a10 (g : V10) (i0 i1 i2 i3 i4 i5 i6 i7 i8 i9 : Nat) : KF := fun f w => g (f i0) (f i1) (f i2) (f i3) (f i4) (f i5) (f i6) (f i7) (f i8) (f i9) w
abbrev a11 (g : V11) (i0 i1 i2 i3 i4 i5 i6 i7 i8 i9 i10 : Nat) : KF := fun f w => g (f i0) (f i1) (f i2) (f i3) (f i4) (f i5) (f i6) (f i7) (f i8) (f i9) (f i10) w
abbrev a12 (g : V12) (i0 i1 i2 i3 i4 i5 i6 i7 i8 i9 i10 i11 : Nat) : KF := fun f w => g (f i0) (f i1) (f i2) (f i3) (f i4) (f i5) (f i6) (f i7) (f i8) (f i9) (f i10) (f i11) w
abbrev a13 (g : V13) (i0 i1 i2 i3 i4 i5 i6 i7 i8 i9 i10 i11 i12 : Nat) : KF := fun f w => g (f i0) (f i1) (f i2) (f i3) (f i4) (f i5) (f i6) (f i7) (f i8) (f i9) (f i10) (f i11) (f i12) w
abbrev a14 (g : V14) (i0 i1 i2 i3 i4 i5 i6 i7 i8 i9 i10 i11 i12 i13 : Nat) : KF := fun f w => g (f i0) (f i1) (f i2) (f i3) (f i4) (f i5) (f i6) (f i7) (f i8) (f i9) (f i10) (f i11) (f i12) (f i13) w
abbrev a15 (g : V15) (i0 i1 i2 i3 i4 i5 i6 i7 i8 i9 i10 i11 i12 i13 i14 : Nat) : KF := fun f w => g (f i0) (f i1) (f i2) (f i3) (f i4) (f i5) (f i6) (f i7) (f i8) (f i9) (f i10) (f i11) (f i12) (f i13) (f i14) w
abbrev a16 (g : V16) (i0 i1 i2 i3 i4 i5 i6 i7 i8 i9 i10 i11 i12 i13 i14 i15 : Nat) : KF := fun f w => g (f i0) (f i1) (f i2) (f i3) (f i4) (f i5) (f i6) (f i7) (f i8) (f i9) (f i10) (f i11) (f i12) (f i13) (f i14) (f i15) w
abbrev a17 (g : V17) (i0 i1 i2 i3 i4 i5 i6 i7 i8 i9 i10 i11 i12 i13 i14 i15 i16 : Nat) : KF := fun f w => g (f i0) (f i1) (f i2) (f i3) (f i4) (f i5) (f i6) (f i7) (f i8) (f i9) (f i10) (f i11) (f i12) (f i13) (f i14) (f i15) (f i16) w
abbrev a18 (g : V18) (i0 i1 i2 i3 i4 i5 i6 i7 i8 i9 i10 i11 i12 i13 i14 i15 i16 i17 : Nat) : KF := fun f w => g (f i0) (f i1) (f i2) (f i3) (f i4) (f i5) (f i6) (f i7) (f i8) (f i9) (f i10) (f i11) (f i12) (f i13) (f i14) (f i15) (f i16) (f i17) w
abbrev a19 (g : V19) (i0 i1 i2 i3 i4 i5 i6 i7 i8 i9 i10 i11 i12 i13 i14 i15 i16 i17 i18 : Nat) : KF := fun f w => g (f i0) (f i1) (f i2) (f i3) (f i4) (f i5) (f i6) (f i7) (f i8) (f i9) (f i10) (f i11) (f i12) (f i13) (f i14) (f i15) (f i16) (f i17) (f i18) w
abbrev a20 (g : V20) (i0 i1 i2 i3 i4 i5 i6 i7 i8 i9 i10 i11 i12 i13 i14 i15 i16 i17 i18 i19 : Nat) : KF := fun f w => g (f i0) (f i1) (f i2) (f i3) (f i4) (f i5) (f i6) (f i7) (f i8) (f i9) (f i10) (f i11) (f i12) (f i13) (f i14) (f i15) (f i16) (f i17) (f i18) (f i19) w
abbrev a21 (g : V21) (i0 i1 i2 i3 i4 i5 i6 i7 i8 i9 i10 i11 i12 i13 i14 i15 i16 i17 i18 i19 i20 : Nat) : KF := fun f w => g (f i0) (f i1) (f i2) (f i3) (f i4) (f i5) (f i6) (f i7) (f i8) (f i9) (f i10) (f i11) (f i12) (f i13) (f i14) (f i15) (f i16) (f i17) (f i18) (f i19) (f i20) w
abbrev a22 (g : V22) (i0 i1 i2 i3 i4 i5 i6 i7 i8 i9 i10 i11 i12 i13 i14 i15 i16 i17 i18 i19 i20 i21 : Nat) : KF := fun f w => g (f i0) (f i1) (f i2) (f i3) (f i4) (f i5) (f i6) (f i7) (f i8) (f i9) (f i10) (f i11) (f i12) (f i13) (f i14) (f i15) (f i16) (f i17) (f i18) (f i19) (f i20) (f i21) w
abbrev a23 (g : V23) (i0 i1 i2 i3 i4 i5 i6 i7 i8 i9 i10 i11 i12 i13 i14 i15 i16 i17 i18 i19 i20 i21 i22 : Nat) : KF := fun f w => g (f i0) (f i1) (f i2) (f i3) (f i4) (f i5) (f i6) (f i7) (f i8) (f i9) (f i10) (f i11) (f i12) (f i13) (f i14) (f i15) (f i16) (f i17) (f i18) (f i19) (f i20) (f i21) (f i22) w
abbrev a24 (g : V24) (i0 i1 i2 i3 i4 i5 i6 i7 i8 i9 i10 i11 i12 i13 i14 i15 i16 i17 i18 i19 i20 i21 i22 i23 : Nat) : KF := fun f w => g (f i0) (f i1) (f i2) (f i3) (f i4) (f i5) (f i6) (f i7) (f i8) (f i9) (f i10) (f i11) (f i12) (f i13) (f i14) (f i15) (f i16) (f i17) (f i18) (f i19) (f i20) (f i21) (f i22) (f i23) w
end Go.Sx
