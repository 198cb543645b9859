/- Maps, read as association lists in the order of their entries; and what the operations on them do. -/
import Derived.Test.YtpghlemcgjogpaaGreatSxo
set_option linter.unusedVariables false
set_option linter.unusedSimpArgs false
namespace Go.Sx

/-- A kind of keys: how a key stands as a value; what the model's own tests say of two of them. -/
structure KeyK (P : Program) (kt : TypeId) (κ : Type) [DecidableEq κ] where
  vk : κ → Value
  desc : TypeDesc
  und : P.underlying kt = some desc
  same : ∀ a b, Instr.sameNow desc (vk a) (vk b) = some (decide (a = b))
  bits : ∀ a n, Instr.sameBits (n + 1) (vk a) (vk a) = true
  chk : ∀ e n w a, (Instr.checkKey e (n + 1) kt (vk a)).run P w = .ok () w

def keyI {P : Program} {kt : TypeId} (h : P.underlying kt = some (.int .i64)) : KeyK P kt Int where
  vk a := .int .i64 a
  desc := .int .i64
  und := h
  same a b := by
    simp only [Instr.sameNow, if_true]
    congr 1
  bits a n := by simp [Instr.sameBits]
  chk e n w a := by simp [Instr.checkKey, underlying, h]
theorem keyI_vk {P : Program} {kt : TypeId} {h : P.underlying kt = some (.int .i64)} {a : Int} : (keyI h).vk a = .int .i64 a := rfl
theorem bytes_beq (a b : ByteArray) : (a == b) = decide (a = b) := by
  rw [Bool.eq_iff_iff, decide_eq_true_eq]
  constructor
  · intro h
    cases a with
    | mk a => cases b with
      | mk b =>
        have : (a == b) = true := h
        simpa using this
  · rintro rfl
    cases a with
    | mk a => show (a == a) = true; simp
def keyS {P : Program} {kt : TypeId} (h : P.underlying kt = some .string) : KeyK P kt ByteArray where
  vk a := .string a
  desc := .string
  und := h
  same a b := by simp only [Instr.sameNow, bytes_beq]
  bits a n := by simp [Instr.sameBits, bytes_beq]
  chk e n w a := by simp [Instr.checkKey, underlying, h]

theorem keyS_vk {P : Program} {kt : TypeId} {h : P.underlying kt = some .string} {a : ByteArray} : (keyS h).vk a = .string a := rfl

section
variable {κ : Type} [DecidableEq κ]
def aget (l : List (κ × Value)) (k : κ) : Option Value :=
  match l with
  | [] => none
  | p :: l => if p.1 = k then some p.2 else aget l k
def aset (l : List (κ × Value)) (k : κ) (v : Value) : List (κ × Value) :=
  match l with
  | [] => [(k, v)]
  | p :: l => if p.1 = k then (k, v) :: l else p :: aset l k v
def adel (l : List (κ × Value)) (k : κ) : List (κ × Value) :=
  match l with
  | [] => []
  | p :: l => if p.1 = k then l else p :: adel l k
end

section
variable {P : Program} {kt : TypeId} {κ : Type} [DecidableEq κ] (K : KeyK P kt κ)

/-- The block of a map reads as l. -/
def MapK (o : Option Obj) (l : List (κ × Value)) : Prop :=
  ∃ es clock, o = some (.map es clock) ∧ es.toList.map (fun e => (e.key, e.val)) = l.map (fun p => (K.vk p.1, p.2)) ∧ es.toList.Pairwise (fun a b => a.born < b.born) ∧ ∀ e ∈ es.toList, e.born < clock

theorem MapK.made {w : World} : MapK K ((World.add w (.map #[] 0)).heap[w.heap.size]?) [] := ⟨#[], 0, add_new, by simp, by simp, by simp⟩
theorem MapK.empty : MapK K (some (.map #[] 0)) [] := ⟨#[], 0, rfl, by simp, by simp, by simp⟩

theorem findNow_at (l : List (κ × Value)) (k : κ) : ∀ (es : List MapEntry) (i : Nat), es.map (fun e => (e.key, e.val)) = l.map (fun p => (K.vk p.1, p.2)) →
    ∃ r, Instr.findNow K.desc (K.vk k) es i = some r ∧ r.map (·.2) = aget l k ∧ (∀ j v, r = some (j, v) → i ≤ j ∧ ∃ e, es[j - i]? = some e ∧ e.key = K.vk k ∧ ∀ v', (es.modify (j - i) fun e => { e with key := K.vk k, val := v' }).map (fun e => (e.key, e.val)) = (aset l k v').map (fun p => (K.vk p.1, p.2)))
      ∧ (∀ j v, r = some (j, v) → (es.eraseIdx (j - i)).map (fun e => (e.key, e.val)) = (adel l k).map (fun p => (K.vk p.1, p.2))) ∧ (r = none → (∀ v', aset l k v' = l ++ [(k, v')]) ∧ adel l k = l) := by
  induction l with
  | nil =>
    intro es i h
    cases es with
    | nil => exact ⟨none, rfl, rfl, by simp, by simp, by simp [aset, adel]⟩
    | cons e es => simp at h
  | cons p l ih =>
    intro es i h
    cases es with
    | nil => simp at h
    | cons e es =>
      simp only [List.map_cons, List.cons.injEq, Prod.mk.injEq] at h
      obtain ⟨⟨h1, h2⟩, h3⟩ := h
      simp only [Instr.findNow, h1, K.same]
      by_cases e1 : p.1 = k
      · have e2 : k = p.1 := e1.symm
        simp only [e2, decide_true]
        refine ⟨some (i, e.val), rfl, by simp [aget, h2], ?_, ?_, by simp⟩
        · intro j v hj
          simp only [Option.some.injEq, Prod.mk.injEq] at hj
          obtain ⟨rfl, _⟩ := hj
          refine ⟨Nat.le_refl _, e, by simp, h1, fun v' => ?_⟩
          simp [aset, h3]
        · intro j v hj
          simp only [Option.some.injEq, Prod.mk.injEq] at hj
          obtain ⟨rfl, _⟩ := hj
          simp [adel, h3]
      · have e2 : ¬ k = p.1 := fun h => e1 h.symm
        simp only [e2, decide_false]
        obtain ⟨r, hr, hg, hs, hd, hn⟩ := ih es (i + 1) h3
        refine ⟨r, hr, by simp [aget, e1, hg], ?_, ?_, ?_⟩
        · intro j v hj
          obtain ⟨hle, e', he', hk, hm⟩ := hs j v hj
          have ej : j - i = (j - (i + 1)) + 1 := by omega
          refine ⟨by omega, e', by rw [ej]; simpa using he', hk, fun v' => ?_⟩
          rw [ej]
          simp [aset, e1, h1, h2, hm v']
        · intro j v hj
          have hle := (hs j v hj).1
          have ej : j - i = (j - (i + 1)) + 1 := by omega
          rw [ej]
          simp [adel, e1, h1, h2, hd j v hj]
        · intro h0
          obtain ⟨ha, hb⟩ := hn h0
          exact ⟨fun v' => by simp [aset, e1, ha v'], by simp [adel, e1, hb]⟩

theorem run_findKey {w : World} {k : κ} {es : List MapEntry} {r : Option (Nat × Value)} (h : Instr.findNow K.desc (K.vk k) es 0 = some r) : (Instr.findKey kt (K.vk k) es).run P w = .ok r w := by
  simp [Instr.findKey, underlying, K.und, h]

theorem run_lookupK {w : World} {mt et b : Nat} {k : κ} {l : List (κ × Value)} {z : Value} (hm : P.underlying mt = some (.map kt et)) (hz : (P.info? et).map (·.zero) = some (some z)) (h : MapK K (w.heap[b]?) l) (c : Bool) :
    (Instr.lookup mt (.map (some b)) (K.vk k) c).run P w = .ok (if c then .tuple #[(aget l k).getD z, .bool (aget l k).isSome] else (aget l k).getD z) w := by
  obtain ⟨es, clock, hb, hes, _⟩ := h
  obtain ⟨r, hr, hg, _⟩ := findNow_at K l k es.toList 0 hes
  obtain ⟨inf, hi, hz'⟩ := Option.map_eq_some_iff.1 hz
  have hk := run_findKey (w := w) K hr
  have hc := K.chk es.isEmpty 9999 w k
  have hgo : (getObj b).run P w = .ok (.map es clock) w := by simp [getObj, Sem.run, hb]
  have hzv : (zeroValue et).run P w = .ok z w := by simp [zeroValue, typeInfo, hi, hz']
  simp only [Instr.lookup, underlying, Sem.run_bind, hm, hgo, hc, hk, Result.andThen_ok, Sem.run_pure]
  rw [← hg]
  cases r with
  | none => cases c <;> simp [hm, hgo, hc, hk, hzv]
  | some p => cases c <;> simp [hm, hgo, hc, hk]

theorem run_getMap {w : World} {b clock : Nat} {es : Array MapEntry} (hb : w.heap[b]? = some (.map es clock)) : (getObj b).run P w = .ok (.map es clock) w := by simp [getObj, Sem.run, hb]
theorem run_setMap {w : World} {b clock : Nat} {es : Array MapEntry} {o : Obj} (hb : w.heap[b]? = some (.map es clock)) : (setObj b o).run P w = .ok () (World.put w b o) := by simp [setObj, Sem.run, hb, World.put]

theorem run_updateK {w : World} {mt et b : Nat} {k : κ} {l : List (κ × Value)} {v : Value} (hm : P.underlying mt = some (.map kt et)) (h : MapK K (w.heap[b]?) l) :
    ∃ o, (Instr.mapUpdate mt (.map (some b)) (K.vk k) v).run P w = .ok () (World.put w b o) ∧ MapK K (some o) (aset l k v) := by
  obtain ⟨es, clock, hb, hes, hp, hc⟩ := h
  obtain ⟨r, hr, hg, hs, hd, hn⟩ := findNow_at K l k es.toList 0 hes
  have hk := run_findKey (w := w) K hr
  have hch := K.chk false 9999 w k
  have hgo := run_getMap (P := P) hb
  cases r with
  | none =>
    refine ⟨.map (es.push { key := K.vk k, val := v, born := clock }) (clock + 1), ?_, _, _, rfl, ?_, ?_, ?_⟩
    · simp only [Instr.mapUpdate, underlying, Sem.run_bind]
      simp [hm, hgo, hch, hk, run_setMap (P := P) hb]
    · simp [(hn rfl).1 v, hes]
    · simp only [Array.toList_push]
      exact List.pairwise_append.2 ⟨hp, by simp, fun a ha b hb => by
        simp only [List.mem_singleton] at hb
        subst hb
        exact hc a ha⟩
    · intro e he
      simp only [Array.toList_push, List.mem_append, List.mem_singleton] at he
      rcases he with he | rfl
      · exact Nat.lt_succ_of_lt (hc e he)
      · exact Nat.lt_succ_self _
  | some p =>
    obtain ⟨j, u⟩ := p
    obtain ⟨_, e, he, hke, hm'⟩ := hs j u rfl
    simp only [Nat.sub_zero] at he hm'
    have he' : es[j]? = some e := by rw [← Array.getElem?_toList]; exact he
    refine ⟨.map (es.modify j fun e => { e with key := K.vk k, val := v }) clock, ?_, _, _, rfl, ?_, ?_, ?_⟩
    · simp only [Instr.mapUpdate, underlying, Sem.run_bind]
      have hst : (Instr.keyThatStays e.key (K.vk k)).run P w = .ok (K.vk k) w := by
        rw [hke]; simp [Instr.keyThatStays, K.bits k 9999]
      simp [hm, hgo, hch, hk, he', hst, run_setMap (P := P) hb]
    · simp only [Array.toList_modify]; exact hm' v
    · rw [Array.toList_modify, ← List.pairwise_map (f := MapEntry.born) (R := (· < ·))]
      rw [← List.pairwise_map (f := MapEntry.born) (R := (· < ·))] at hp
      have : (es.toList.modify j fun e => { e with key := K.vk k, val := v }).map MapEntry.born = es.toList.map MapEntry.born := by
        apply List.ext_getElem?
        intro i
        simp only [List.getElem?_map, List.getElem?_modify]
        cases es.toList[i]? <;> simp
        split <;> rfl
      rw [this]; exact hp
    · intro x hx
      rw [Array.toList_modify] at hx
      obtain ⟨i, hi⟩ := List.mem_iff_getElem?.1 hx
      rw [List.getElem?_modify] at hi
      cases hy : es.toList[i]? with
      | none => simp [hy] at hi
      | some y =>
        have := hc y (List.mem_of_getElem? hy)
        simp only [hy, Option.map_eq_map, Option.map_some, Option.some.injEq] at hi
        split at hi <;> (subst hi; exact this)

theorem run_deleteK {w : World} {mt et b : Nat} {k : κ} {l : List (κ × Value)} {ty : TypeId} (hm : P.underlying mt = some (.map kt et)) (h : MapK K (w.heap[b]?) l) :
    ∃ o, (Builtin.delete_ #[mt, kt] ty #[.map (some b), K.vk k]).run P w = .ok (.tuple #[]) (World.put w b o) ∧ MapK K (some o) (adel l k) := by
  obtain ⟨es, clock, hb, hes, hp, hc⟩ := h
  obtain ⟨r, hr, hg, hs, hd, hn⟩ := findNow_at K l k es.toList 0 hes
  have hk := run_findKey (w := w) K hr
  have hch := K.chk es.isEmpty 9999 w k
  have hgo := run_getMap (P := P) hb
  cases r with
  | none =>
    refine ⟨.map es clock, ?_, _, _, rfl, ?_, hp, hc⟩
    · simp only [Builtin.delete_, underlying, Sem.run_bind]
      simp [hm, hgo, hch, hk, run_setMap (P := P) hb]
    · rw [(hn rfl).2]; exact hes
  | some p =>
    obtain ⟨j, u⟩ := p
    have hd' := hd j u rfl
    simp only [Nat.sub_zero] at hd'
    have hl : (es.eraseIdxIfInBounds j).toList = es.toList.eraseIdx j := by simp
    refine ⟨.map (es.eraseIdxIfInBounds j) clock, ?_, _, _, rfl, ?_, ?_, ?_⟩
    · simp only [Builtin.delete_, underlying, Sem.run_bind]
      simp [hm, hgo, hch, hk, run_setMap (P := P) hb]
    · rw [hl]; exact hd'
    · rw [hl]; exact hp.sublist (List.eraseIdx_sublist ..)
    · rw [hl]; exact fun e he => hc e ((List.eraseIdx_sublist ..).subset he)

/-- An iterator over the map at b: what it has still to come by. -/
def IterK (w : World) (r b : Nat) (todo : List (κ × Value)) : Prop :=
  ∃ es clock seen, w.heap[b]? = some (.map es clock) ∧ w.heap[r]? = some (.mapIter (some b) clock seen clock) ∧ (∀ e ∈ es.toList, e.born < clock) ∧ es.toList.Pairwise (fun a b => a.born < b.born) ∧
    (es.toList.filter fun e => !seen.contains e.born).map (fun e => (e.key, e.val)) = todo.map (fun p => (K.vk p.1, p.2))
/-- .. and what it came by last. -/
def CurK (w : World) (r b : Nat) (p : κ × Value) : Prop :=
  ∃ es clock seen e, w.heap[b]? = some (.map es clock) ∧ w.heap[r]? = some (.mapIter (some b) clock seen clock) ∧ seen.back? = some e.born ∧ es.find? (fun x => x.born == e.born) = some e ∧ e.key = K.vk p.1 ∧ e.val = p.2

theorem run_rangeK {w : World} {mt et b : Nat} {l : List (κ × Value)} (hm : P.underlying mt = some (.map kt et)) (h : MapK K (w.heap[b]?) l) :
    ∃ o, (Instr.range mt (.map (some b))).run P w = .ok (.pointer (some ⟨w.heap.size, 0, none⟩)) (World.add w o) ∧ IterK K (World.add w o) w.heap.size b l := by
  obtain ⟨es, clock, hb, hes, hp, hc⟩ := h
  refine ⟨.mapIter (some b) clock #[] clock, ?_, es, clock, #[], ?_, add_new, hc, hp, ?_⟩
  · simp [Instr.range, underlying, hm, run_getMap (P := P) hb, newObj, Sem.run, World.add, go_sem]
  · rw [add_old (by simp [hb]), hb]
  · rw [List.filter_eq_self.2 (fun x _ => by simp)]; exact hes


theorem run_next_over {w : World} {r b : Nat} {ty : TypeId} (h : IterK K w r b []) : (Instr.next (.pointer (some ⟨r, 0, none⟩)) false ty).run P w = .ok (.tuple #[.bool false]) w := by
  obtain ⟨es, clock, seen, hb, hr, hc, hp, hf⟩ := h
  have hg1 : (getObj r).run P w = .ok (.mapIter (some b) clock seen clock) w := by simp [getObj, Sem.run, hr]
  have hg2 := run_getMap (P := P) hb
  have hnil : es.toList.filter (fun e => !seen.contains e.born) = [] := by simpa using hf
  have hleft : es.filter (fun e => !seen.contains e.born) = #[] := by apply Array.toList_inj.1; rw [Array.toList_filter, hnil]
  have hbad : (!seen.isEmpty && !es.isEmpty && es.all (·.born ≥ clock)) = false := by
    rw [Bool.eq_false_iff]
    intro hh
    simp only [Bool.and_eq_true, Bool.not_eq_true', Array.all_eq_true_iff_forall_mem, decide_eq_true_eq] at hh
    obtain ⟨⟨_, hne⟩, hall⟩ := hh
    have : es.toList ≠ [] := by intro he; have : es = #[] := Array.toList_inj.1 he; simp [this] at hne
    obtain ⟨x, hx⟩ := List.exists_mem_of_ne_nil _ this
    have h1 := hall x (Array.mem_toList_iff.1 hx)
    have h2 := hc x hx
    omega
  simp only [Instr.next, Sem.run_bind, hg1, hg2, Result.andThen_ok]
  rw [hbad]
  simp only [Bool.false_eq_true, if_false, hleft]
  simp [choose, Sem.run, Question.forced]
theorem map_eraseIdx' {α β : Type} (f : α → β) : ∀ (l : List α) (i : Nat), (l.eraseIdx i).map f = (l.map f).eraseIdx i
  | [], i => by simp
  | a :: l, 0 => by simp
  | a :: l, i + 1 => by simp [map_eraseIdx' f l i]
theorem find_born : ∀ (l : List MapEntry) (e : MapEntry), l.Pairwise (fun a b => a.born < b.born) → e ∈ l → l.find? (fun x => x.born == e.born) = some e
  | [], e, _, h => by cases h
  | a :: l, e, hp, h => by
    obtain ⟨h1, h2⟩ := List.pairwise_cons.1 hp
    rcases List.mem_cons.1 h with rfl | h
    · simp
    · have := h1 e h
      have hne : (a.born == e.born) = false := by simp; omega
      rw [List.find?_cons, hne]
      exact find_born l e h2 h

theorem filter_ne_eraseIdx : ∀ (l : List MapEntry) (i : Nat) (e : MapEntry), l.Pairwise (fun a b => a.born < b.born) → l[i]? = some e → l.filter (fun x => x.born != e.born) = l.eraseIdx i
  | [], i, e, _, h => by simp at h
  | a :: l, 0, e, hp, h => by
    simp only [List.getElem?_cons_zero, Option.some.injEq] at h
    subst h
    obtain ⟨h1, h2⟩ := List.pairwise_cons.1 hp
    simp only [List.filter_cons, bne_self_eq_false, Bool.false_eq_true, if_false, List.eraseIdx_cons_zero]
    exact List.filter_eq_self.2 fun x hx => by have := h1 x hx; simp; omega
  | a :: l, i + 1, e, hp, h => by
    obtain ⟨h1, h2⟩ := List.pairwise_cons.1 hp
    simp only [List.getElem?_cons_succ] at h
    have := h1 e (List.mem_of_getElem? h)
    have hne : (a.born != e.born) = true := by simp; omega
    simp only [List.filter_cons, hne, if_true, List.eraseIdx_cons_succ]
    rw [filter_ne_eraseIdx l i e h2 h]

theorem run_next_some {w : World} {r b : Nat} {ty : TypeId} {todo : List (κ × Value)} (hne : todo ≠ []) (hrb : r ≠ b) (h : IterK K w r b todo) :
    ∃ i p o w0, todo[i]? = some p ∧ (w0 = w ∨ w0 = w.drew) ∧ (Instr.next (.pointer (some ⟨r, 0, none⟩)) false ty).run P w = .ok (.tuple #[.bool true, K.vk p.1, p.2]) (World.put w0 r o) ∧
      IterK K (World.put w0 r o) r b (todo.eraseIdx i) ∧ CurK K (World.put w0 r o) r b p := by
  obtain ⟨es, clock, seen, hb, hr, hc, hp, hf⟩ := h
  have hg1 : (getObj r).run P w = .ok (.mapIter (some b) clock seen clock) w := by simp [getObj, Sem.run, hr]
  have hg2 := run_getMap (P := P) hb
  have hbad : (!seen.isEmpty && !es.isEmpty && es.all (·.born ≥ clock)) = false := by
    rw [Bool.eq_false_iff]
    intro hh
    simp only [Bool.and_eq_true, Bool.not_eq_true', Array.all_eq_true_iff_forall_mem, decide_eq_true_eq] at hh
    obtain ⟨⟨_, hne⟩, hall⟩ := hh
    have : es.toList ≠ [] := by intro he; have : es = #[] := Array.toList_inj.1 he; simp [this] at hne
    obtain ⟨x, hx⟩ := List.exists_mem_of_ne_nil _ this
    have h1 := hall x (Array.mem_toList_iff.1 hx)
    have h2 := hc x hx
    omega
  generalize hL : es.filter (fun e => !seen.contains e.born) = L at *
  have hLl : L.toList = es.toList.filter (fun e => !seen.contains e.born) := by rw [← hL]; simp
  have hold : L.filter (fun e => decide (e.born < clock)) = L := by
    apply Array.toList_inj.1
    simp only [Array.toList_filter]
    exact List.filter_eq_self.2 fun x hx => by
      rw [hLl] at hx
      simpa using hc x (List.mem_filter.1 hx).1
  have hnew : L.filter (fun e => decide (e.born ≥ clock)) = #[] := by
    apply Array.toList_inj.1
    simp only [Array.toList_filter]
    refine List.filter_eq_nil_iff.2 fun x hx => ?_
    rw [hLl] at hx
    have := hc x (List.mem_filter.1 hx).1
    simp; omega
  have hlen : L.size = todo.length := by
    have := congrArg List.length hf
    rw [← Array.length_toList, hLl]
    simpa using this
  have hpos : 0 < L.size := by rw [hlen]; exact List.length_pos_iff.2 hne
  have hempty : L.isEmpty = false := by simp; intro h0; rw [h0] at hpos; simp at hpos
  -- whichever is chosen
  have key : ∀ i (hi : i < L.size) (w0 : World), (w0 = w ∨ w0 = w.drew) →
      ∃ p, todo[i]? = some p ∧ L[i].key = K.vk p.1 ∧ L[i].val = p.2 ∧ IterK K (World.put w0 r (.mapIter (some b) clock (seen.push L[i].born) clock)) r b (todo.eraseIdx i) ∧
        CurK K (World.put w0 r (.mapIter (some b) clock (seen.push L[i].born) clock)) r b p := by
    intro i hi w0 hw0
    have hh : w0.heap = w.heap := by rcases hw0 with rfl | rfl <;> rfl
    have hiL : L.toList[i]? = some L[i] := by simp [hi]
    have hmap : (L.toList.map fun e => (e.key, e.val))[i]? = (todo.map fun p => (K.vk p.1, p.2))[i]? := by rw [hLl, hf]
    rw [List.getElem?_map, List.getElem?_map, hiL] at hmap
    cases hp' : todo[i]? with
    | none => simp [hp'] at hmap
    | some p =>
      simp only [hp', Option.map_some, Option.some.injEq, Prod.mk.injEq] at hmap
      have hin : L[i] ∈ es.toList := by
        have : L[i] ∈ L.toList := List.mem_of_getElem? hiL
        rw [hLl] at this
        exact (List.mem_filter.1 this).1
      have hput : (World.put w0 r (.mapIter (some b) clock (seen.push L[i].born) clock)).heap[r]? = some (.mapIter (some b) clock (seen.push L[i].born) clock) := put_same (by simp [hh, hr])
      have hmapb : (World.put w0 r (.mapIter (some b) clock (seen.push L[i].born) clock)).heap[b]? = some (.map es clock) := by rw [put_ne hrb, hh, hb]
      refine ⟨p, rfl, hmap.1, hmap.2, ⟨es, clock, seen.push L[i].born, hmapb, hput, hc, hp, ?_⟩, ⟨es, clock, seen.push L[i].born, L[i], hmapb, hput, by simp, ?_, hmap.1, hmap.2⟩⟩
      · have e1 : es.toList.filter (fun e => !(seen.push L[i].born).contains e.born) = (es.toList.filter fun e => !seen.contains e.born).filter (fun x => x.born != L[i].born) := by
          rw [List.filter_filter]
          apply List.filter_congr
          intro x hx
          simp only [Array.contains_push, Bool.not_or]
          rw [Bool.and_comm]
          congr 1
        rw [e1, ← hLl, filter_ne_eraseIdx L.toList i L[i] (by rw [hLl]; exact hp.sublist List.filter_sublist) hiL, map_eraseIdx', hLl, hf, ← map_eraseIdx']
      · rw [← Array.find?_toList]
        exact find_born _ _ hp hin
  have hch : ∃ i w0, ∃ hi : i < L.size, (w0 = w ∨ w0 = w.drew) ∧ (choose (Question.mapNext L.size)).run P w = .ok i w0 := by
    simp only [choose, Sem.run, Question.forced]
    by_cases h1 : L.size ≤ 1
    · exact ⟨0, w, hpos, .inl rfl, by simp [h1]⟩
    · exact ⟨_, w.drew, Nat.mod_lt _ hpos, .inr rfl, by simp [h1]; rfl⟩
  obtain ⟨i, w0, hi, hw0, hrun⟩ := hch
  obtain ⟨p, h1, h2, h3, h4, h5⟩ := key i hi w0 hw0
  refine ⟨i, p, _, w0, h1, hw0, ?_, h4, h5⟩
  have hh : w0.heap = w.heap := by rcases hw0 with rfl | rfl <;> rfl
  simp only [Instr.next, Sem.run_bind, hg1, hg2, Result.andThen_ok]
  rw [hbad]
  simp only [Bool.false_eq_true, if_false, hL, hold, hnew, hempty]
  have hs : (#[] ++ Array.map some (L ++ #[])) = Array.map some L := by simp
  rw [hs]
  have hsz : (Array.map some L).size = L.size := by simp
  have hat : (Array.map some L)[i]? = some (some L[i]) := by simp [hi]
  have hset : (setObj r (.mapIter (some b) clock (seen.push L[i].born) clock)).run P w0 = .ok () (World.put w0 r (.mapIter (some b) clock (seen.push L[i].born) clock)) := by
    simp [setObj, Sem.run, hh, hr, World.put]
  rw [hsz]
  simp only [Sem.run_bind, hrun, Result.andThen_ok]
  rw [hat]
  simp only [Sem.run_bind, hset, Result.andThen_ok, Sem.run_pure, h2, h3]

theorem run_entryK {w : World} {r b : Nat} {p : κ × Value} (h : CurK K w r b p) : (Instr.entry (.pointer (some ⟨r, 0, none⟩))).run P w = .ok (.tuple #[K.vk p.1, p.2]) w := by
  obtain ⟨es, clock, seen, e, hb, hr, hs, hf, h1, h2⟩ := h
  have hg1 : (getObj r).run P w = .ok (.mapIter (some b) clock seen clock) w := by simp [getObj, Sem.run, hr]
  have hg2 := run_getMap (P := P) hb
  simp only [Instr.entry, Sem.run_bind, hg1, Result.andThen_ok]
  rw [hs]
  simp only [Sem.run_bind, hg2, Result.andThen_ok, bne_self_eq_false, Bool.false_eq_true, if_false]
  rw [hf]
  simp only [h1, h2, Sem.run_pure]

/-- How much an iterator has still to come by. -/
def leftK (w : World) (r b : Nat) : Nat :=
  match w.heap[b]?, w.heap[r]? with
  | some (.map es _), some (.mapIter _ _ seen _) => (es.toList.filter fun e => !seen.contains e.born).length
  | _, _ => 0
theorem IterK.left {w : World} {r b : Nat} {todo : List (κ × Value)} (h : IterK K w r b todo) : leftK w r b = todo.length := by
  obtain ⟨es, clock, seen, hb, hr, _, _, hf⟩ := h
  have := congrArg List.length hf
  simp only [List.length_map] at this
  simp only [leftK, hb, hr, this]
/-- What an iterator needs to live on. -/
theorem IterK.keep {w w' : World} {r b : Nat} {todo : List (κ × Value)} (h : IterK K w r b todo) (h1 : w'.heap[b]? = w.heap[b]?) (h2 : w'.heap[r]? = w.heap[r]?) : IterK K w' r b todo := by
  obtain ⟨es, clock, seen, hb, hr, x⟩ := h
  exact ⟨es, clock, seen, by rw [h1, hb], by rw [h2, hr], x⟩
theorem CurK.keep {w w' : World} {r b : Nat} {p : κ × Value} (h : CurK K w r b p) (h1 : w'.heap[b]? = w.heap[b]?) (h2 : w'.heap[r]? = w.heap[r]?) : CurK K w' r b p := by
  obtain ⟨es, clock, seen, e, hb, hr, x⟩ := h
  exact ⟨es, clock, seen, e, by rw [h1, hb], by rw [h2, hr], x⟩
end

/-! ### The same as equations, at keys of two kinds -/
section
variable {P : Program} {R : Ending → World → Prop} {w : World} {mt kt et b : Nat} {k : Value → World → Prop} {z : Value}
abbrev MapI (hk : P.underlying kt = some (.int .i64)) (o : Option Obj) (l : List (Int × Value)) : Prop := MapK (keyI hk) o l
abbrev MapS (hk : P.underlying kt = some .string) (o : Option Obj) (l : List (ByteArray × Value)) : Prop := MapK (keyS hk) o l
theorem uv_lookI {hk : P.underlying kt = some (.int .i64)} {a : Int} {l : List (Int × Value)} (h : MapI hk (w.heap[b]?) l) (hm : P.underlying mt = some (.map kt et)) (hz : (P.info? et).map (·.zero) = some (some z)) :
    uv P R (Instr.lookup mt (.map (some b)) (.int .i64 a) false) w k = k ((aget l a).getD z) w := uv_eq (run_lookupK (keyI hk) hm hz h false)
theorem uv_lookI2 {hk : P.underlying kt = some (.int .i64)} {a : Int} {l : List (Int × Value)} (h : MapI hk (w.heap[b]?) l) (hm : P.underlying mt = some (.map kt et)) (hz : (P.info? et).map (·.zero) = some (some z)) :
    uv P R (Instr.lookup mt (.map (some b)) (.int .i64 a) true) w k = k (.tuple #[(aget l a).getD z, .bool (aget l a).isSome]) w := uv_eq (run_lookupK (keyI hk) hm hz h true)
theorem uv_lookS {hk : P.underlying kt = some .string} {a : ByteArray} {l : List (ByteArray × Value)} (h : MapS hk (w.heap[b]?) l) (hm : P.underlying mt = some (.map kt et)) (hz : (P.info? et).map (·.zero) = some (some z)) :
    uv P R (Instr.lookup mt (.map (some b)) (.string a) false) w k = k ((aget l a).getD z) w := uv_eq (run_lookupK (keyS hk) hm hz h false)
theorem uu_updI {hk : P.underlying kt = some (.int .i64)} {a : Int} {l : List (Int × Value)} {v : Value} {k : World → Prop} (h : MapI hk (w.heap[b]?) l) (hm : P.underlying mt = some (.map kt et)) (hn : ∀ o, MapI hk (some o) (aset l a v) → k (World.put w b o)) :
    uu P R (Instr.mapUpdate mt (.map (some b)) (.int .i64 a) v) w k := by
  obtain ⟨o, hr, ho⟩ := run_updateK (keyI hk) (k := a) (v := v) hm h
  have hr' : (Instr.mapUpdate mt (.map (some b)) (.int .i64 a) v).run P w = .ok () (World.put w b o) := hr
  rw [uu_eq hr']; exact hn o ho
theorem uu_updS {hk : P.underlying kt = some .string} {a : ByteArray} {l : List (ByteArray × Value)} {v : Value} {k : World → Prop} (h : MapS hk (w.heap[b]?) l) (hm : P.underlying mt = some (.map kt et)) (hn : ∀ o, MapS hk (some o) (aset l a v) → k (World.put w b o)) :
    uu P R (Instr.mapUpdate mt (.map (some b)) (.string a) v) w k := by
  obtain ⟨o, hr, ho⟩ := run_updateK (keyS hk) (k := a) (v := v) hm h
  have hr' : (Instr.mapUpdate mt (.map (some b)) (.string a) v).run P w = .ok () (World.put w b o) := hr
  rw [uu_eq hr']; exact hn o ho
theorem un_delI {hk : P.underlying kt = some (.int .i64)} {a : Int} {l : List (Int × Value)} {ty : Nat} {cs : Array Bool} (h : MapI hk (w.heap[b]?) l) (hm : P.underlying mt = some (.map kt et)) (hn : ∀ o, MapI hk (some o) (adel l a) → k (.tuple #[]) (World.put w b o)) :
    un P R (builtin .delete #[mt, kt] ty cs #[.map (some b), .int .i64 a]) w k := by
  obtain ⟨o, hr, ho⟩ := run_deleteK (keyI hk) (k := a) (ty := ty) hm h
  have hr' : (Builtin.delete_ #[mt, kt] ty #[.map (some b), .int .i64 a]).run P w = .ok (.tuple #[]) (World.put w b o) := hr
  rw [un_eq (run_builtin .delete Builtin.delete_ (fun _ _ _ _ => rfl) hr')]; exact hn o ho
theorem un_delS {hk : P.underlying kt = some .string} {a : ByteArray} {l : List (ByteArray × Value)} {ty : Nat} {cs : Array Bool} (h : MapS hk (w.heap[b]?) l) (hm : P.underlying mt = some (.map kt et)) (hn : ∀ o, MapS hk (some o) (adel l a) → k (.tuple #[]) (World.put w b o)) :
    un P R (builtin .delete #[mt, kt] ty cs #[.map (some b), .string a]) w k := by
  obtain ⟨o, hr, ho⟩ := run_deleteK (keyS hk) (k := a) (ty := ty) hm h
  have hr' : (Builtin.delete_ #[mt, kt] ty #[.map (some b), .string a]).run P w = .ok (.tuple #[]) (World.put w b o) := hr
  rw [un_eq (run_builtin .delete Builtin.delete_ (fun _ _ _ _ => rfl) hr')]; exact hn o ho
end

/-! ### What stays -/
/-- w' is w with new blocks, and with changes at blocks of S alone. -/
structure Keep (S : Nat → Prop) (w w' : World) : Prop where
  os : w'.os = w.os
  tape : w'.tape = w.tape
  output : w'.output = w.output
  size : w.heap.size ≤ w'.heap.size
  keep : ∀ b, b < w.heap.size → ¬ S b → w'.heap[b]? = w.heap[b]?
abbrev Keep0 (w w' : World) : Prop := Keep (fun _ => False) w w'
theorem Keep.refl (S : Nat → Prop) (w : World) : Keep S w w := ⟨rfl, rfl, rfl, Nat.le_refl _, fun _ _ _ => rfl⟩
theorem Keep.trans {S S' : Nat → Prop} {w w1 w2 : World} (h : Keep S w w1) (h' : Keep S' w1 w2) (hs : ∀ b, b < w.heap.size → S' b → S b) : Keep S w w2 :=
  ⟨h'.os.trans h.os, h'.tape.trans h.tape, h'.output.trans h.output, Nat.le_trans h.size h'.size, fun b hb hn => (h'.keep b (Nat.lt_of_lt_of_le hb h.size) (fun x => hn (hs b hb x))).trans (h.keep b hb hn)⟩
theorem Keep.mono {S S' : Nat → Prop} {w w1 : World} (h : Keep S w w1) (hs : ∀ b, b < w.heap.size → S b → S' b) : Keep S' w w1 :=
  ⟨h.os, h.tape, h.output, h.size, fun b hb hn => h.keep b hb (fun x => hn (hs b hb x))⟩
theorem Keep.put {S : Nat → Prop} {w w1 : World} {b : Nat} {o : Obj} (h : Keep S w w1) (hs : b < w.heap.size → S b) : Keep S w (World.put w1 b o) :=
  ⟨h.os, h.tape, h.output, by rw [hput_size]; exact h.size, fun c hc hn => by
    rw [put_ne (fun e => by subst e; exact hn (hs hc))]; exact h.keep c hc hn⟩
theorem Keep.add {S : Nat → Prop} {w w1 : World} {o : Obj} (h : Keep S w w1) : Keep S w (World.add w1 o) :=
  ⟨h.os, h.tape, h.output, by rw [hadd_size]; exact Nat.le_succ_of_le h.size, fun c hc hn => by
    rw [← h.keep c hc hn]
    show (w1.heap.push o)[c]? = _
    rw [Array.getElem?_push, if_neg (by have := h.size; omega)]⟩
theorem Keep.drew {S : Nat → Prop} {w w1 : World} (h : Keep S w w1) : Keep S w w1.drew := ⟨h.os, h.tape, h.output, h.size, h.keep⟩
theorem Keep.at {S : Nat → Prop} {w w1 : World} {b : Nat} {o : Obj} (h : Keep S w w1) (hb : w.heap[b]? = some o) (hn : ¬ S b) : w1.heap[b]? = some o :=
  (h.keep b (Array.getElem?_eq_some_iff.1 hb).1 hn).trans hb
theorem lt_of_at {w : World} {b : Nat} {o : Obj} (hb : w.heap[b]? = some o) : b < w.heap.size := (Array.getElem?_eq_some_iff.1 hb).1
theorem Keep.below {w w1 : World} (h : Keep0 w w1) : RowKit.Below w.heap.size w w1 := ⟨h.os, h.tape, h.output, h.size, fun b hb => h.keep b hb (fun x => x)⟩
theorem Keep.of_below {w w1 : World} (h : RowKit.Below w.heap.size w w1) : Keep0 w w1 := ⟨h.os, h.tape, h.output, h.size, fun b hb _ => h.block b hb⟩
end Go.Sx
