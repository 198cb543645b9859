/- The table of locks, plain law: its list of locks. -/
import Derived.Test.YtpghlemcgjogpaaGreatCZ
set_option linter.unusedVariables false
set_option linter.unusedSimpArgs false
set_option linter.unnecessarySimpa false
set_option maxRecDepth 100000
namespace Go.Proofs.YtpghlemcgjogpaaGreat
open Go.Sx

theorem locksAt_mem {A : Abs} {r : ByteArray} {l : Lk} (h : l ∈ locksAt A r) : l.res = r ∧ l.txn ∈ (thF A r).1.map (·.1) ∧ l.mode = modeF A l.txn r ∧ (pget A.things r).isSome = true := by
  unfold locksAt at h
  unfold modeF thF
  cases hx : pget A.things r with
  | none => rw [hx] at h; cases h
  | some x =>
    rw [hx] at h
    obtain ⟨t, ht, rfl⟩ := List.mem_map.1 h
    exact ⟨rfl, (sortI_perm _).subset ht, rfl, rfl⟩
theorem locks_mem {A : Abs} {l : Lk} (h : l ∈ locksF A) : l ∈ locksAt A l.res := by
  obtain ⟨r, _, hl⟩ := List.mem_flatMap.1 h
  obtain ⟨e, _⟩ := locksAt_mem hl
  rw [e]; exact hl
/-- What a lock in the list says. -/
structure LkOf (S : List Int) (A : Abs) (l : Lk) : Prop where
  mode : l.mode = modeF A l.txn l.res
  pos : 1 ≤ l.mode ∧ l.mode ≤ 6
  inS : l.txn ∈ S
  in' : (Lit.int .i64 l.txn).wf = true
  mem : (l.txn, l.mode) ∈ (thF A l.res).1
  key : (pget A.things l.res).isSome = true
  sz : l.res.size ≤ maxLen
theorem locks_of {S : List Int} {k : Nat} {A : Abs} (h : Inv S k A) {l : Lk} (hl : l ∈ locksF A) : LkOf S A l := by
  obtain ⟨_, h2, h3, h4⟩ := locksAt_mem (locks_mem hl)
  have hT := h.thOf l.res
  obtain ⟨e, he, e1⟩ := List.mem_map.1 h2
  have hg := pget_nd hT.hnd (k := e.1) (x := e.2) he
  have hm : l.mode = e.2 := by
    rw [h3]
    unfold modeF modeOf
    rw [← e1, hg]; rfl
  have hp := hT.hm e he
  refine ⟨h3, by rw [hm]; exact hp, by rw [← e1]; exact hT.hS e he, by rw [← e1]; exact hT.hin e he, by rw [← e1, hm]; exact he, h4, ?_⟩
  obtain ⟨x, hx⟩ := Option.isSome_iff_exists.1 h4
  exact h.ks _ (pget_mem hx)
theorem locks_clean {S : List Int} {k : Nat} {A : Abs} (h : Inv S k A) : (locksF A).Pairwise fun b a => a.res = b.res → a.txn ≠ b.txn ∧ okM a.mode ∧ okM b.mode ∧ tg a.mode b.mode = true := by
  have hne : (locksF A).Pairwise fun b a => a.res = b.res → a.txn ≠ b.txn := by
    unfold locksF
    rw [List.pairwise_flatMap]
    refine ⟨fun r _ => ?_, ?_⟩
    · unfold locksAt
      cases hx : pget A.things r with
      | none => simp
      | some x =>
        simp only []
        rw [List.pairwise_map]
        have hnd : (sortI (x.1.map (·.1))).Nodup := (sortI_perm _).nodup_iff.2 (h.th _ (pget_mem hx)).hnd
        exact hnd.imp fun hab _ e => hab e.symm
    · have hnd : (sortS (A.things.map (·.1))).Nodup := (sortS_perm _).nodup_iff.2 h.nd
      refine hnd.imp fun hab x hx y hy e => ?_
      rw [(locksAt_mem hx).1, (locksAt_mem hy).1] at e
      exact absurd e.symm hab
  refine hne.imp_of_mem fun {b a} hb ha hba e => ?_
  have h1 := locks_of h ha
  have h2 := locks_of h hb
  refine ⟨hba e, ⟨by have := h1.pos; omega, h1.pos.2⟩, ⟨by have := h2.pos; omega, h2.pos.2⟩, ?_⟩
  have m2 := h2.mem
  rw [← e] at m2
  exact (h.thOf a.res).tog _ h1.mem _ m2 (hba e)
theorem locks_nil {S : List Int} {k : Nat} {A : Abs} (h : Inv S k A) (hl : locksF A = []) : A.things = [] := by
  cases ht : A.things with
  | nil => rfl
  | cons p l =>
    exfalso
    have hp : p ∈ A.things := by rw [ht]; exact List.mem_cons_self
    have hg := pget_nd h.nd (k := p.1) (x := p.2) hp
    have hk : p.1 ∈ sortS (A.things.map (·.1)) := (sortS_perm _).symm.subset (List.mem_map_of_mem hp)
    have hne := h.ne p hp
    have : locksAt A p.1 = [] := by
      rw [List.eq_nil_iff_forall_not_mem]
      intro x hx
      have : x ∈ locksF A := List.mem_flatMap.2 ⟨p.1, hk, hx⟩
      rw [hl] at this; cases this
    unfold locksAt at this
    rw [hg] at this
    simp only [List.map_eq_nil_iff] at this
    have h2 := (sortI_perm (p.2.1.map (·.1))).length_eq
    rw [this] at h2
    simp only [List.length_nil, List.length_map] at h2
    exact hne (List.eq_nil_of_length_eq_zero h2.symm)
theorem nothing {S : List Int} {k : Nat} {A : Abs} (h : Inv S k A) (hl : locksF A = []) : A = ⟨[], []⟩ := by
  have h1 := locks_nil h hl
  have h2 : A.waits = [] := by
    cases hw : A.waits with
    | nil => rfl
    | cons p l =>
      obtain ⟨x, hx, _⟩ := h.wq p (by rw [hw]; exact List.mem_cons_self)
      rw [h1] at hx; cases hx
  obtain ⟨a, b⟩ := A
  simp only [] at h1 h2
  subst h1 h2; rfl
/-- Who does not wait has no wish. -/
theorem wish_none {S : List Int} {k : Nat} {A : Abs} (h : Inv S k A) {t : Int} (hw : (wishF A t).2 = false) : pget A.waits t = none := by
  cases hx : pget A.waits t with
  | none => rfl
  | some r =>
    exfalso
    obtain ⟨x, hr, y, hy, e⟩ := h.wq _ (pget_mem hx)
    simp only [] at hr e
    unfold wishF queueF at hw
    rw [hx] at hw
    simp only [hr] at hw
    cases hf : (x.2.map fun y => (⟨y.txn, r, y.mode⟩ : Lk)).find? fun l => l.txn == t with
    | some l => rw [hf] at hw; cases hw
    | none =>
      have := List.find?_eq_none.1 hf ⟨y.txn, r, y.mode⟩ (List.mem_map.2 ⟨y, hy, rfl⟩)
      simp [e] at this
/-- Who has a thing and asks for no more gets it, and nothing changes. -/
theorem ask_again {S : List Int} {k : Nat} {A : Abs} (h : Inv S k A) {t : Int} {r : ByteArray} {m : Int} (hw : pget A.waits t = none) (hm : 1 ≤ m ∧ m ≤ 6) (hk : (pget A.things r).isSome = true) (hj : jn (modeF A t r) m = modeF A t r) : ask A t r m = (1, A) := by
  have ha := ask_spec h t r m
  generalize ask A t r m = o at ha
  cases ha with
  | refused h1 => have := h1 hm; rw [hw] at this; cases this
  | same _ _ _ => rfl
  | gives _ _ _ hne _ => exact absurd hj hne
  | waits _ _ _ hne _ => exact absurd hj hne
/-- Nobody is left. -/
theorem locks_S {S : List Int} {k : Nat} {A : Abs} (h : Inv S k A) (hS : S = []) : locksF A = [] := by
  rw [List.eq_nil_iff_forall_not_mem]
  intro l hl
  have := (locks_of h hl).inS
  rw [hS] at this; cases this
end Go.Proofs.YtpghlemcgjogpaaGreat
