/- The table of locks, plain law: asking and dropping. -/
import Derived.Test.YtpghlemcgjogpaaGreatCX
set_option linter.unusedVariables false
set_option linter.unusedSimpArgs false
set_option linter.unnecessarySimpa false
set_option maxRecDepth 100000
namespace Go.Proofs.YtpghlemcgjogpaaGreat
open Go.Sx

/-- A thing's locks and wishes. -/
def thF (A : Abs) (r : ByteArray) : List (Int × Int) × List Wi := (pget A.things r).getD ([], [])
def modeF (A : Abs) (t : Int) (r : ByteArray) : Int := modeOf (thF A r).1 t
/-- What is true of a table. -/
structure Inv (S : List Int) (k : Nat) (A : Abs) : Prop where
  nd : (A.things.map (·.1)).Nodup
  ks : ∀ p ∈ A.things, p.1.size ≤ maxLen
  n : A.things.length ≤ k
  ne : ∀ p ∈ A.things, p.2.1 ≠ []
  th : ∀ p ∈ A.things, TInv S k p.2.1 p.2.2
  qw : ∀ p ∈ A.things, ∀ y ∈ p.2.2, pget A.waits y.txn = some p.1
  wnd : (A.waits.map (·.1)).Nodup
  wq : ∀ p ∈ A.waits, ∃ x, pget A.things p.2 = some x ∧ ∃ y ∈ x.2, y.txn = p.1
  wn : A.waits.length ≤ k
theorem Inv.empty : Inv [] 0 ⟨[], []⟩ := ⟨by simp, by simp, by simp, by simp, by simp, by simp, by simp, by simp, by simp⟩
theorem Inv.mono {S S' : List Int} {k k' : Nat} {A : Abs} (h : Inv S k A) (hS : ∀ x ∈ S, x ∈ S') (hk : k ≤ k') : Inv S' k' A :=
  ⟨h.nd, h.ks, by have := h.n; omega, h.ne, fun p hp => (h.th p hp).mono hS hk, h.qw, h.wnd, h.wq, by have := h.wn; omega⟩
theorem Inv.small {S : List Int} {k : Nat} {A : Abs} (h : Inv S k A) (hk : k ≤ 1048576) : Small A :=
  ⟨h.nd, h.ks, by have := h.n; omega, fun p hp => by have := (h.th p hp).len; omega, fun p hp => (h.th p hp).hnd, fun p hp => (h.th p hp).hin, fun p hp => by have := (h.th p hp).len; omega⟩
theorem Inv.waits {S : List Int} {k : Nat} {A : Abs} (h : Inv S k A) : Waits A := fun p hp => by
  obtain ⟨x, hx, y, hy, e⟩ := h.wq p hp
  refine ⟨x, hx, ?_⟩
  cases hi : x.2.findIdx? fun y => y.txn == p.1 with
  | some i => exact ⟨i, rfl⟩
  | none =>
    have := List.findIdx?_eq_none_iff.1 hi y hy
    simp [e] at this
theorem Inv.thOf {S : List Int} {k : Nat} {A : Abs} (h : Inv S k A) (r : ByteArray) : TInv S k (thF A r).1 (thF A r).2 := by
  unfold thF
  cases hx : pget A.things r with
  | none => exact TInv.nil
  | some x => exact h.th _ (pget_mem hx)
theorem Inv.mode {S : List Int} {k : Nat} {A : Abs} (h : Inv S k A) (t : Int) (r : ByteArray) : okM (modeF A t r) := modeOf_ok (h.thOf r).hm t
theorem Inv.qwOf {S : List Int} {k : Nat} {A : Abs} (h : Inv S k A) (r : ByteArray) : ∀ y ∈ (thF A r).2, pget A.waits y.txn = some r := by
  unfold thF
  cases hx : pget A.things r with
  | none => simp
  | some x => exact h.qw _ (pget_mem hx)

/-- One thing and the waits change. -/
theorem Inv.set {S S' : List Int} {k k' : Nat} {A : Abs} (h : Inv S k A) {r : ByteArray} {hv : List (Int × Int)} {q : List Wi} {W' : List (Int × ByteArray)} (hS : ∀ x ∈ S, x ∈ S') (hk : k + 1 ≤ k') (hr : r.size ≤ maxLen) (ht : TInv S' k' hv q) (hne : hv ≠ [])
    (hqw : ∀ y ∈ q, pget W' y.txn = some r) (hW : ∀ p ∈ A.things, p.1 ≠ r → ∀ y ∈ p.2.2, pget W' y.txn = some p.1) (wnd : (W'.map (·.1)).Nodup)
    (wq : ∀ p ∈ W', (p.2 = r ∧ ∃ y ∈ q, y.txn = p.1) ∨ (p.2 ≠ r ∧ ∃ x, pget A.things p.2 = some x ∧ ∃ y ∈ x.2, y.txn = p.1)) (wn : W'.length ≤ k') : Inv S' k' ⟨pset A.things r (hv, q), W'⟩ := by
  have hn := h.n
  refine ⟨nd_pset h.nd, fun p hp => ?_, ?_, fun p hp => ?_, fun p hp => ?_, fun p hp => ?_, wnd, fun p hp => ?_, wn⟩
  · rcases pset_memK h.nd hp with rfl | ⟨hp, _⟩
    · exact hr
    · exact h.ks p hp
  · have := pset_len (l := A.things) (k := r) (v := (hv, q))
    show (pset A.things r (hv, q)).length ≤ k'
    omega
  · rcases pset_memK h.nd hp with rfl | ⟨hp, _⟩
    · exact hne
    · exact h.ne p hp
  · rcases pset_memK h.nd hp with rfl | ⟨hp, _⟩
    · exact ht
    · exact (h.th p hp).mono hS (by omega)
  · rcases pset_memK h.nd hp with rfl | ⟨hp, hpr⟩
    · exact hqw
    · exact hW p hp hpr
  · rcases wq p hp with ⟨e, y, hy, e'⟩ | ⟨e, x, hx, y, hy, e'⟩
    · exact ⟨(hv, q), by rw [e]; exact pget_pset_same, y, hy, e'⟩
    · exact ⟨x, by show pget (pset A.things r (hv, q)) p.2 = some x; rw [pget_pset_ne (fun e0 => e e0.symm)]; exact hx, y, hy, e'⟩

/-- How asking comes out. -/
inductive Asked (A : Abs) (t : Int) (r : ByteArray) (m : Int) : Int × Abs → Prop
  | refused : (1 ≤ m ∧ m ≤ 6 → (pget A.waits t).isSome = true) → Asked A t r m (0, A)
  | same : 1 ≤ m ∧ m ≤ 6 → pget A.waits t = none → jn (modeF A t r) m = modeF A t r → Asked A t r m (1, A)
  | gives : 1 ≤ m ∧ m ≤ 6 → pget A.waits t = none → canB (thF A r).1 t (jn (modeF A t r) m) = true → jn (modeF A t r) m ≠ modeF A t r → (modeF A t r ≠ 0 ∨ (thF A r).2 = []) →
      Asked A t r m (1, ⟨pset A.things r (pset (thF A r).1 t (jn (modeF A t r) m), (thF A r).2), A.waits⟩)
  | waits : 1 ≤ m ∧ m ≤ 6 → pget A.waits t = none → (thF A r).1 ≠ [] → jn (modeF A t r) m ≠ modeF A t r → ((modeF A t r ≠ 0 ∨ (thF A r).2 = []) → canB (thF A r).1 t (jn (modeF A t r) m) = false) →
      Asked A t r m (2, ⟨pset A.things r ((thF A r).1, (thF A r).2.take (putAt (thF A r).2 (modeF A t r != 0)) ++ ⟨t, jn (modeF A t r) m, modeF A t r != 0⟩ :: (thF A r).2.drop (putAt (thF A r).2 (modeF A t r != 0))), pset A.waits t r⟩)
theorem ask_spec {S : List Int} {k : Nat} {A : Abs} (h : Inv S k A) (t : Int) (r : ByteArray) (m : Int) : Asked A t r m (ask A t r m) := by
  unfold ask
  split
  · rename_i hc
    refine .refused fun hm => ?_
    rw [decide_eq_true hm] at hc
    simpa using hc
  · rename_i hc
    have hm : 1 ≤ m ∧ m ≤ 6 := by
      by_cases hm : 1 ≤ m ∧ m ≤ 6
      · exact hm
      · rw [decide_eq_false hm] at hc; simp at hc
    have hw : pget A.waits t = none := by
      rw [decide_eq_true hm] at hc
      simpa using hc
    cases hx : pget A.things r with
    | some x =>
      have e : thF A r = x := by unfold thF; rw [hx]; rfl
      have hne := h.ne _ (pget_mem hx)
      simp only []
      unfold ask2
      have em : modeOf x.1 t = modeF A t r := by unfold modeF; rw [e]
      have ex1 : x.1 = (thF A r).1 := by rw [e]
      have ex2 : x.2 = (thF A r).2 := by rw [e]
      simp only [em]
      rw [ex1, ex2]
      split
      · rename_i h1
        exact .same hm hw (by simpa using h1)
      · rename_i h1
        have h1' : jn (modeF A t r) m ≠ modeF A t r := by simpa using h1
        split
        · rename_i h2
          simp only [Bool.and_eq_true, Bool.or_eq_true, bne_iff_ne, List.isEmpty_iff] at h2
          exact .gives hm hw h2.2 h1' h2.1
        · rename_i h2
          refine .waits hm hw (by rw [← ex1]; exact hne) h1' fun h3 => ?_
          simp only [Bool.and_eq_true, Bool.or_eq_true, bne_iff_ne, List.isEmpty_iff] at h2
          by_cases h4 : canB (thF A r).1 t (jn (modeF A t r) m) = true
          · exact absurd ⟨h3, h4⟩ h2
          · simpa using h4
    | none =>
      have e : thF A r = ([], []) := by unfold thF; rw [hx]; rfl
      simp only []
      have em : modeF A t r = 0 := by unfold modeF; rw [e]; rfl
      have hj : jn 0 m ≠ 0 := by have := jn_pos (a := 0) (b := m) ⟨by decide, by decide⟩ ⟨by omega, hm.2⟩ hm.1; omega
      have hg := Asked.gives (A := A) (t := t) (r := r) hm hw (by rw [e]; rfl) (by rw [em]; exact hj) (.inr (by rw [e]))
      unfold ask2
      have e0 : modeOf [] t = 0 := rfl
      have e1 : (jn 0 m == 0) = false := by simpa using hj
      have e2 : canB [] t (jn 0 m) = true := rfl
      simp only [e0, e1, e2, List.isEmpty_nil, Bool.or_true, Bool.and_true, Bool.false_eq_true, if_false, if_true]
      rw [pset_pset]
      rw [e, em] at hg
      exact hg
theorem Asked.inv {S : List Int} {k : Nat} {A : Abs} (h : Inv S k A) {t : Int} {r : ByteArray} {m : Int} {o : Int × Abs} (ha : Asked A t r m o) (hin : (Lit.int .i64 t).wf = true) (hr : r.size ≤ maxLen) : Inv (t :: S) (k + 1) o.2 := by
  have mono : ∀ x ∈ S, x ∈ t :: S := fun x hx => List.mem_cons_of_mem _ hx
  have ht := (h.thOf r).mono mono (Nat.le_refl k)
  have hoM := h.mode t r
  have qw0 : pget A.waits t = none → ∀ y ∈ (thF A r).2, y.txn ≠ t := fun hw y hy e => by
    have := h.qwOf r y hy
    rw [e, hw] at this; cases this
  cases ha with
  | refused _ => exact h.mono mono (by omega)
  | same _ _ _ => exact h.mono mono (by omega)
  | gives hm hw hc hne _ =>
    have okm : okM m := ⟨by omega, hm.2⟩
    have hj1 := jn_pos hoM okm hm.1
    have hj2 := jn_ok hoM okm
    have hl := ht.len
    refine h.set mono (Nat.le_refl _) hr (ht.give hin List.mem_cons_self ⟨hj1, hj2.2⟩ hc (qw0 hw) ?_) pset_ne_nil (h.qwOf r) (fun p hp _ => h.qw p hp) h.wnd (fun p hp => ?_) (by have := h.wn; omega)
    · have := pset_len (l := (thF A r).1) (k := t) (v := jn (modeF A t r) m); omega
    · obtain ⟨x, hx, y, hy, e⟩ := h.wq p hp
      by_cases hpr : p.2 = r
      · refine .inl ⟨hpr, y, ?_, e⟩
        unfold thF; rw [← hpr, hx]; exact hy
      · exact .inr ⟨hpr, x, hx, y, hy, e⟩
  | waits hm hw hne0 hne _ =>
    have okm : okM m := ⟨by omega, hm.2⟩
    have hj1 := jn_pos hoM okm hm.1
    have hj2 := jn_ok hoM okm
    have hp : ((thF A r).2.take (putAt (thF A r).2 (modeF A t r != 0)) ++ ⟨t, jn (modeF A t r) m, modeF A t r != 0⟩ :: (thF A r).2.drop (putAt (thF A r).2 (modeF A t r != 0))).Perm (⟨t, jn (modeF A t r) m, modeF A t r != 0⟩ :: (thF A r).2) := by
      refine List.perm_middle.trans ?_
      rw [List.take_append_drop]
    refine h.set mono (Nat.le_refl _) hr (ht.wish hin List.mem_cons_self ⟨hj1, hj2.2⟩ (jn_left hoM okm) (qw0 hw) rfl) hne0 (fun y hy => ?_) (fun p hp hpr y hy => ?_) (nd_pset h.wnd) (fun p hpw => ?_) ?_
    · rcases List.mem_cons.1 (hp.subset hy) with rfl | hy
      · exact pget_pset_same
      · rw [pget_pset_ne (qw0 hw y hy).symm]; exact h.qwOf r y hy
    · have := h.qw p hp y hy
      rw [pget_pset_ne (fun e => by rw [← e, hw] at this; cases this)]
      exact this
    · rcases pset_memK h.wnd hpw with rfl | ⟨hpw, hpt⟩
      · exact .inl ⟨rfl, _, hp.symm.subset List.mem_cons_self, rfl⟩
      · obtain ⟨x, hx, y, hy, e⟩ := h.wq p hpw
        by_cases hpr : p.2 = r
        · refine .inl ⟨hpr, y, hp.symm.subset (List.mem_cons_of_mem _ ?_), e⟩
          unfold thF; rw [← hpr, hx]; exact hy
        · exact .inr ⟨hpr, x, hx, y, hy, e⟩
    · have := pset_len (l := A.waits) (k := t) (v := r); have := h.wn; omega
theorem ask_inv {S : List Int} {k : Nat} {A : Abs} (h : Inv S k A) {t : Int} {r : ByteArray} {m : Int} (hin : (Lit.int .i64 t).wf = true) (hr : r.size ≤ maxLen) : Inv (t :: S) (k + 1) (ask A t r m).2 :=
  (ask_spec h t r m).inv h hin hr
theorem thF_set {A : Abs} {r r' : ByteArray} {x : List (Int × Int) × List Wi} {W : List (Int × ByteArray)} : thF ⟨pset A.things r x, W⟩ r' = if r = r' then x else thF A r' := by
  unfold thF
  by_cases e : r = r'
  · subst e; rw [if_pos rfl]; simp only [pget_pset_same]; rfl
  · rw [if_neg e]; simp only [pget_pset_ne e]
/-- Asking takes nothing away. -/
theorem ask_cov {S : List Int} {k : Nat} {A : Abs} (h : Inv S k A) {t : Int} {r : ByteArray} {m : Int} (t' : Int) (r' : ByteArray) : okM (modeF (ask A t r m).2 t' r') ∧ jn (modeF A t' r') (modeF (ask A t r m).2 t' r') = modeF (ask A t r m).2 t' r' := by
  have hs := h.mode t' r'
  have ha := ask_spec h t r m
  generalize ask A t r m = o at ha
  cases ha with
  | refused _ => exact ⟨hs, jn_self hs⟩
  | same _ _ _ => exact ⟨hs, jn_self hs⟩
  | gives hm hw hc hne _ =>
    have okm : okM m := ⟨by omega, hm.2⟩
    have hoM := h.mode t r
    unfold modeF
    rw [thF_set]
    by_cases e : r = r'
    · subst e
      rw [if_pos rfl, modeOf_pset]
      by_cases e' : t = t'
      · subst e'; rw [if_pos rfl]
        exact ⟨jn_ok hoM okm, jn_left hoM okm⟩
      · rw [if_neg e']; exact ⟨hs, jn_self hs⟩
    · rw [if_neg e]; exact ⟨hs, jn_self hs⟩
  | waits hm hw hne0 hne _ =>
    unfold modeF
    rw [thF_set]
    by_cases e : r = r'
    · subst e; rw [if_pos rfl]; exact ⟨hs, jn_self hs⟩
    · rw [if_neg e]; exact ⟨hs, jn_self hs⟩
/-- What was granted is held. -/
theorem ask_got {S : List Int} {k : Nat} {A : Abs} (h : Inv S k A) {t : Int} {r : ByteArray} {m : Int} (hg : (ask A t r m).1 = 1) : (1 ≤ m ∧ m ≤ 6) ∧ jn m (modeF (ask A t r m).2 t r) = modeF (ask A t r m).2 t r := by
  have hoM := h.mode t r
  have ha := ask_spec h t r m
  generalize ask A t r m = o at ha hg
  cases ha with
  | refused _ => cases hg
  | same hm hw hj =>
    have okm : okM m := ⟨by omega, hm.2⟩
    refine ⟨hm, ?_⟩
    have := jn_right hoM okm
    rw [hj] at this; exact this
  | gives hm hw hc hne _ =>
    have okm : okM m := ⟨by omega, hm.2⟩
    refine ⟨hm, ?_⟩
    have e : modeF ⟨pset A.things r (pset (thF A r).1 t (jn (modeF A t r) m), (thF A r).2), A.waits⟩ t r = jn (modeF A t r) m := by
      show modeOf (thF _ _).1 t = _
      rw [thF_set, if_pos rfl, modeOf_pset, if_pos rfl]
    simp only [e]
    exact jn_right hoM okm
  | waits _ _ _ _ _ => cases hg
end Go.Proofs.YtpghlemcgjogpaaGreat
