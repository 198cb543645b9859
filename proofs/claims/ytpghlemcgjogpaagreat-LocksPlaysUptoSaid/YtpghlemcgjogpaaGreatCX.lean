/- The table of locks, plain law: what stays true of it, whatever is asked and dropped. -/
import Derived.Test.YtpghlemcgjogpaaGreatCS
set_option linter.unusedVariables false
set_option linter.unusedSimpArgs false
set_option linter.unnecessarySimpa false
set_option maxRecDepth 100000
namespace Go.Proofs.YtpghlemcgjogpaaGreat
open Go.Sx

/-! ### Modes -/
def okM (a : Int) : Prop := 0 ≤ a ∧ a ≤ 6
theorem all2 {P : Int → Int → Bool} (h : ((List.range 7).all fun a => (List.range 7).all fun b => P (a : Int) (b : Int)) = true) {a b : Int} (ha : okM a) (hb : okM b) : P a b = true := by
  obtain ⟨m, rfl⟩ := Int.eq_ofNat_of_zero_le ha.1
  obtain ⟨n, rfl⟩ := Int.eq_ofNat_of_zero_le hb.1
  have h1 := List.all_eq_true.1 h m (List.mem_range.2 (by have := ha.2; omega))
  exact List.all_eq_true.1 h1 n (List.mem_range.2 (by have := hb.2; omega))
theorem all3 {P : Int → Int → Int → Bool} (h : ((List.range 7).all fun a => (List.range 7).all fun b => (List.range 7).all fun c => P (a : Int) (b : Int) (c : Int)) = true) {a b c : Int} (ha : okM a) (hb : okM b) (hc : okM c) : P a b c = true := by
  obtain ⟨m, rfl⟩ := Int.eq_ofNat_of_zero_le ha.1
  have h1 := List.all_eq_true.1 h m (List.mem_range.2 (by have := ha.2; omega))
  exact all2 (P := fun b c => P (m : Int) b c) h1 hb hc
theorem tg_sym {a b : Int} (ha : okM a) (hb : okM b) : tg a b = tg b a := by
  have := all2 (P := fun a b => tg a b == tg b a) (by decide +kernel) ha hb
  simpa using this
theorem jn_ok {a b : Int} (ha : okM a) (hb : okM b) : okM (jn a b) := by
  have := all2 (P := fun a b => decide (0 ≤ jn a b ∧ jn a b ≤ 6)) (by decide +kernel) ha hb
  simpa [okM] using this
theorem jn_pos {a b : Int} (ha : okM a) (hb : okM b) (h : 1 ≤ b) : 1 ≤ jn a b := by
  have := all2 (P := fun a b => !decide (1 ≤ b) || decide (1 ≤ jn a b)) (by decide +kernel) ha hb
  simpa [h] using this
theorem jn_self {a : Int} (ha : okM a) : jn a a = a := by
  have := all2 (P := fun a b => jn a a == a) (by decide +kernel) ha ha
  simpa using this
theorem jn_left {a b : Int} (ha : okM a) (hb : okM b) : jn a (jn a b) = jn a b := by
  have := all2 (P := fun a b => jn a (jn a b) == jn a b) (by decide +kernel) ha hb
  simpa using this
theorem jn_right {a b : Int} (ha : okM a) (hb : okM b) : jn b (jn a b) = jn a b := by
  have := all2 (P := fun a b => jn b (jn a b) == jn a b) (by decide +kernel) ha hb
  simpa using this
theorem jn_comm {a b : Int} (ha : okM a) (hb : okM b) : jn a b = jn b a := by
  have := all2 (P := fun a b => jn a b == jn b a) (by decide +kernel) ha hb
  simpa using this
theorem jn_trans {a b c : Int} (ha : okM a) (hb : okM b) (hc : okM c) (h1 : jn a b = b) (h2 : jn b c = c) : jn a c = c := by
  have := all3 (P := fun a b c => !(jn a b == b) || !(jn b c == c) || (jn a c == c)) (by decide +kernel) ha hb hc
  simpa [h1, h2] using this

/-! ### Maps as lists of pairs -/
section
variable {κ β : Type} [DecidableEq κ]
theorem pget_none {l : List (κ × β)} {k : κ} : pget l k = none ↔ ∀ p ∈ l, p.1 ≠ k := by
  induction l with
  | nil => simp [pget]
  | cons p l ih =>
    simp only [pget]
    split
    · rename_i e; simp [e]
    · rename_i e; simp [e, ih]
theorem pget_nd {l : List (κ × β)} (h : (l.map (·.1)).Nodup) {k : κ} {x : β} (hm : (k, x) ∈ l) : pget l k = some x := by
  induction l with
  | nil => cases hm
  | cons p l ih =>
    simp only [List.map_cons, List.nodup_cons] at h
    simp only [pget]
    rcases List.mem_cons.1 hm with rfl | hm
    · simp
    · rw [if_neg (fun (e : p.1 = k) => h.1 (by rw [e]; exact List.mem_map.2 ⟨_, hm, rfl⟩))]
      exact ih h.2 hm
theorem keys_pset {l : List (κ × β)} {k : κ} {v : β} : (pset l k v).map (·.1) = if (pget l k).isSome = true then l.map (·.1) else l.map (·.1) ++ [k] := by
  cases h : pget l k with
  | none => rw [pset_none h]; simp
  | some x =>
    obtain ⟨l1, l2, e1, e2, _⟩ := pget_split h
    rw [e2, e1]; simp
theorem nd_pset {l : List (κ × β)} {k : κ} {v : β} (h : (l.map (·.1)).Nodup) : ((pset l k v).map (·.1)).Nodup := by
  rw [keys_pset]
  split
  · exact h
  · rename_i hn
    have hn' : pget l k = none := by simpa using hn
    rw [List.nodup_append]
    refine ⟨h, by simp, fun a ha b hb e => ?_⟩
    obtain rfl : b = k := by simpa using hb
    obtain ⟨p, hp, rfl⟩ := List.mem_map.1 ha
    exact pget_none.1 hn' p hp e
theorem nd_pdel {l : List (κ × β)} {k : κ} (h : (l.map (·.1)).Nodup) : ((pdel l k).map (·.1)).Nodup := h.sublist (pdel_sub.map _)
theorem pdel_no {l : List (κ × β)} {k : κ} (h : (l.map (·.1)).Nodup) : ∀ p ∈ pdel l k, p.1 ≠ k := by
  induction l with
  | nil => simp [pdel]
  | cons a l ih =>
    simp only [List.map_cons, List.nodup_cons] at h
    simp only [pdel]
    split
    · rename_i e
      intro p hp hpk
      exact h.1 (by rw [e, ← hpk]; exact List.mem_map_of_mem hp)
    · rename_i e
      intro p hp
      rcases List.mem_cons.1 hp with rfl | hp
      · exact e
      · exact ih h.2 p hp
theorem pget_pdel_same {l : List (κ × β)} {k : κ} (h : (l.map (·.1)).Nodup) : pget (pdel l k) k = none := pget_none.2 (pdel_no h)
theorem pset_mem' {l : List (κ × β)} {k : κ} {v : β} {p : κ × β} (h : p ∈ pset l k v) : p = (k, v) ∨ p ∈ l := by
  induction l with
  | nil => simp only [pset, List.mem_singleton] at h; exact .inl h
  | cons a l ih =>
    simp only [pset] at h
    split at h
    · rcases List.mem_cons.1 h with h | h
      · exact .inl h
      · exact .inr (List.mem_cons_of_mem _ h)
    · rcases List.mem_cons.1 h with h | h
      · exact .inr (h ▸ List.mem_cons_self)
      · exact (ih h).imp id (List.mem_cons_of_mem _)
theorem pset_memK {l : List (κ × β)} {k : κ} {v : β} {p : κ × β} (hnd : (l.map (·.1)).Nodup) (h : p ∈ pset l k v) : p = (k, v) ∨ (p ∈ l ∧ p.1 ≠ k) := by
  by_cases hk : p.1 = k
  · have := pget_nd (nd_pset (v := v) (k := k) hnd) h
    rw [hk, pget_pset_same] at this
    cases this
    exact .inl (by rw [← hk])
  · refine (pset_mem' h).imp id fun h => ⟨h, hk⟩
theorem pset_len {l : List (κ × β)} {k : κ} {v : β} : (pset l k v).length ≤ l.length + 1 := by
  have := congrArg List.length (keys_pset (l := l) (k := k) (v := v))
  rw [List.length_map] at this
  rw [this]
  split <;> simp
theorem pset_len_some {l : List (κ × β)} {k : κ} {v x : β} (h : pget l k = some x) : (pset l k v).length = l.length := by
  have := congrArg List.length (keys_pset (l := l) (k := k) (v := v))
  rw [List.length_map] at this
  rw [this, h]
  simp
theorem pset_ne_nil {l : List (κ × β)} {k : κ} {v : β} : pset l k v ≠ [] := by
  cases l with
  | nil => simp [pset]
  | cons a l => simp only [pset]; split <;> simp
theorem pget_keys {l : List (κ × β)} {k : κ} (h : k ∈ l.map (·.1)) : ∃ x, pget l k = some x := by
  cases hx : pget l k with
  | some x => exact ⟨x, rfl⟩
  | none =>
    obtain ⟨p, hp, rfl⟩ := List.mem_map.1 h
    exact absurd rfl (pget_none.1 hx p hp)
end
theorem modeOf_pset {l : List (Int × Int)} {x y c : Int} : modeOf (pset l x c) y = if x = y then c else modeOf l y := by
  unfold modeOf
  by_cases h : x = y
  · subst h; rw [if_pos rfl, pget_pset_same]; rfl
  · rw [if_neg h, pget_pset_ne h]
theorem modeOf_pdel {l : List (Int × Int)} {x y : Int} (h : x ≠ y) : modeOf (pdel l x) y = modeOf l y := by
  unfold modeOf; rw [pget_pdel_ne h]

/-! ### One thing -/
/-- What is true of a thing: S: the transactions there are; k: how much there is at most. -/
structure TInv (S : List Int) (k : Nat) (hv : List (Int × Int)) (q : List Wi) : Prop where
  hnd : (hv.map (·.1)).Nodup
  hin : ∀ e ∈ hv, (Lit.int .i64 e.1).wf = true
  hS : ∀ e ∈ hv, e.1 ∈ S
  hm : ∀ e ∈ hv, 1 ≤ e.2 ∧ e.2 ≤ 6
  tog : ∀ e ∈ hv, ∀ e' ∈ hv, e.1 ≠ e'.1 → tg e.2 e'.2 = true
  qnd : (q.map (·.txn)).Nodup
  qin : ∀ y ∈ q, (Lit.int .i64 y.txn).wf = true
  qS : ∀ y ∈ q, y.txn ∈ S
  qm : ∀ y ∈ q, 1 ≤ y.mode ∧ y.mode ≤ 6
  qj : ∀ y ∈ q, jn (modeOf hv y.txn) y.mode = y.mode
  qc : ∀ y ∈ q, y.ch = (modeOf hv y.txn != 0)
  qs : q.Pairwise fun a b => b.ch = true → a.ch = true
  len : hv.length + q.length ≤ k
theorem modeOf_ok {hv : List (Int × Int)} (h : ∀ e ∈ hv, 1 ≤ e.2 ∧ e.2 ≤ 6) (t : Int) : okM (modeOf hv t) := by
  unfold modeOf
  cases hx : pget hv t with
  | none => exact ⟨by decide, by decide⟩
  | some x => have := h _ (pget_mem hx); simp only [] at this; exact ⟨by simp; omega, by simp; omega⟩
theorem modeOf_zero {hv : List (Int × Int)} (h : ∀ e ∈ hv, 1 ≤ e.2 ∧ e.2 ≤ 6) (t : Int) : modeOf hv t = 0 ↔ pget hv t = none := by
  unfold modeOf
  cases hx : pget hv t with
  | none => simp
  | some x => have := h _ (pget_mem hx); simp only [] at this; simp; omega
theorem TInv.nil {S : List Int} {k : Nat} : TInv S k [] [] := ⟨by simp, by simp, by simp, by simp, by simp, by simp, by simp, by simp, by simp, by simp, by simp, by simp, by simp⟩
theorem TInv.mono {S S' : List Int} {k k' : Nat} {hv : List (Int × Int)} {q : List Wi} (h : TInv S k hv q) (hS : ∀ x ∈ S, x ∈ S') (hk : k ≤ k') : TInv S' k' hv q :=
  ⟨h.hnd, h.hin, fun e he => hS _ (h.hS e he), h.hm, h.tog, h.qnd, h.qin, fun y hy => hS _ (h.qS y hy), h.qm, h.qj, h.qc, h.qs, by have := h.len; omega⟩
theorem canB_spec {hv : List (Int × Int)} {t m : Int} : canB hv t m = true ↔ ∀ e ∈ hv, e.1 ≠ t → tg e.2 m = true := by
  unfold canB
  rw [List.all_eq_true]
  constructor
  · intro h e he hne
    have := h e he
    simp only [Bool.or_eq_true, beq_iff_eq] at this
    exact this.resolve_left hne
  · intro h e he
    simp only [Bool.or_eq_true, beq_iff_eq]
    by_cases hne : e.1 = t
    · exact .inl hne
    · exact .inr (h e he hne)
/-- A grant. -/
theorem TInv.give {S : List Int} {k : Nat} {hv : List (Int × Int)} {q : List Wi} (h : TInv S k hv q) {t m : Int} (hin : (Lit.int .i64 t).wf = true) (hS : t ∈ S) (hm : 1 ≤ m ∧ m ≤ 6) (hc : canB hv t m = true) (hq : ∀ y ∈ q, y.txn ≠ t) {k' : Nat} (hk : (pset hv t m).length + q.length ≤ k') :
    TInv S k' (pset hv t m) q := by
  have hc' := canB_spec.1 hc
  have ok : ∀ {e : Int × Int}, e ∈ hv → okM e.2 := fun he => ⟨by have := h.hm _ he; omega, (h.hm _ he).2⟩
  have okm : okM m := ⟨by omega, hm.2⟩
  refine ⟨nd_pset h.hnd, fun e he => ?_, fun e he => ?_, fun e he => ?_, fun e he e' he' hne => ?_, h.qnd, h.qin, h.qS, h.qm, fun y hy => ?_, fun y hy => ?_, h.qs, hk⟩
  · rcases pset_memK h.hnd he with rfl | ⟨he, _⟩
    · exact hin
    · exact h.hin e he
  · rcases pset_memK h.hnd he with rfl | ⟨he, _⟩
    · exact hS
    · exact h.hS e he
  · rcases pset_memK h.hnd he with rfl | ⟨he, _⟩
    · exact hm
    · exact h.hm e he
  · rcases pset_memK h.hnd he with rfl | ⟨he, h1⟩
    · rcases pset_memK h.hnd he' with rfl | ⟨he', h2⟩
      · exact absurd rfl hne
      · rw [tg_sym okm (ok he')]; exact hc' _ he' h2
    · rcases pset_memK h.hnd he' with rfl | ⟨he', h2⟩
      · exact hc' _ he h1
      · exact h.tog e he e' he' hne
  · rw [modeOf_pset, if_neg (hq y hy).symm]; exact h.qj y hy
  · rw [modeOf_pset, if_neg (hq y hy).symm]; exact h.qc y hy
/-- The first wish is out. -/
theorem TInv.tail {S : List Int} {k : Nat} {hv : List (Int × Int)} {x : Wi} {q : List Wi} (h : TInv S k hv (x :: q)) : TInv S k hv q := by
  have e : ∀ {y}, y ∈ q → y ∈ x :: q := fun h => List.mem_cons_of_mem _ h
  have h1 := h.qnd
  simp only [List.map_cons, List.nodup_cons] at h1
  have h2 := h.len
  simp only [List.length_cons] at h2
  exact ⟨h.hnd, h.hin, h.hS, h.hm, h.tog, h1.2, fun y hy => h.qin y (e hy), fun y hy => h.qS y (e hy), fun y hy => h.qm y (e hy), fun y hy => h.qj y (e hy), fun y hy => h.qc y (e hy), (List.pairwise_cons.1 h.qs).2, by omega⟩
/-- What serving does to a thing. -/
structure Served {β : Type} (hv : List (Int × Int)) (W : List (Int × β)) (q : List Wi) (sv : Sv β) : Prop where
  split : ∃ d, q = d ++ sv.q ∧ sv.out = d.map (·.txn)
  W : sv.W = sv.out.foldl pdel W
  mode : ∀ t, t ∉ sv.out → modeOf sv.hv t = modeOf hv t
  cov : ∀ t, okM (modeOf sv.hv t) ∧ jn (modeOf hv t) (modeOf sv.hv t) = modeOf sv.hv t
  stop : sv.q = [] ∨ ∃ x l, sv.q = x :: l ∧ canB sv.hv x.txn x.mode = false
  ne : hv ≠ [] → sv.hv ≠ []
theorem servF_inv {β : Type} {S : List Int} {k : Nat} : ∀ (q : List Wi) (hv : List (Int × Int)) (W : List (Int × β)), TInv S k hv q → TInv S k (servF hv W q).hv (servF hv W q).q ∧ Served hv W q (servF hv W q)
  | [], hv, W, h => ⟨h, ⟨⟨[], rfl, rfl⟩, rfl, fun _ _ => rfl, fun t => ⟨modeOf_ok h.hm t, jn_self (modeOf_ok h.hm t)⟩, .inl rfl, fun h => h⟩⟩
  | x :: q, hv, W, h => by
    simp only [servF]
    split
    · rename_i hc
      have hx : x ∈ x :: q := List.mem_cons_self
      have hnd := h.qnd
      simp only [List.map_cons, List.nodup_cons] at hnd
      have hne : ∀ y ∈ q, y.txn ≠ x.txn := fun y hy e => hnd.1 (e ▸ List.mem_map_of_mem hy)
      have hl := h.len
      simp only [List.length_cons] at hl
      have hg := h.tail.give (h.qin x hx) (h.qS x hx) (h.qm x hx) hc hne (k' := k) (by have := pset_len (l := hv) (k := x.txn) (v := x.mode); omega)
      obtain ⟨i1, i2⟩ := servF_inv q (pset hv x.txn x.mode) (pdel W x.txn) hg
      refine ⟨i1, ?_⟩
      obtain ⟨d, e1, e2⟩ := i2.split
      refine ⟨⟨x :: d, by simp only [List.cons_append]; rw [← e1], by simp only [List.map_cons]; rw [e2]⟩, i2.W, fun t ht => ?_, fun t => ?_, i2.stop, fun _ => i2.ne pset_ne_nil⟩
      · simp only [List.mem_cons, not_or] at ht
        rw [i2.mode t ht.2, modeOf_pset, if_neg (fun e => ht.1 e.symm)]
      · have hcv := i2.cov t
        refine ⟨hcv.1, ?_⟩
        by_cases e : x.txn = t
        · subst e
          refine jn_trans (modeOf_ok h.hm _) (modeOf_ok hg.hm _) hcv.1 ?_ hcv.2
          rw [modeOf_pset, if_pos rfl]
          exact h.qj x hx
        · have := hcv.2
          rw [modeOf_pset, if_neg e] at this
          exact this
    · rename_i hc
      exact ⟨h, ⟨⟨[], rfl, rfl⟩, rfl, fun _ _ => rfl, fun t => ⟨modeOf_ok h.hm t, jn_self (modeOf_ok h.hm t)⟩, .inr ⟨x, q, rfl, by simpa using hc⟩, fun h => h⟩⟩
/-- A transaction leaves a thing. -/
theorem TInv.leave {S : List Int} {k : Nat} {hv : List (Int × Int)} {q : List Wi} (h : TInv S k hv q) (t : Int) : TInv (S.filter fun x => !(x == t)) k (pdel hv t) (q.filter fun y => !(y.txn == t)) := by
  have hs : ∀ {e}, e ∈ pdel hv t → e ∈ hv := fun he => pdel_sub.subset he
  have hne := pdel_no (k := t) h.hnd
  have hq : ∀ {y}, y ∈ q.filter (fun y => !(y.txn == t)) → y ∈ q ∧ y.txn ≠ t := fun hy => by
    obtain ⟨h1, h2⟩ := List.mem_filter.1 hy
    exact ⟨h1, by simpa using h2⟩
  refine ⟨nd_pdel h.hnd, fun e he => h.hin e (hs he), fun e he => List.mem_filter.2 ⟨h.hS e (hs he), by simpa using hne e he⟩, fun e he => h.hm e (hs he), fun e he e' he' => h.tog e (hs he) e' (hs he'), h.qnd.sublist (List.filter_sublist.map _),
    fun y hy => h.qin y (hq hy).1, fun y hy => List.mem_filter.2 ⟨h.qS y (hq hy).1, by simpa using (hq hy).2⟩, fun y hy => h.qm y (hq hy).1, fun y hy => ?_, fun y hy => ?_, h.qs.sublist List.filter_sublist, ?_⟩
  · rw [modeOf_pdel (hq hy).2.symm]; exact h.qj y (hq hy).1
  · rw [modeOf_pdel (hq hy).2.symm]; exact h.qc y (hq hy).1
  · have h1 := (pdel_sub (l := hv) (k := t)).length_le
    have h2 := List.length_filter_le (fun y : Wi => !(y.txn == t)) q
    have := h.len
    omega
/-- Nothing of a transaction is there. -/
theorem TInv.without {S : List Int} {k : Nat} {hv : List (Int × Int)} {q : List Wi} (h : TInv S k hv q) {t : Int} (h1 : pget hv t = none) (h2 : ∀ y ∈ q, y.txn ≠ t) : TInv (S.filter fun x => !(x == t)) k hv q :=
  ⟨h.hnd, h.hin, fun e he => List.mem_filter.2 ⟨h.hS e he, by simpa using pget_none.1 h1 e he⟩, h.hm, h.tog, h.qnd, h.qin, fun y hy => List.mem_filter.2 ⟨h.qS y hy, by simpa using h2 y hy⟩, h.qm, h.qj, h.qc, h.qs, h.len⟩
/-- One more wish. -/
theorem TInv.wish {S : List Int} {k : Nat} {hv : List (Int × Int)} {q : List Wi} (h : TInv S k hv q) {t m : Int} (hin : (Lit.int .i64 t).wf = true) (hS : t ∈ S) (hm : 1 ≤ m ∧ m ≤ 6) (hj : jn (modeOf hv t) m = m) (hq : ∀ y ∈ q, y.txn ≠ t) {ch : Bool} (hch : ch = (modeOf hv t != 0)) :
    TInv S (k + 1) hv (q.take (putAt q ch) ++ ⟨t, m, ch⟩ :: q.drop (putAt q ch)) := by
  have hp : (q.take (putAt q ch) ++ ⟨t, m, ch⟩ :: q.drop (putAt q ch)).Perm (⟨t, m, ch⟩ :: q) := by
    refine List.perm_middle.trans ?_
    rw [List.take_append_drop]
  have hmem : ∀ {y}, y ∈ q.take (putAt q ch) ++ ⟨t, m, ch⟩ :: q.drop (putAt q ch) → y = ⟨t, m, ch⟩ ∨ y ∈ q := fun hy => by
    simpa using hp.subset hy
  have hl := h.len
  refine ⟨h.hnd, h.hin, h.hS, h.hm, h.tog, ?_, fun y hy => ?_, fun y hy => ?_, fun y hy => ?_, fun y hy => ?_, fun y hy => ?_, ?_, ?_⟩
  · refine ((hp.map _).nodup_iff).2 ?_
    simp only [List.map_cons, List.nodup_cons]
    refine ⟨fun hx => ?_, h.qnd⟩
    obtain ⟨y, hy, e⟩ := List.mem_map.1 hx
    exact hq y hy e
  · rcases hmem hy with rfl | hy
    · exact hin
    · exact h.qin y hy
  · rcases hmem hy with rfl | hy
    · exact hS
    · exact h.qS y hy
  · rcases hmem hy with rfl | hy
    · exact hm
    · exact h.qm y hy
  · rcases hmem hy with rfl | hy
    · exact hj
    · exact h.qj y hy
  · rcases hmem hy with rfl | hy
    · exact hch
    · exact h.qc y hy
  · cases ch with
    | false =>
      have e : putAt q false = q.length := rfl
      rw [e, List.take_length, List.drop_length, List.pairwise_append]
      exact ⟨h.qs, by simp, fun a _ b hb hbc => by
        obtain rfl : b = ⟨t, m, false⟩ := by simpa using hb
        cases hbc⟩
    | true =>
      have e : putAt q true = (q.findIdx? fun x => !x.ch).getD q.length := rfl
      rw [e]
      have hall : ∀ a ∈ q.take ((q.findIdx? fun x => !x.ch).getD q.length), a.ch = true := by
        intro a ha
        cases hx : q.findIdx? fun x => !x.ch with
        | none =>
          rw [hx] at ha
          have := List.findIdx?_eq_none_iff.1 hx a (List.mem_of_mem_take ha)
          simpa using this
        | some i =>
          rw [hx] at ha
          obtain ⟨j, hj, e'⟩ := List.mem_take_iff_getElem.1 ha
          have := (List.findIdx?_eq_some_iff_getElem.1 hx).2.2 j (by simp at hj; omega)
          simp only [Bool.not_eq_true, Bool.not_eq_false'] at this
          rw [← e']; simpa using this
      rw [List.pairwise_append, List.pairwise_cons]
      refine ⟨h.qs.sublist (List.take_sublist ..), ⟨fun _ _ _ => rfl, h.qs.sublist (List.drop_sublist ..)⟩, fun a ha _ _ _ => hall a ha⟩
  · have := hp.length_eq
    simp only [List.length_cons] at this
    omega
end Go.Proofs.YtpghlemcgjogpaaGreat
