/- The document's table of locks as plain functions on two lists; that it tells what the table tells. -/
import Derived.Test.YtpghlemcgjogpaaGreatDA
set_option linter.unusedVariables false
set_option linter.unusedSimpArgs false
set_option linter.unnecessarySimpa false
set_option maxRecDepth 100000
namespace Go.Proofs.YtpghlemcgjogpaaGreat
open Go.Sx

/-! ### Orders -/
theorem bytesLess_eq : ∀ x y : List UInt8, Go.Op.bytesLess x y = decide (x < y)
  | [], [] => by simp [Go.Op.bytesLess]
  | a :: x, [] => by simp [Go.Op.bytesLess]
  | [], b :: y => by simp [Go.Op.bytesLess]
  | a :: x, b :: y => by
    rw [Go.Op.bytesLess, bytesLess_eq x y, Bool.eq_iff_iff]
    simp only [Bool.or_eq_true, decide_eq_true_eq, Bool.and_eq_true, beq_iff_eq, List.cons_lt_cons_iff]
def ltB (a b : ByteArray) : Bool := Go.Op.bytesLess a.toList b.toList
theorem toList_inj {a b : ByteArray} (h : a.toList = b.toList) : a = b := ByteArray.ext (by
  have := congrArg List.toArray h
  simpa [ByteArray.toList_eq] using this)
theorem ltB_irr (a : ByteArray) : ltB a a = false := by
  unfold ltB; rw [bytesLess_eq, decide_eq_false_iff_not]; exact List.lt_irrefl _
theorem ltB_trans {a b c : ByteArray} (h1 : ltB a b = true) (h2 : ltB b c = true) : ltB a c = true := by
  unfold ltB at *; rw [bytesLess_eq, decide_eq_true_eq] at *; exact List.lt_trans h1 h2
theorem ltB_asymm {a b : ByteArray} (h1 : ltB a b = true) (h2 : ltB b a = true) : False := by
  have := ltB_trans h1 h2; rw [ltB_irr] at this; cases this
theorem ltB_total {a b : ByteArray} (h : a ≠ b) : ltB a b = true ∨ ltB b a = true := by
  unfold ltB
  rw [bytesLess_eq, bytesLess_eq, decide_eq_true_eq, decide_eq_true_eq]
  by_cases h1 : a.toList < b.toList
  · exact .inl h1
  · refine .inr ?_
    by_cases h2 : b.toList < a.toList
    · exact h2
    · exact absurd (toList_inj (List.le_antisymm (List.not_lt.1 h2) (List.not_lt.1 h1))) h
/-- a list in strict order is known by its members -/
theorem srt_ext {α : Type} [DecidableEq α] {r : α → α → Bool} (irr : ∀ a, r a a = false) (asy : ∀ a b, r a b = true → r b a = true → False) {l1 l2 : List α} (h1 : l1.Pairwise fun a b => r a b = true) (h2 : l2.Pairwise fun a b => r a b = true) (hm : ∀ x, x ∈ l1 ↔ x ∈ l2) : l1 = l2 := by
  have nd : ∀ {l : List α}, (l.Pairwise fun a b => r a b = true) → l.Nodup := fun h => h.imp fun hab e => by
    rw [e, irr] at hab; cases hab
  have hp : l1.Perm l2 := (List.perm_ext_iff_of_nodup (nd h1) (nd h2)).2 hm
  exact List.Perm.eq_of_pairwise (le := fun a b => r a b = true) (fun a b _ _ hab hba => (asy a b hab hba).elim) h1 h2 hp
def aheadR (a b : Lk) : Bool := if a.res = b.res then decide (a.txn < b.txn) else ltB a.res b.res
theorem ahead_irr (a : Lk) : aheadR a a = false := by simp [aheadR]
theorem ahead_trans {a b c : Lk} (h1 : aheadR a b = true) (h2 : aheadR b c = true) : aheadR a c = true := by
  unfold aheadR at *
  by_cases e1 : a.res = b.res
  · rw [if_pos e1] at h1
    by_cases e2 : b.res = c.res
    · rw [if_pos e2] at h2
      rw [if_pos (e1.trans e2)]
      simp only [decide_eq_true_eq] at *; omega
    · rw [if_neg e2] at h2
      rw [if_neg (fun e => e2 (e1.symm.trans e)), e1]; exact h2
  · rw [if_neg e1] at h1
    by_cases e2 : b.res = c.res
    · rw [if_pos e2] at h2
      rw [if_neg (fun e => e1 (e.trans e2.symm)), ← e2]; exact h1
    · rw [if_neg e2] at h2
      have := ltB_trans h1 h2
      rw [if_neg (fun e => by rw [e, ltB_irr] at this; cases this)]; exact this
theorem ahead_asymm {a b : Lk} (h1 : aheadR a b = true) (h2 : aheadR b a = true) : False := by
  have := ahead_trans h1 h2; rw [ahead_irr] at this; cases this
def sameK (a b : Lk) : Prop := a.txn = b.txn ∧ a.res = b.res
theorem ahead_total {a b : Lk} (h : ¬ sameK a b) : aheadR a b = true ∨ aheadR b a = true := by
  unfold aheadR sameK at *
  by_cases e1 : a.res = b.res
  · rw [if_pos e1, if_pos e1.symm]
    have : a.txn ≠ b.txn := fun e => h ⟨e, e1⟩
    simp only [decide_eq_true_eq]; omega
  · rw [if_neg e1, if_neg (fun e => e1 e.symm)]
    exact ltB_total e1
theorem ahead_key {a a' b b' : Lk} (h1 : sameK a a') (h2 : sameK b b') : aheadR a b = aheadR a' b' := by
  unfold aheadR; rw [h1.1, h1.2, h2.1, h2.2]
abbrev Srt (H : List Lk) : Prop := H.Pairwise fun a b => aheadR a b = true
theorem Srt.key {H : List Lk} (h : Srt H) {a b : Lk} (ha : a ∈ H) (hb : b ∈ H) (hk : sameK a b) : a = b := by
  have h' := List.pairwise_iff_getElem.1 h
  obtain ⟨i, hi, rfl⟩ := List.mem_iff_getElem.1 ha
  obtain ⟨j, hj, rfl⟩ := List.mem_iff_getElem.1 hb
  have no : ∀ {i j : Nat} (hi : i < H.length) (hj : j < H.length), i < j → ¬ sameK H[i] H[j] := fun hi hj hij hk => by
    have := h' _ _ hi hj hij
    rw [ahead_key hk ⟨rfl, rfl⟩, ahead_irr] at this; cases this
  rcases Nat.lt_trichotomy i j with hij | hij | hij
  · exact absurd hk (no hi hj hij)
  · subst hij; rfl
  · exact absurd ⟨hk.1.symm, hk.2.symm⟩ (no hj hi hij)

/-! ### What the lists say of a table -/
structure HSim (A : Abs) (H : List Lk) : Prop where
  srt : Srt H
  mem : ∀ l, l ∈ H ↔ pget (thF A l.res).1 l.txn = some l.mode
theorem HSim.eq {A : Abs} {H H' : List Lk} (h : HSim A H) (h' : HSim A H') : H = H' :=
  srt_ext ahead_irr (fun _ _ => ahead_asymm) h.srt h'.srt fun l => (h.mem l).trans (h'.mem l).symm
theorem sortI_srt {l : List Int} (h : l.Nodup) : (sortI l).Pairwise fun a b => a < b := by
  have tr : ∀ a b c : Int, decide (a ≤ b) = true → decide (b ≤ c) = true → decide (a ≤ c) = true := fun a b c h1 h2 => by simp only [decide_eq_true_eq] at *; omega
  have to : ∀ a b : Int, (decide (a ≤ b) || decide (b ≤ a)) = true := fun a b => by simp only [Bool.or_eq_true, decide_eq_true_eq]; omega
  have h1 : (sortI l).Pairwise fun a b => decide (a ≤ b) = true := List.pairwise_mergeSort tr to l
  have h2 : (sortI l).Nodup := (sortI_perm l).nodup_iff.2 h
  exact (h1.and h2).imp fun ⟨a, b⟩ => by simp only [decide_eq_true_eq] at a; omega
theorem sortS_srt {l : List ByteArray} (h : l.Nodup) : (sortS l).Pairwise fun a b => ltB a b = true := by
  have h2 : (sortS l).Nodup := (sortS_perm l).nodup_iff.2 h
  have tr : ∀ a b c : List UInt8, leB a b = true → leB b c = true → leB a c = true := fun a b c h1 h2 => by simp only [leB, decide_eq_true_eq] at *; exact List.le_trans h1 h2
  have to : ∀ a b : List UInt8, (leB a b || leB b a) = true := fun a b => by simp only [leB, Bool.or_eq_true, decide_eq_true_eq]; exact List.le_total a b
  have h1 : (sortS l).Pairwise fun a b => ltB b a = false := by
    unfold sortS
    rw [List.pairwise_map]
    refine (List.pairwise_mergeSort tr to _).imp fun {x y} hxy => ?_
    unfold ltB
    rw [bytesLess_eq, decide_eq_false_iff_not]
    simp only [leB, decide_eq_true_eq] at hxy
    rw [ByteArray.toList_eq, ByteArray.toList_eq]
    exact List.not_lt.2 hxy
  exact (h1.and h2).imp fun ⟨a, b⟩ => (ltB_total b).resolve_right (by rw [a]; simp)
theorem locks_sim {S : List Int} {k : Nat} {A : Abs} (h : Inv S k A) : HSim A (locksF A) := by
  refine ⟨?_, fun l => ⟨fun hl => ?_, fun hl => ?_⟩⟩
  · unfold locksF
    show List.Pairwise _ _
    rw [List.pairwise_flatMap]
    refine ⟨fun r _ => ?_, (sortS_srt h.nd).imp fun {r r'} hrr x hx y hy => ?_⟩
    · unfold locksAt
      cases hx : pget A.things r with
      | none => simp
      | some x =>
        simp only []
        rw [List.pairwise_map]
        refine (sortI_srt (h.th _ (pget_mem hx)).hnd).imp fun {a b} hab => ?_
        simp [aheadR, hab]
    · have e1 := (locksAt_mem hx).1
      have e2 := (locksAt_mem hy).1
      have : r ≠ r' := fun e => by rw [e, ltB_irr] at hrr; cases hrr
      unfold aheadR
      rw [if_neg (fun e => this (by rw [← e1, ← e2]; exact e)), e1, e2]
      exact hrr
  · exact pget_nd (h.thOf l.res).hnd (locks_of h hl).mem
  · have hk : ∃ x, pget A.things l.res = some x := by
      cases hx : pget A.things l.res with
      | some x => exact ⟨x, rfl⟩
      | none => unfold thF at hl; rw [hx] at hl; cases hl
    obtain ⟨x, hx⟩ := hk
    have e : thF A l.res = x := by unfold thF; rw [hx]; rfl
    rw [e] at hl
    refine List.mem_flatMap.2 ⟨l.res, (sortS_perm _).symm.subset (List.mem_map.2 ⟨_, pget_mem hx, rfl⟩), ?_⟩
    unfold locksAt
    rw [hx]
    refine List.mem_map.2 ⟨l.txn, (sortI_perm _).symm.subset (List.mem_map.2 ⟨_, pget_mem hl, rfl⟩), ?_⟩
    unfold modeOf
    rw [hl]; rfl
/-- A wish of the document's table. -/
structure Ws where
  l : Lk
  ch : Bool
  deriving DecidableEq
def qsel (Wt : List Ws) (r : ByteArray) (c : Bool) : List Ws := Wt.filter fun x => decide (x.l.res = r) && (x.ch == c)
def queueR (Wt : List Ws) (r : ByteArray) : List Lk := (qsel Wt r true ++ qsel Wt r false).map (·.l)
def asW (r : ByteArray) (y : Wi) : Ws := ⟨⟨y.txn, r, y.mode⟩, y.ch⟩
structure WSim (A : Abs) (Wt : List Ws) : Prop where
  q : ∀ r, qsel Wt r true ++ qsel Wt r false = (thF A r).2.map (asW r)
  nd : (Wt.map (·.l.txn)).Nodup
theorem qsel_mem {Wt : List Ws} {x : Ws} {r : ByteArray} : x ∈ qsel Wt r true ++ qsel Wt r false ↔ x ∈ Wt ∧ x.l.res = r := by
  unfold qsel
  rw [List.mem_append, List.mem_filter, List.mem_filter]
  cases hx : x.ch <;> simp [hx]
theorem WSim.mem {A : Abs} {Wt : List Ws} (h : WSim A Wt) (x : Ws) : x ∈ Wt ↔ ∃ y ∈ (thF A x.l.res).2, asW x.l.res y = x := by
  have := qsel_mem (Wt := Wt) (x := x) (r := x.l.res)
  rw [h.q, List.mem_map] at this
  exact (this.trans (by simp)).symm
theorem WSim.of {A : Abs} {Wt : List Ws} (h : WSim A Wt) {r : ByteArray} {y : Wi} (hy : y ∈ (thF A r).2) : asW r y ∈ Wt := (h.mem _).2 ⟨y, hy, rfl⟩
theorem nd_uniq {Wt : List Ws} (h : (Wt.map (·.l.txn)).Nodup) {a b : Ws} (ha : a ∈ Wt) (hb : b ∈ Wt) (e : a.l.txn = b.l.txn) : a = b := by
  induction Wt with
  | nil => cases ha
  | cons c l ih =>
    simp only [List.map_cons, List.nodup_cons] at h
    rcases List.mem_cons.1 ha with ha1 | ha1
    · rcases List.mem_cons.1 hb with hb1 | hb1
      · rw [ha1, hb1]
      · exact absurd (List.mem_map.2 ⟨b, hb1, by rw [← ha1]; exact e.symm⟩) h.1
    · rcases List.mem_cons.1 hb with hb1 | hb1
      · exact absurd (List.mem_map.2 ⟨a, ha1, by rw [← hb1]; exact e⟩) h.1
      · exact ih h.2 ha1 hb1
theorem queueF_th (A : Abs) (r : ByteArray) : queueF A r = (thF A r).2.map fun y => ⟨y.txn, r, y.mode⟩ := by
  unfold queueF thF
  cases pget A.things r <;> rfl
theorem queue_sim {A : Abs} {Wt : List Ws} (h : WSim A Wt) (r : ByteArray) : queueR Wt r = queueF A r := by
  unfold queueR
  rw [h.q, queueF_th, List.map_map]; rfl
def wishR (Wt : List Ws) (t : Int) : Lk × Bool := match Wt.find? fun x => x.l.txn == t with | some x => (x.l, true) | none => (⟨0, ByteArray.empty, 0⟩, false)
theorem wish_sim {S : List Int} {k : Nat} {A : Abs} (h : Inv S k A) {Wt : List Ws} (hw : WSim A Wt) (t : Int) : wishR Wt t = wishF A t ∧ (wishR Wt t).2 = (pget A.waits t).isSome ∧ ∀ r, pget A.waits t = some r → (wishR Wt t).1.res = r := by
  unfold wishR wishF
  cases hx : pget A.waits t with
  | none =>
    have hn : Wt.find? (fun x => x.l.txn == t) = none := by
      rw [List.find?_eq_none]
      intro x hxw
      obtain ⟨y, hy, e⟩ := (hw.mem x).1 hxw
      have := h.qwOf _ y hy
      simp only [beq_iff_eq]
      intro e'
      rw [← e] at e'
      simp only [asW] at e'
      rw [e', hx] at this; cases this
    rw [hn]
    exact ⟨rfl, rfl, fun r hr => by cases hr⟩
  | some r =>
    obtain ⟨x, hr, y, hy, e⟩ := h.wq _ (pget_mem hx)
    simp only [] at hr e
    have hth : thF A r = x := by unfold thF; rw [hr]; rfl
    have hyr : y ∈ (thF A r).2 := by rw [hth]; exact hy
    have hin := hw.of hyr
    cases hf : Wt.find? fun x => x.l.txn == t with
    | none =>
      have := List.find?_eq_none.1 hf _ hin
      simp [asW, e] at this
    | some z =>
      have hz := List.find?_some hf
      have hzm := List.mem_of_find?_eq_some hf
      have hzy : z = asW r y := nd_uniq hw.nd hzm hin (by simpa [asW, e] using hz)
      have hql : (queueF A r).find? (fun l => l.txn == t) = some (asW r y).l := by
        rw [queueF_th]
        cases hg : ((thF A r).2.map fun y => (⟨y.txn, r, y.mode⟩ : Lk)).find? fun l => l.txn == t with
        | none =>
          have := List.find?_eq_none.1 hg ⟨y.txn, r, y.mode⟩ (List.mem_map.2 ⟨y, hyr, rfl⟩)
          simp [e] at this
        | some l =>
          have h1 := List.find?_some hg
          obtain ⟨y', hy', rfl⟩ := List.mem_map.1 (List.mem_of_find?_eq_some hg)
          have h2 : asW r y' = asW r y := nd_uniq hw.nd (hw.of hy') hin (by
            simp only [asW]
            rw [e]; simpa using h1)
          have := congrArg Ws.l h2
          rw [← this]; rfl
      simp only [hql, hzy]
      refine ⟨by first | rfl | trivial, by first | rfl | trivial, fun r' hr' => by cases hr'; rfl⟩
def modeR (H : List Lk) (t : Int) (r : ByteArray) : Int := match H.find? fun h => (h.txn == t) && decide (h.res = r) with | some h => h.mode | none => 0
theorem modeR_of {H : List Lk} (hs : Srt H) {t : Int} {r : ByteArray} {o : Option Int} (h : ∀ m, (⟨t, r, m⟩ : Lk) ∈ H ↔ o = some m) : modeR H t r = o.getD 0 := by
  unfold modeR
  cases hf : H.find? fun h => (h.txn == t) && decide (h.res = r) with
  | none =>
    cases o with
    | none => rfl
    | some m =>
      have := List.find?_eq_none.1 hf _ ((h m).2 rfl)
      simp at this
  | some z =>
    have hz := List.find?_some hf
    have hzm := List.mem_of_find?_eq_some hf
    simp only [Bool.and_eq_true, beq_iff_eq, decide_eq_true_eq] at hz
    obtain ⟨a, b, c⟩ := z
    simp only [] at hz
    obtain ⟨rfl, rfl⟩ := hz
    rw [(h c).1 hzm]; rfl
theorem mode_sim {A : Abs} {H : List Lk} (hs : HSim A H) (t : Int) (r : ByteArray) : modeR H t r = modeF A t r :=
  modeR_of hs.srt fun m => hs.mem ⟨t, r, m⟩
def canR (H : List Lk) (l : Lk) : Bool := H.all fun h => !(decide (h.res = l.res) && (h.txn != l.txn) && !tg h.mode l.mode)
theorem canR_of {H : List Lk} {hv : List (Int × Int)} (hnd : (hv.map (·.1)).Nodup) {r : ByteArray} (h : ∀ l, l.res = r → (l ∈ H ↔ pget hv l.txn = some l.mode)) (t m : Int) : canR H ⟨t, r, m⟩ = canB hv t m := by
  rw [Bool.eq_iff_iff, canB_spec]
  unfold canR
  rw [List.all_eq_true]
  constructor
  · intro hc e he hne
    have h1 := hc ⟨e.1, r, e.2⟩ ((h _ rfl).2 (pget_nd hnd he))
    simpa [hne] using h1
  · intro hc l hl
    by_cases e1 : l.res = r
    · by_cases e2 : l.txn = t
      · simp [e2]
      · have := hc _ (pget_mem ((h l e1).1 hl)) e2
        simp only [] at this
        simp [this]
    · simp [e1]
theorem can_sim {S : List Int} {k : Nat} {A : Abs} (hi : Inv S k A) {H : List Lk} (hs : HSim A H) (t : Int) (r : ByteArray) (m : Int) : canR H ⟨t, r, m⟩ = canB (thF A r).1 t m :=
  canR_of (hi.thOf r).hnd (fun l e => by rw [hs.mem l, e]) t m

/-! ### Giving -/
def insPos (H : List Lk) (l : Lk) : Nat → Nat
  | 0 => 0
  | n + 1 => match H[n]? with
    | some y => if aheadR l y = true then insPos H l n else n + 1
    | none => n + 1
def keyB (l h : Lk) : Bool := (h.txn == l.txn) && decide (h.res = l.res)
def giveR (H : List Lk) (l : Lk) : List Lk := match H.findIdx? (keyB l) with
  | some i => H.set i l
  | none => H.take (insPos H l H.length) ++ l :: H.drop (insPos H l H.length)
theorem keyB_iff {l h : Lk} : keyB l h = true ↔ sameK h l := by simp [keyB, sameK]
theorem insPos_spec (H : List Lk) (l : Lk) : ∀ n, n ≤ H.length → insPos H l n ≤ n ∧ (∀ j y, insPos H l n ≤ j → j < n → H[j]? = some y → aheadR l y = true) ∧ (insPos H l n = 0 ∨ ∃ y, H[insPos H l n - 1]? = some y ∧ aheadR l y = false)
  | 0, _ => ⟨Nat.le_refl _, fun j y _ hj => by omega, .inl rfl⟩
  | n + 1, hn => by
    obtain ⟨y, hy⟩ : ∃ y, H[n]? = some y := ⟨H[n], List.getElem?_eq_getElem (by omega)⟩
    unfold insPos
    rw [hy]
    simp only []
    by_cases ha : aheadR l y = true
    · rw [if_pos ha]
      obtain ⟨h1, h2, h3⟩ := insPos_spec H l n (by omega)
      refine ⟨by omega, fun j z hj hjn hz => ?_, h3⟩
      by_cases e : j = n
      · subst e; rw [hy] at hz; cases hz; exact ha
      · exact h2 j z hj (by omega) hz
    · rw [if_neg ha]
      refine ⟨Nat.le_refl _, fun j z hj hjn => by omega, .inr ⟨y, by simpa using hy, by simpa using ha⟩⟩
theorem giveR_spec {H : List Lk} (hs : Srt H) (l : Lk) : Srt (giveR H l) ∧ ∀ x, x ∈ giveR H l ↔ x = l ∨ (x ∈ H ∧ ¬ sameK x l) := by
  unfold giveR
  cases hf : H.findIdx? (keyB l) with
  | some i =>
    obtain ⟨hi, hk, _⟩ := List.findIdx?_eq_some_iff_getElem.1 hf
    have hki := keyB_iff.1 hk
    have hspl : H = H.take i ++ H[i] :: H.drop (i + 1) := by rw [← List.drop_eq_getElem_cons hi, List.take_append_drop]
    have hset : H.set i l = H.take i ++ l :: H.drop (i + 1) := List.set_eq_take_append_cons_drop .. |>.trans (by rw [if_pos hi])
    have hs' : List.Pairwise (fun a b => aheadR a b = true) (H.take i ++ H[i] :: H.drop (i + 1)) := by rw [← hspl]; exact hs
    rw [List.pairwise_append, List.pairwise_cons] at hs'
    obtain ⟨p1, ⟨p2, p3⟩, p4⟩ := hs'
    simp only [hset]
    refine ⟨?_, fun x => ?_⟩
    · show List.Pairwise _ _
      rw [List.pairwise_append, List.pairwise_cons]
      refine ⟨p1, ⟨fun b hb => ?_, p3⟩, fun a ha b hb => ?_⟩
      · rw [← ahead_key hki ⟨rfl, rfl⟩]; exact p2 b hb
      · rcases List.mem_cons.1 hb with rfl | hb
        · rw [← ahead_key ⟨rfl, rfl⟩ hki]; exact p4 a ha _ List.mem_cons_self
        · exact p4 a ha b (List.mem_cons_of_mem _ hb)
    · have hno : ∀ y, y ∈ H.take i ∨ y ∈ H.drop (i + 1) → ¬ sameK y l := fun y hy hyl => by
        have hyi : sameK y H[i] := ⟨hyl.1.trans hki.1.symm, hyl.2.trans hki.2.symm⟩
        rcases hy with hy | hy
        · have := p4 y hy _ List.mem_cons_self
          rw [ahead_key hyi ⟨rfl, rfl⟩, ahead_irr] at this; cases this
        · have := p2 y hy
          rw [ahead_key ⟨rfl, rfl⟩ hyi, ahead_irr] at this; cases this
      have hxH : x ∈ H ↔ x ∈ H.take i ∨ x = H[i] ∨ x ∈ H.drop (i + 1) := by
        conv => lhs; rw [hspl]
        rw [List.mem_append, List.mem_cons]
      rw [List.mem_append, List.mem_cons, hxH]
      constructor
      · rintro (h | h | h)
        · exact .inr ⟨.inl h, hno x (.inl h)⟩
        · exact .inl h
        · exact .inr ⟨.inr (.inr h), hno x (.inr h)⟩
      · rintro (h | ⟨h | h | h, hn⟩)
        · exact .inr (.inl h)
        · exact .inl h
        · exact absurd (h ▸ hki) hn
        · exact .inr (.inr h)
  | none =>
    have hno : ∀ y ∈ H, ¬ sameK y l := fun y hy hk => by
      have := List.findIdx?_eq_none_iff.1 hf y hy
      rw [keyB_iff.2 hk] at this; cases this
    obtain ⟨h1, h2, h3⟩ := insPos_spec H l H.length (Nat.le_refl _)
    generalize insPos H l H.length = p at h1 h2 h3
    simp only []
    refine ⟨?_, fun x => ?_⟩
    · show List.Pairwise _ _
      rw [List.pairwise_append, List.pairwise_cons]
      have hdr : ∀ y ∈ H.drop p, aheadR l y = true := fun y hy => by
        obtain ⟨j, hj, e⟩ := List.mem_iff_getElem.1 hy
        rw [List.getElem_drop] at e
        rw [List.length_drop] at hj
        exact h2 (p + j) y (by omega) (by omega) (by rw [List.getElem?_eq_getElem (by omega), e])
      have htk : ∀ y ∈ H.take p, aheadR y l = true := fun y hy => by
        rcases h3 with h3 | ⟨z, hz, hzl⟩
        · rw [h3] at hy; simp at hy
        · obtain ⟨j, hj, e⟩ := List.mem_take_iff_getElem.1 hy
          obtain ⟨hp', hz'⟩ := List.getElem?_eq_some_iff.1 hz
          have hzH : z ∈ H := by rw [← hz']; exact List.getElem_mem _
          have hzl' : aheadR z l = true := (ahead_total (hno z hzH)).resolve_right (by rw [hzl]; simp)
          by_cases hjp : j = p - 1
          · subst hjp
            rw [← e, hz']; exact hzl'
          · have := List.pairwise_iff_getElem.1 hs j (p - 1) (by omega) hp' (by omega)
            rw [e, hz'] at this
            exact ahead_trans this hzl'
      refine ⟨hs.sublist (List.take_sublist ..), ⟨hdr, hs.sublist (List.drop_sublist ..)⟩, fun a ha b hb => ?_⟩
      rcases List.mem_cons.1 hb with rfl | hb
      · exact htk a ha
      · exact ahead_trans (htk a ha) (hdr b hb)
    · rw [List.mem_append, List.mem_cons]
      have : x ∈ H ↔ x ∈ H.take p ∨ x ∈ H.drop p := by
        conv => lhs; rw [← List.take_append_drop p H]
        rw [List.mem_append]
      constructor
      · rintro (h | h | h)
        · exact .inr ⟨this.2 (.inl h), hno x (this.2 (.inl h))⟩
        · exact .inl h
        · exact .inr ⟨this.2 (.inr h), hno x (this.2 (.inr h))⟩
      · rintro (h | ⟨h, _⟩)
        · exact .inr (.inl h)
        · rcases this.1 h with h | h
          · exact .inl h
          · exact .inr (.inr h)
theorem giveR_len (H : List Lk) (l : Lk) : (giveR H l).length ≤ H.length + 1 := by
  unfold giveR
  cases H.findIdx? (keyB l) with
  | some i => simp
  | none => simp only [List.length_append, List.length_cons, List.length_take, List.length_drop]; omega
/-- Giving at one thing. -/
theorem giveR_at {H : List Lk} (hs : Srt H) {hv : List (Int × Int)} {r : ByteArray} (h : ∀ l, l.res = r → (l ∈ H ↔ pget hv l.txn = some l.mode)) (t m : Int) :
    (∀ l, l.res = r → (l ∈ giveR H ⟨t, r, m⟩ ↔ pget (pset hv t m) l.txn = some l.mode)) ∧ ∀ l, l.res ≠ r → (l ∈ giveR H ⟨t, r, m⟩ ↔ l ∈ H) := by
  have hg := (giveR_spec hs ⟨t, r, m⟩).2
  refine ⟨fun l e => ?_, fun l e => ?_⟩
  · rw [hg l, h l e]
    by_cases e' : t = l.txn
    · rw [e', pget_pset_same]
      constructor
      · rintro (h1 | ⟨_, h1⟩)
        · rw [h1]
        · exact absurd ⟨e'.symm ▸ rfl, e⟩ h1
      · intro h1
        refine .inl ?_
        obtain ⟨a, b, c⟩ := l
        simp only [Option.some.injEq] at h1 e e'
        subst h1 e e'; rfl
    · rw [pget_pset_ne e']
      constructor
      · rintro (h1 | ⟨h1, _⟩)
        · exact absurd (by rw [h1]) e'
        · exact h1
      · exact fun h1 => .inr ⟨h1, fun hk => e' hk.1.symm⟩
  · rw [hg l]
    constructor
    · rintro (h1 | ⟨h1, _⟩)
      · exact absurd (by rw [h1]) e
      · exact h1
    · exact fun h1 => .inr ⟨h1, fun hk => e hk.2⟩
end Go.Proofs.YtpghlemcgjogpaaGreat
