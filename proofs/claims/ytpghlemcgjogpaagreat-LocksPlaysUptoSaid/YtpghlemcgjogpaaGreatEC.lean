/- The document's table of locks: its edges are the table's. -/
import Derived.Test.YtpghlemcgjogpaaGreatEB
set_option linter.unusedVariables false
set_option linter.unusedSimpArgs false
set_option linter.unnecessarySimpa false
set_option maxRecDepth 100000
namespace Go.Proofs.YtpghlemcgjogpaaGreat
open Go.Sx Go.RowKit Go.Sort Go.Shelf Go.Proofs

abbrev SrtE (l : List Ed) : Prop := l.Pairwise fun a b => ltOf cmpE a b = true
theorem ltE_irr (a : Ed) : ltOf cmpE a a = false := swoE.irrefl a
theorem ltE_asymm {a b : Ed} (h1 : ltOf cmpE a b = true) (h2 : ltOf cmpE b a = true) : False := by
  have := swoE.trans _ _ _ h1 h2; rw [ltE_irr] at this; cases this
theorem ltE_total {a b : Ed} (h : a ≠ b) : ltOf cmpE a b = true ∨ ltOf cmpE b a = true := by
  cases h1 : ltOf cmpE a b with
  | true => exact .inl rfl
  | false =>
    cases h2 : ltOf cmpE b a with
    | true => exact .inr rfl
    | false => exact absurd (totE a b h1 h2) h
theorem compF_spec : ∀ l : List Ed, (l.Pairwise fun a b => ltOf cmpE b a = false) → SrtE (compF l) ∧ (∀ e, e ∈ compF l ↔ e ∈ l) ∧ (compF l).head? = l.head?
  | [], _ => ⟨by simp [compF], by simp [compF], rfl⟩
  | [x], _ => ⟨by simp [compF], by simp [compF], rfl⟩
  | x :: y :: l, h => by
    rw [List.pairwise_cons] at h
    obtain ⟨h1, h2, h3⟩ := compF_spec (y :: l) h.2
    unfold compF
    by_cases e : x = y
    · rw [if_pos e]
      subst e
      exact ⟨h1, fun e => by rw [h2]; simp, by rw [h3]; rfl⟩
    · rw [if_neg e]
      refine ⟨?_, fun e => by rw [List.mem_cons, h2, List.mem_cons, List.mem_cons, List.mem_cons], rfl⟩
      show List.Pairwise _ _
      rw [List.pairwise_cons]
      refine ⟨fun b hb => ?_, h1⟩
      have hxy : ltOf cmpE x y = true := (ltE_total e).resolve_right (by rw [h.1 y List.mem_cons_self]; simp)
      cases hc : compF (y :: l) with
      | nil => rw [hc] at hb; cases hb
      | cons c l' =>
        rw [hc] at h3 hb h1
        have : c = y := by simpa using h3
        subst this
        rcases List.mem_cons.1 hb with rfl | hb
        · exact hxy
        · exact swoE.trans _ _ _ hxy ((List.pairwise_cons.1 h1).1 b hb)
theorem edgesF_spec (A : Abs) : SrtE (edgesF A) ∧ ∀ e, e ∈ edgesF A ↔ ∃ p ∈ A.waits, e ∈ edgesOf A p := by
  unfold edgesF
  have tr : ∀ a b c : Ed, (!(ltOf cmpE) b a) = true → (!(ltOf cmpE) c b) = true → (!(ltOf cmpE) c a) = true := fun a b c h1 h2 => by
    simp only [Bool.not_eq_true'] at *; exact swoE.ntrans c b a h2 h1
  have to : ∀ a b : Ed, ((!(ltOf cmpE) b a) || (!(ltOf cmpE) a b)) = true := fun a b => by
    rw [ltE, ltE]; simp only [Bool.or_eq_true, Bool.not_eq_true', decide_eq_false_iff_not]; omega
  have hs : (sortEd (A.waits.flatMap (edgesOf A))).Pairwise fun a b => ltOf cmpE b a = false :=
    (List.pairwise_mergeSort tr to _).imp fun h => by simpa using h
  obtain ⟨h1, h2, _⟩ := compF_spec _ hs
  refine ⟨h1, fun e => ?_⟩
  rw [h2 e]
  have := (List.mergeSort_perm (A.waits.flatMap (edgesOf A)) fun x y => !(ltOf cmpE) y x).mem_iff (a := e)
  exact this.trans List.mem_flatMap
def conflR (l h : Lk) : Bool := decide (h.res = l.res) && (h.txn != l.txn) && !tg h.mode l.mode
def insE : List Ed → Ed → List Ed
  | [], e => [e]
  | x :: l, e => if ltOf cmpE e x = true then e :: x :: l else x :: insE l e
def edgeR (l : List Ed) (e : Ed) : List Ed := if e ∈ l then l else insE l e
theorem insE_spec : ∀ (l : List Ed) (e : Ed), SrtE l → e ∉ l → SrtE (insE l e) ∧ ∀ x, x ∈ insE l e ↔ x = e ∨ x ∈ l
  | [], e, _, _ => ⟨by simp [insE], by simp [insE]⟩
  | y :: l, e, hs, hn => by
    have hs' := List.pairwise_cons.1 hs
    simp only [List.mem_cons, not_or] at hn
    unfold insE
    by_cases h : ltOf cmpE e y = true
    · rw [if_pos h]
      refine ⟨?_, fun x => by simp⟩
      show List.Pairwise _ _
      rw [List.pairwise_cons]
      refine ⟨fun b hb => ?_, hs⟩
      rcases List.mem_cons.1 hb with rfl | hb
      · exact h
      · exact swoE.trans _ _ _ h (hs'.1 b hb)
    · rw [if_neg h]
      obtain ⟨h1, h2⟩ := insE_spec l e hs'.2 hn.2
      have hye : ltOf cmpE y e = true := (ltE_total hn.1).resolve_left h
      refine ⟨?_, fun x => by rw [List.mem_cons, h2, List.mem_cons]; exact ⟨fun h => by rcases h with h | h | h; exact .inr (.inl h); exact .inl h; exact .inr (.inr h), fun h => by rcases h with h | h | h; exact .inr (.inl h); exact .inl h; exact .inr (.inr h)⟩⟩
      show List.Pairwise _ _
      rw [List.pairwise_cons]
      refine ⟨fun b hb => ?_, h1⟩
      rcases (h2 b).1 hb with rfl | hb
      · exact hye
      · exact hs'.1 b hb
theorem edgeR_spec (l : List Ed) (e : Ed) (hs : SrtE l) : SrtE (edgeR l e) ∧ ∀ x, x ∈ edgeR l e ↔ x = e ∨ x ∈ l := by
  unfold edgeR
  by_cases h : e ∈ l
  · rw [if_pos h]
    exact ⟨hs, fun x => ⟨.inr, fun hx => hx.elim (fun e' => e' ▸ h) id⟩⟩
  · rw [if_neg h]
    exact insE_spec l e hs h
theorem edges_fold {α : Type} (f : α → Ed) : ∀ (l : List α) (out : List Ed), SrtE out → SrtE (l.foldl (fun o q => edgeR o (f q)) out) ∧ ∀ e, e ∈ l.foldl (fun o q => edgeR o (f q)) out ↔ e ∈ out ∨ ∃ q ∈ l, f q = e
  | [], out, hs => ⟨hs, by simp⟩
  | x :: l, out, hs => by
    obtain ⟨h1, h2⟩ := edgeR_spec out (f x) hs
    obtain ⟨h3, h4⟩ := edges_fold f l (edgeR out (f x)) h1
    refine ⟨h3, fun e => ?_⟩
    rw [List.foldl_cons, h4 e, h2 e]
    simp only [List.mem_cons, exists_eq_or_imp]
    constructor
    · rintro ((h | h) | h)
      · exact .inr (.inl h.symm)
      · exact .inl h
      · exact .inr (.inr h)
    · rintro (h | h | h)
      · exact .inl (.inr h)
      · exact .inl (.inl h.symm)
      · exact .inr h
def edgesH (H : List Lk) (x : Ws) (out : List Ed) : List Ed := (H.filter (conflR x.l)).foldl (fun o h => edgeR o ⟨x.l.txn, h.txn⟩) out
def edgesQ (Wt : List Ws) (x : Ws) (out : List Ed) : List Ed := ((queueR Wt x.l.res).takeWhile fun q => q.txn != x.l.txn).foldl (fun o q => edgeR o ⟨x.l.txn, q.txn⟩) out
def edgesR (H : List Lk) (Wt : List Ws) : List Ed := Wt.foldl (fun out x => edgesQ Wt x (edgesH H x out)) []
theorem edgesR_fold (H : List Lk) (Wt : List Ws) : ∀ (l : List Ws) (out : List Ed), SrtE out → SrtE (l.foldl (fun out x => edgesQ Wt x (edgesH H x out)) out) ∧
    ∀ e, e ∈ l.foldl (fun out x => edgesQ Wt x (edgesH H x out)) out ↔ e ∈ out ∨ ∃ x ∈ l, (∃ h ∈ H.filter (conflR x.l), (⟨x.l.txn, h.txn⟩ : Ed) = e) ∨ ∃ q ∈ (queueR Wt x.l.res).takeWhile (fun q => q.txn != x.l.txn), (⟨x.l.txn, q.txn⟩ : Ed) = e
  | [], out, hs => ⟨hs, by simp⟩
  | x :: l, out, hs => by
    obtain ⟨h1, h2⟩ := edges_fold (fun h : Lk => (⟨x.l.txn, h.txn⟩ : Ed)) (H.filter (conflR x.l)) out hs
    obtain ⟨h3, h4⟩ := edges_fold (fun q : Lk => (⟨x.l.txn, q.txn⟩ : Ed)) ((queueR Wt x.l.res).takeWhile fun q => q.txn != x.l.txn) _ h1
    obtain ⟨h5, h6⟩ := edgesR_fold H Wt l _ h3
    refine ⟨h5, fun e => ?_⟩
    rw [List.foldl_cons]
    refine (h6 e).trans ?_
    rw [h4 e, h2 e]
    simp only [List.mem_cons, exists_eq_or_imp]
    constructor
    · rintro (((h | h) | h) | h)
      · exact .inl h
      · exact .inr (.inl (.inl h))
      · exact .inr (.inl (.inr h))
      · exact .inr (.inr h)
    · rintro (h | (h | h) | h)
      · exact .inl (.inl (.inl h))
      · exact .inl (.inl (.inr h))
      · exact .inl (.inr h)
      · exact .inr h
theorem takeWhile_idx {α : Type} (p : α → Bool) : ∀ (l : List α) (i : Nat), l.findIdx? (fun x => !p x) = some i → l.takeWhile p = l.take i
  | [], i, h => by simp at h
  | x :: l, i, h => by
    rw [List.findIdx?_cons] at h
    cases hp : p x with
    | false =>
      rw [hp] at h
      simp only [Bool.not_false, if_true, Option.some.injEq] at h
      subst h
      simp [List.takeWhile_cons, hp]
    | true =>
      rw [hp] at h
      simp only [Bool.not_true, Bool.false_eq_true, if_false, Option.map_eq_some_iff] at h
      obtain ⟨j, hj, rfl⟩ := h
      rw [List.takeWhile_cons, hp, if_pos rfl, takeWhile_idx p l j hj, List.take_succ_cons]
theorem edges_sim {S : List Int} {k : Nat} {A : Abs} (h : Inv S k A) {H : List Lk} (hs : HSim A H) {Wt : List Ws} (hw : WSim A Wt) : edgesR H Wt = edgesF A := by
  obtain ⟨h1, h2⟩ := edgesR_fold H Wt Wt [] (by simp)
  obtain ⟨h3, h4⟩ := edgesF_spec A
  -- one that waits: what its edges are on both sides
  have one : ∀ (r : ByteArray) (y : Wi), y ∈ (thF A r).2 → ∀ e, ((∃ l ∈ H.filter (conflR (asW r y).l), (⟨y.txn, l.txn⟩ : Ed) = e) ∨ ∃ q ∈ (queueR Wt r).takeWhile (fun q => q.txn != y.txn), (⟨y.txn, q.txn⟩ : Ed) = e) ↔ e ∈ edgesOf A (y.txn, r) := by
    intro r y hy e
    have hx : pget A.things r = some (thF A r) := by
      unfold thF at hy ⊢
      cases hx : pget A.things r with
      | some x => rfl
      | none => rw [hx] at hy; cases hy
    have hT := h.thOf r
    obtain ⟨i, hi⟩ : ∃ i, ((thF A r).2.findIdx? fun z => z.txn == y.txn) = some i := by
      cases hi : (thF A r).2.findIdx? fun z => z.txn == y.txn with
      | some i => exact ⟨i, rfl⟩
      | none =>
        have := List.findIdx?_eq_none_iff.1 hi y hy
        simp at this
    obtain ⟨hil, hit, hib⟩ := List.findIdx?_eq_some_iff_getElem.1 hi
    have hyi : (thF A r).2[i] = y := by
      have hnd := hT.qnd
      have e1 : (thF A r).2[i].txn = y.txn := by simpa using hit
      obtain ⟨j, hj, ej⟩ := List.mem_iff_getElem.1 hy
      have hp := List.pairwise_iff_getElem.1 hnd
      rcases Nat.lt_trichotomy i j with hij | hij | hij
      · have := hp i j (by simpa using hil) (by simpa using hj) hij
        simp only [List.getElem_map] at this
        rw [ej, e1] at this
        exact absurd rfl this
      · subst hij; exact ej
      · have := hp j i (by simpa using hj) (by simpa using hil) hij
        simp only [List.getElem_map] at this
        rw [ej, e1] at this
        exact absurd rfl this
    have hE : edgesOf A (y.txn, r) = edHv y.txn y.mode (thF A r).1 ++ edQ y.txn ((thF A r).2.take i) := by
      unfold edgesOf
      rw [hx]
      simp only []
      unfold edAt
      rw [hi]
      simp only [List.getElem?_eq_getElem hil, hyi, Option.map_some, Option.getD_some]
    rw [hE, List.mem_append]
    refine or_congr ?_ ?_
    · unfold edHv
      rw [List.mem_map]
      constructor
      · rintro ⟨l, hl, rfl⟩
        obtain ⟨a, b⟩ := List.mem_filter.1 hl
        unfold conflR asW at b
        simp only [Bool.and_eq_true, decide_eq_true_eq, bne_iff_ne] at b
        have hm := pget_mem ((hs.mem l).1 a)
        rw [b.1.1] at hm
        exact ⟨(l.txn, l.mode), List.mem_filter.2 ⟨hm, by simp [b.1.2]; simpa using b.2⟩, rfl⟩
      · rintro ⟨e', he', rfl⟩
        obtain ⟨a, b⟩ := List.mem_filter.1 he'
        simp only [Bool.and_eq_true, bne_iff_ne] at b
        refine ⟨⟨e'.1, r, e'.2⟩, List.mem_filter.2 ⟨(hs.mem _).2 (pget_nd hT.hnd a), ?_⟩, rfl⟩
        unfold conflR asW
        simp only [decide_true, Bool.true_and, Bool.and_eq_true, bne_iff_ne]
        exact b
    · have htw : (queueR Wt r).takeWhile (fun q => q.txn != y.txn) = ((thF A r).2.take i).map fun y => ⟨y.txn, r, y.mode⟩ := by
        rw [queue_sim hw, queueF_th, List.map_take]
        refine takeWhile_idx _ _ i ?_
        rw [List.findIdx?_map, ← hi]
        congr 1
        funext z
        simp [Function.comp_def, bne]
      rw [htw]
      unfold edQ
      simp only [List.mem_map]
      constructor
      · rintro ⟨q, ⟨z, hz, rfl⟩, rfl⟩; exact ⟨z, hz, rfl⟩
      · rintro ⟨z, hz, rfl⟩; exact ⟨_, ⟨z, hz, rfl⟩, rfl⟩
  refine srt_ext ltE_irr (fun _ _ => ltE_asymm) h1 h3 fun e => ?_
  refine (h2 e).trans ?_
  rw [h4 e]
  constructor
  · rintro (h0 | ⟨x, hx, h0⟩)
    · cases h0
    · obtain ⟨y, hy, ey⟩ := (hw.mem x).1 hx
      have hq := h.qwOf _ y hy
      rw [← ey] at h0
      exact ⟨_, pget_mem hq, (one _ y hy e).1 h0⟩
  · rintro ⟨p, hp, h0⟩
    obtain ⟨x, hx, y, hy, ey⟩ := h.wq p hp
    have hth : thF A p.2 = x := by unfold thF; rw [hx]; rfl
    have hy' : y ∈ (thF A p.2).2 := by rw [hth]; exact hy
    refine .inr ⟨asW p.2 y, hw.of hy', (one p.2 y hy' e).2 ?_⟩
    rw [ey]; exact h0
end Go.Proofs.YtpghlemcgjogpaaGreat
