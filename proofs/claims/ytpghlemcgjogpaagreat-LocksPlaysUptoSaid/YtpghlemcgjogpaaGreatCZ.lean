/- The table of locks, plain law: dropping. -/
import Derived.Test.YtpghlemcgjogpaaGreatCY
set_option linter.unusedVariables false
set_option linter.unusedSimpArgs false
set_option linter.unnecessarySimpa false
set_option maxRecDepth 100000
namespace Go.Proofs.YtpghlemcgjogpaaGreat
open Go.Sx

theorem nd_dels {β : Type} : ∀ (l : List Int) (W : List (Int × β)), (W.map (·.1)).Nodup → ((l.foldl pdel W).map (·.1)).Nodup
  | [], _, h => h
  | x :: l, W, h => nd_dels l _ (nd_pdel h)
theorem sub_dels {β : Type} : ∀ (l : List Int) (W : List (Int × β)), (l.foldl pdel W).Sublist W
  | [], _ => List.Sublist.refl _
  | x :: l, W => (sub_dels l _).trans pdel_sub
theorem pget_dels {β : Type} : ∀ (l : List Int) (W : List (Int × β)), (W.map (·.1)).Nodup → ∀ x, pget (l.foldl pdel W) x = if x ∈ l then none else pget W x
  | [], _, _, _ => by simp
  | y :: l, W, h, x => by
    rw [List.foldl_cons, pget_dels l _ (nd_pdel h)]
    by_cases e : y = x
    · subst e; rw [pget_pdel_same h]; simp
    · rw [pget_pdel_ne e]
      simp only [List.mem_cons, (show ¬ x = y from fun h => e h.symm), false_or]

/-- A round of Drop: what is true of what was done so far; rest: the things to come. -/
structure DI (A : Abs) (S : List Int) (k : Nat) (t : Int) (rest : List ByteArray) (s : List Int × Abs) : Prop where
  nd : (s.2.things.map (·.1)).Nodup
  ks : ∀ p ∈ s.2.things, p.1.size ≤ maxLen
  n : s.2.things.length ≤ k
  same : ∀ r ∈ rest, pget s.2.things r = pget A.things r
  ne : ∀ p ∈ s.2.things, p.1 ∉ rest → p.2.1 ≠ []
  th : ∀ p ∈ s.2.things, p.1 ∉ rest → TInv (S.filter fun x => !(x == t)) k p.2.1 p.2.2
  qw : ∀ p ∈ s.2.things, p.1 ∉ rest → ∀ y ∈ p.2.2, pget s.2.waits y.txn = some p.1
  qr : ∀ r ∈ rest, ∀ x, pget A.things r = some x → ∀ y ∈ x.2, y.txn ≠ t → pget s.2.waits y.txn = some r
  W : s.2.waits = s.1.foldl pdel (pdel A.waits t)
  wq : ∀ p ∈ s.2.waits, ∃ x, pget s.2.things p.2 = some x ∧ ∃ y ∈ x.2, y.txn = p.1
  on : s.1.Nodup
  oW : ∀ g ∈ s.1, (pget (pdel A.waits t) g).isSome = true
  cov : ∀ t', t' ≠ t → ∀ r, okM (modeF s.2 t' r) ∧ jn (modeF A t' r) (modeF s.2 t' r) = modeF s.2 t' r

theorem dropAt_inv {S : List Int} {k : Nat} {A : Abs} (h : Inv S k A) (t : Int) (r : ByteArray) (rest : List ByteArray) (hr : r ∉ rest) (hk : r ∈ A.things.map (·.1)) (s : List Int × Abs) (hd : DI A S k t (r :: rest) s) : DI A S k t rest (dropAt t (pget A.waits t) s r) := by
  obtain ⟨x, hx⟩ := pget_keys hk
  have hxm := pget_mem hx
  have hsx : pget s.2.things r = some x := by rw [hd.same r List.mem_cons_self]; exact hx
  have hT := h.th _ hxm
  have hWnd : (s.2.waits.map (·.1)).Nodup := by rw [hd.W]; exact nd_dels _ _ (nd_pdel h.wnd)
  have hqx : ∀ y ∈ x.2, pget A.waits y.txn = some r := h.qw _ hxm
  have out : ∀ {r'}, r' ∉ rest → r' ≠ r → r' ∉ r :: rest := fun h1 h2 h3 => by
    rcases List.mem_cons.1 h3 with h3 | h3
    · exact h2 h3
    · exact h1 h3
  have hsub : ∀ p ∈ s.2.waits, p.1 ≠ t := fun p hp => by
    rw [hd.W] at hp
    exact pdel_no h.wnd p ((sub_dels _ _).subset hp)
  unfold dropAt
  rw [hsx]
  simp only []
  split
  · rename_i hc
    simp only [Bool.and_eq_true, Bool.not_eq_true', Option.isSome_eq_false_iff, Option.isNone_iff_eq_none, decide_eq_false_iff_not] at hc
    have hnt : ∀ y ∈ x.2, y.txn ≠ t := fun y hy e => hc.2 (by rw [← e]; exact hqx y hy)
    have split : ∀ p ∈ s.2.things, p.1 ∉ rest → p = (r, x) ∨ p.1 ∉ r :: rest := fun p hp hpr => by
      by_cases e : p.1 = r
      · have := pget_nd hd.nd (k := p.1) (x := p.2) hp
        rw [e, hsx] at this
        cases this
        exact .inl (by rw [← e])
      · exact .inr (out hpr e)
    refine ⟨hd.nd, hd.ks, hd.n, fun r' hr' => hd.same r' (List.mem_cons_of_mem _ hr'), fun p hp hpr => ?_, fun p hp hpr => ?_, fun p hp hpr => ?_, fun r' hr' => hd.qr r' (List.mem_cons_of_mem _ hr'), hd.W, hd.wq, hd.on, hd.oW, hd.cov⟩
    · rcases split p hp hpr with rfl | hp'
      · exact h.ne _ hxm
      · exact hd.ne p hp hp'
    · rcases split p hp hpr with rfl | hp'
      · exact hT.without hc.1 hnt
      · exact hd.th p hp hp'
    · rcases split p hp hpr with rfl | hp'
      · exact fun y hy => hd.qr r List.mem_cons_self x hx y hy (hnt y hy)
      · exact hd.qw p hp hp'
  · obtain ⟨hT', hv⟩ := servF_inv (β := ByteArray) (x.2.filter fun y => !(y.txn == t)) (pdel x.1 t) s.2.waits (hT.leave t)
    generalize servF (pdel x.1 t) s.2.waits (x.2.filter fun y => !(y.txn == t)) = sv at hT' hv
    obtain ⟨d, hsp, hout⟩ := hv.split
    have hqf : ∀ {y}, y ∈ x.2.filter (fun y => !(y.txn == t)) → y ∈ x.2 ∧ y.txn ≠ t := fun hy => by
      obtain ⟨h1, h2⟩ := List.mem_filter.1 hy
      exact ⟨h1, by simpa using h2⟩
    have hWr : ∀ {y}, y ∈ x.2.filter (fun y => !(y.txn == t)) → pget s.2.waits y.txn = some r := fun hy => hd.qr r List.mem_cons_self x hx _ (hqf hy).1 (hqf hy).2
    have hoW : ∀ g ∈ sv.out, pget s.2.waits g = some r := fun g hg => by
      rw [hout] at hg
      obtain ⟨y, hy, rfl⟩ := List.mem_map.1 hg
      exact hWr (by rw [hsp]; exact List.mem_append_left _ hy)
    have hnd0 := (hT.leave t).qnd
    rw [hsp, List.map_append, List.nodup_append] at hnd0
    have hW2 := pget_dels sv.out s.2.waits hWnd
    rw [← hv.W] at hW2
    have hq0 : sv.hv = [] → sv.q = [] := fun e => by
      rcases hv.stop with h1 | ⟨x', l, h1, h2⟩
      · exact h1
      · rw [e] at h2; cases h2
    have hmem : ∀ p ∈ (if sv.hv.isEmpty = true then pdel (pset s.2.things r (sv.hv, sv.q)) r else pset s.2.things r (sv.hv, sv.q)), (p = (r, (sv.hv, sv.q)) ∧ sv.hv ≠ []) ∨ (p ∈ s.2.things ∧ p.1 ≠ r) := fun p hp => by
      split at hp
      · rcases pset_memK hd.nd (pdel_sub.subset hp) with rfl | h1
        · exact absurd rfl (pdel_no (nd_pset hd.nd) _ hp)
        · exact .inr h1
      · rename_i hne
        rcases pset_memK hd.nd hp with rfl | h1
        · exact .inl ⟨rfl, by simpa using hne⟩
        · exact .inr h1
    have hget : ∀ r', r' ≠ r → pget (if sv.hv.isEmpty = true then pdel (pset s.2.things r (sv.hv, sv.q)) r else pset s.2.things r (sv.hv, sv.q)) r' = pget s.2.things r' := fun r' hne => by
      split
      · rw [pget_pdel_ne hne.symm, pget_pset_ne hne.symm]
      · rw [pget_pset_ne hne.symm]
    refine ⟨?_, fun p hp => ?_, ?_, fun r' hr' => ?_, fun p hp hpr => ?_, fun p hp hpr => ?_, fun p hp hpr y hy => ?_, fun r' hr' x' hx' y hy hyt => ?_, ?_, fun p hp => ?_, ?_, fun g hg => ?_, fun t' ht' r' => ?_⟩
    · simp only []
      split
      · exact nd_pdel (nd_pset hd.nd)
      · exact nd_pset hd.nd
    · rcases hmem p hp with ⟨rfl, _⟩ | ⟨hp, _⟩
      · exact (h.ks _ hxm : r.size ≤ maxLen)
      · exact hd.ks p hp
    · have hl := pset_len_some (v := (sv.hv, sv.q)) hsx
      have := hd.n
      simp only []
      split
      · have := (pdel_sub (l := pset s.2.things r (sv.hv, sv.q)) (k := r)).length_le; omega
      · omega
    · have hne : r' ≠ r := fun e => hr (e ▸ hr')
      simp only []
      rw [hget r' hne]
      exact hd.same r' (List.mem_cons_of_mem _ hr')
    · rcases hmem p hp with ⟨rfl, hne⟩ | ⟨hp, hne⟩
      · exact hne
      · exact hd.ne p hp (out hpr hne)
    · rcases hmem p hp with ⟨rfl, hne⟩ | ⟨hp, hne⟩
      · exact hT'
      · exact hd.th p hp (out hpr hne)
    · simp only []
      rcases hmem p hp with ⟨rfl, hne⟩ | ⟨hp, hne⟩
      · simp only [] at hy ⊢
        rw [hW2, if_neg]
        · exact hWr (by rw [hsp]; exact List.mem_append_right _ hy)
        · intro ho
          rw [hout] at ho
          exact hnd0.2.2 _ ho _ (List.mem_map_of_mem hy) rfl
      · have h1 := hd.qw p hp (out hpr hne) y hy
        rw [hW2, if_neg]
        · exact h1
        · intro ho
          have := hoW _ ho
          rw [h1] at this
          cases this
          exact hne rfl
    · simp only []
      have h1 := hd.qr r' (List.mem_cons_of_mem _ hr') x' hx' y hy hyt
      rw [hW2, if_neg]
      · exact h1
      · intro ho
        have := hoW _ ho
        rw [h1] at this
        cases this
        exact hr hr'
    · simp only []
      rw [List.foldl_append, ← hd.W]
      exact hv.W
    · simp only [] at hp ⊢
      rw [hv.W] at hp
      have hp0 := (sub_dels _ _).subset hp
      have hno : p.1 ∉ sv.out := fun ho => by
        have h1 := pget_nd (nd_dels sv.out _ hWnd) (k := p.1) (x := p.2) hp
        rw [pget_dels _ _ hWnd, if_pos ho] at h1
        cases h1
      obtain ⟨x0, hx0, y, hy, e⟩ := hd.wq p hp0
      by_cases hpr : p.2 = r
      · rw [hpr, hsx] at hx0
        cases hx0
        have hyf : y ∈ d ++ sv.q := by
          rw [← hsp]
          exact List.mem_filter.2 ⟨hy, by simpa [e] using hsub p hp0⟩
        rcases List.mem_append.1 hyf with hyd | hyq
        · exact absurd (by rw [hout, ← e]; exact List.mem_map_of_mem hyd) hno
        · refine ⟨(sv.hv, sv.q), ?_, y, hyq, e⟩
          rw [hpr, if_neg, pget_pset_same]
          intro he
          rw [hq0 (by simpa using he)] at hyq
          cases hyq
      · exact ⟨x0, by rw [hget _ hpr]; exact hx0, y, hy, e⟩
    · simp only []
      rw [List.nodup_append]
      refine ⟨hd.on, by rw [hout]; exact hnd0.1, fun a ha b hb e => ?_⟩
      have h1 := hoW b hb
      rw [← e, hd.W, pget_dels _ _ (nd_pdel h.wnd), if_pos ha] at h1
      cases h1
    · rcases List.mem_append.1 hg with hg | hg
      · exact hd.oW g hg
      · have h1 := hoW g hg
        rw [hd.W, pget_dels _ _ (nd_pdel h.wnd)] at h1
        split at h1
        · cases h1
        · rw [h1]; rfl
    · by_cases hne : r' = r
      · subst hne
        have e1 : modeF A t' r' = modeOf (pdel x.1 t) t' := by
          rw [modeOf_pdel ht'.symm]
          unfold modeF thF; rw [hx]; rfl
        have e2 : modeOf (thF ⟨if sv.hv.isEmpty = true then pdel (pset s.2.things r' (sv.hv, sv.q)) r' else pset s.2.things r' (sv.hv, sv.q), sv.W⟩ r').1 t' = modeOf sv.hv t' := by
          unfold thF
          simp only []
          split
          · rename_i he
            rw [pget_pdel_same (nd_pset hd.nd)]
            rw [show sv.hv = [] by simpa using he]; rfl
          · rw [pget_pset_same]; rfl
        show okM (modeOf (thF _ r').1 t') ∧ jn _ (modeOf (thF _ r').1 t') = modeOf (thF _ r').1 t'
        rw [e1, e2]
        exact hv.cov t'
      · have := hd.cov t' ht' r'
        have e2 : modeF ⟨if sv.hv.isEmpty = true then pdel (pset s.2.things r (sv.hv, sv.q)) r else pset s.2.things r (sv.hv, sv.q), sv.W⟩ t' r' = modeF s.2 t' r' := by
          unfold modeF thF
          simp only []
          rw [hget r' hne]
        rw [e2]
        exact this
theorem foldDrop_inv {S : List Int} {k : Nat} {A : Abs} (h : Inv S k A) (t : Int) : ∀ (rest : List ByteArray), rest.Nodup → (∀ r ∈ rest, r ∈ A.things.map (·.1)) → ∀ s, DI A S k t rest s → DI A S k t [] (rest.foldl (dropAt t (pget A.waits t)) s)
  | [], _, _, s, hd => hd
  | r :: rest, hn, hk, s, hd => by
    rw [List.nodup_cons] at hn
    exact foldDrop_inv h t rest hn.2 (fun r' hr' => hk r' (List.mem_cons_of_mem _ hr')) _ (dropAt_inv h t r rest hn.1 (hk r List.mem_cons_self) s hd)
/-- Dropping. -/
structure Dropped (A : Abs) (S : List Int) (k : Nat) (t : Int) (o : List Int × Abs) : Prop where
  inv : Inv (S.filter fun x => !(x == t)) k o.2
  W : o.2.waits = o.1.foldl pdel (pdel A.waits t)
  nd : o.1.Nodup
  was : ∀ g ∈ o.1, (pget (pdel A.waits t) g).isSome = true
  cov : ∀ t', t' ≠ t → ∀ r, okM (modeF o.2 t' r) ∧ jn (modeF A t' r) (modeF o.2 t' r) = modeF o.2 t' r
theorem drop_inv {S : List Int} {k : Nat} {A : Abs} (h : Inv S k A) (t : Int) : Dropped A S k t (dropF A t) := by
  have hperm := sortS_perm (A.things.map (·.1))
  have hin : ∀ p ∈ A.things, p.1 ∈ sortS (A.things.map (·.1)) := fun p hp => hperm.symm.subset (List.mem_map_of_mem hp)
  have h0 : DI A S k t (sortS (A.things.map (·.1))) ([], { A with waits := pdel A.waits t }) := by
    refine ⟨h.nd, h.ks, h.n, fun _ _ => rfl, fun p hp hn => absurd (hin p hp) hn, fun p hp hn => absurd (hin p hp) hn, fun p hp hn => absurd (hin p hp) hn, fun r _ x hx y hy hyt => ?_, rfl, fun p hp => h.wq p (pdel_sub.subset hp), by simp, by simp, fun t' _ r => ?_⟩
    · simp only []
      rw [pget_pdel_ne hyt.symm]
      exact h.qw _ (pget_mem hx) y hy
    · have := h.mode t' r
      exact ⟨this, jn_self this⟩
  have hd := foldDrop_inv h t _ (hperm.nodup_iff.2 h.nd) (fun r hr => hperm.subset hr) _ h0
  have e : (sortS (A.things.map (·.1))).foldl (dropAt t (pget A.waits t)) ([], { A with waits := pdel A.waits t }) = dropF A t := rfl
  rw [e] at hd
  generalize dropF A t = o at hd
  refine ⟨⟨hd.nd, hd.ks, hd.n, fun p hp => hd.ne p hp (by simp), fun p hp => hd.th p hp (by simp), fun p hp => hd.qw p hp (by simp), by rw [hd.W]; exact nd_dels _ _ (nd_pdel h.wnd), hd.wq, ?_⟩, hd.W, hd.on, hd.oW, hd.cov⟩
  rw [hd.W]
  have h1 := (sub_dels o.1 (pdel A.waits t)).length_le
  have h2 := (pdel_sub (l := A.waits) (k := t)).length_le
  have := h.wn
  omega
end Go.Proofs.YtpghlemcgjogpaaGreat
