/- The document's table of locks: asking and dropping come to what the table's come to. -/
import Derived.Test.YtpghlemcgjogpaaGreatEA
set_option linter.unusedVariables false
set_option linter.unusedSimpArgs false
set_option linter.unnecessarySimpa false
set_option maxRecDepth 100000
namespace Go.Proofs.YtpghlemcgjogpaaGreat
open Go.Sx

def forgetR (Wt : List Ws) (t : Int) : List Ws := Wt.filter fun x => x.l.txn != t
def askR (H : List Lk) (Wt : List Ws) (t : Int) (r : ByteArray) (m : Int) : Int × List Lk × List Ws :=
  if (!decide (1 ≤ m ∧ m ≤ 6) || (wishR Wt t).2) = true then (0, H, Wt) else
  let had := modeR H t r
  if (jn had m == had) = true then (1, H, Wt) else
  if (canR H ⟨t, r, jn had m⟩ && ((had != 0) || (queueR Wt r).isEmpty)) = true then (1, giveR H ⟨t, r, jn had m⟩, Wt) else
  (2, H, Wt ++ [⟨⟨t, r, jn had m⟩, had != 0⟩])
theorem qsel_append (a b : List Ws) (r : ByteArray) (c : Bool) : qsel (a ++ b) r c = qsel a r c ++ qsel b r c := List.filter_append ..
theorem qsel_one (x : Ws) (r : ByteArray) (c : Bool) : qsel [x] r c = if x.l.res = r ∧ x.ch = c then [x] else [] := by
  unfold qsel
  by_cases h1 : x.l.res = r
  · by_cases h2 : x.ch = c
    · simp [h1, h2]
    · simp [h1, h2]
  · simp [h1]
theorem ask_sim {S : List Int} {k : Nat} {A : Abs} (h : Inv S k A) {H : List Lk} (hs : HSim A H) {Wt : List Ws} (hw : WSim A Wt) (t : Int) (r : ByteArray) (m : Int) :
    (askR H Wt t r m).1 = (ask A t r m).1 ∧ HSim (ask A t r m).2 (askR H Wt t r m).2.1 ∧ WSim (ask A t r m).2 (askR H Wt t r m).2.2 := by
  obtain ⟨_, hws, _⟩ := wish_sim h hw t
  have hmd := mode_sim hs t r
  have hcn := fun m => can_sim h hs t r m
  have hqe : (queueR Wt r).isEmpty = (thF A r).2.isEmpty := by rw [queue_sim hw, queueF_th, List.isEmpty_map]
  have ha := ask_spec h t r m
  unfold askR
  simp only [hws, hmd, hcn, hqe]
  generalize ask A t r m = o at ha
  cases ha with
  | refused h1 =>
    rw [if_pos]
    · exact ⟨rfl, hs, hw⟩
    · by_cases hm : 1 ≤ m ∧ m ≤ 6
      · rw [h1 hm]; simp
      · rw [decide_eq_false hm]; rfl
  | same hm hw0 hj =>
    rw [if_neg (by rw [decide_eq_true hm, hw0]; simp)]
    rw [if_pos (by simpa using hj)]
    exact ⟨rfl, hs, hw⟩
  | gives hm hw0 hc hne hq =>
    rw [if_neg (by rw [decide_eq_true hm, hw0]; simp)]
    rw [if_neg (by simpa using hne), if_pos (by
      rw [hc]
      rcases hq with hq | hq
      · simp [hq]
      · simp [hq])]
    refine ⟨rfl, ?_, ?_⟩
    · have hg := giveR_at hs.srt (hv := (thF A r).1) (r := r) (fun l e => by rw [hs.mem l, e]) t (jn (modeF A t r) m)
      refine ⟨(giveR_spec hs.srt _).1, fun l => ?_⟩
      rw [thF_set]
      by_cases e : r = l.res
      · rw [if_pos e]; exact hg.1 l e.symm
      · rw [if_neg e, hg.2 l (fun e' => e e'.symm)]; exact hs.mem l
    · refine ⟨fun r' => ?_, hw.nd⟩
      rw [thF_set, hw.q r']
      by_cases e : r = r'
      · subst e; rw [if_pos rfl]
      · rw [if_neg e]
  | waits hm hw0 hne0 hne hc =>
    rw [if_neg (by rw [decide_eq_true hm, hw0]; simp)]
    rw [if_neg (by simpa using hne), if_neg (by
      intro hx
      simp only [Bool.and_eq_true, Bool.or_eq_true, bne_iff_ne, List.isEmpty_iff] at hx
      have := hc hx.2
      rw [hx.1] at this; cases this)]
    refine ⟨rfl, ?_, ?_⟩
    · refine ⟨hs.srt, fun l => ?_⟩
      rw [thF_set, hs.mem l]
      by_cases e : r = l.res
      · rw [if_pos e, ← e]
      · rw [if_neg e]
    · have hqr := hw.q r
      have hCO : ∃ C O, qsel Wt r true = C ∧ qsel Wt r false = O ∧ (∀ x ∈ C, x.ch = true) ∧ (∀ x ∈ O, x.ch = false) := by
        refine ⟨_, _, rfl, rfl, fun x hx => ?_, fun x hx => ?_⟩
        · have := (List.mem_filter.1 hx).2
          simp only [Bool.and_eq_true, beq_iff_eq] at this
          exact this.2
        · have := (List.mem_filter.1 hx).2
          simp only [Bool.and_eq_true, beq_iff_eq] at this
          exact this.2
      obtain ⟨C, O, eC, eO, hC, hO⟩ := hCO
      refine ⟨fun r' => ?_, ?_⟩
      · rw [thF_set, qsel_append, qsel_append, qsel_one, qsel_one]
        by_cases e : r = r'
        · subst e
          rw [if_pos rfl]
          simp only [true_and]
          rw [eC, eO] at hqr ⊢
          rw [List.map_append, List.map_cons, List.map_take, List.map_drop, ← hqr]
          have hx : asW r ⟨t, jn (modeF A t r) m, modeF A t r != 0⟩ = ⟨⟨t, r, jn (modeF A t r) m⟩, modeF A t r != 0⟩ := rfl
          rw [hx]
          cases hch : (modeF A t r != 0) with
          | false =>
            have hp : putAt (thF A r).2 false = (C ++ O).length := by
              rw [hqr, List.length_map]; rfl
            rw [hp, List.take_length, List.drop_length]
            simp
          | true =>
            have hp : putAt (thF A r).2 true = C.length := by
              have hfi : ((thF A r).2.findIdx? fun x => !x.ch) = ((thF A r).2.map (asW r)).findIdx? fun x => !x.ch := by
                rw [List.findIdx?_map]; rfl
              show ((thF A r).2.findIdx? fun x => !x.ch).getD (thF A r).2.length = _
              rw [hfi, ← hqr]
              have hlen : (thF A r).2.length = (C ++ O).length := by rw [hqr, List.length_map]
              rw [hlen]
              cases O with
              | nil =>
                have : (C ++ ([] : List Ws)).findIdx? (fun x => !x.ch) = none := by
                  rw [List.findIdx?_eq_none_iff]
                  intro x hx
                  rw [List.append_nil] at hx
                  rw [hC x hx]; rfl
                rw [this]; simp
              | cons o O =>
                have : (C ++ o :: O).findIdx? (fun x => !x.ch) = some C.length := by
                  rw [List.findIdx?_eq_some_iff_getElem]
                  refine ⟨by simp, ?_, fun j hj => ?_⟩
                  · rw [List.getElem_append_right (Nat.le_refl _)]
                    simp [hO o List.mem_cons_self]
                  · rw [List.getElem_append_left hj]
                    simp [hC _ (List.getElem_mem hj)]
                rw [this]; rfl
            rw [hp, List.take_left, List.drop_left]
            simp
        · rw [if_neg e]
          simp only [e, false_and, if_false, List.append_nil]
          exact hw.q r'
      · rw [List.map_append, List.nodup_append]
        refine ⟨hw.nd, by simp, fun a ha b hb e => ?_⟩
        obtain rfl : b = t := by simpa using hb
        obtain ⟨x, hx, rfl⟩ := List.mem_map.1 ha
        obtain ⟨y, hy, ey⟩ := (hw.mem x).1 hx
        have := h.qwOf _ y hy
        rw [← ey] at e
        simp only [asW] at e
        rw [e, hw0] at this; cases this

/-! ### Dropping -/
def serveGo : List Lk → List Lk → List Ws → List Int → List Lk × List Ws × List Int
  | [], H, Wt, out => (H, Wt, out)
  | x :: q, H, Wt, out => if canR H x = true then serveGo q (giveR H x) (forgetR Wt x.txn) (out ++ [x.txn]) else (H, Wt, out)
def serveR (s : List Lk × List Ws × List Int) (r : ByteArray) : List Lk × List Ws × List Int := serveGo (queueR s.2.1 r) s.1 s.2.1 s.2.2
def insPosS (l : List ByteArray) (r : ByteArray) : Nat → Nat
  | 0 => 0
  | n + 1 => match l[n]? with
    | some y => if ltB r y = true then insPosS l r n else n + 1
    | none => n + 1
def insS (l : List ByteArray) (r : ByteArray) : List ByteArray := l.take (insPosS l r l.length) ++ r :: l.drop (insPosS l r l.length)
def thingsR (H : List Lk) (Wt : List Ws) (t : Int) : List ByteArray :=
  if ((wishR Wt t).2 && (modeR H t (wishR Wt t).1.res == 0)) = true then insS ((H.filter fun h => h.txn == t).map (·.res)) (wishR Wt t).1.res else (H.filter fun h => h.txn == t).map (·.res)
def dropR (H : List Lk) (Wt : List Ws) (t : Int) : List Lk × List Ws × List Int :=
  (thingsR H Wt t).foldl serveR (H.filter fun h => h.txn != t, forgetR Wt t, [])

theorem insPosS_spec (H : List ByteArray) (l : ByteArray) : ∀ n, n ≤ H.length → insPosS H l n ≤ n ∧ (∀ j y, insPosS H l n ≤ j → j < n → H[j]? = some y → ltB l y = true) ∧ (insPosS H l n = 0 ∨ ∃ y, H[insPosS H l n - 1]? = some y ∧ ltB l y = false)
  | 0, _ => ⟨Nat.le_refl _, fun j y _ hj => by omega, .inl rfl⟩
  | n + 1, hn => by
    obtain ⟨y, hy⟩ : ∃ y, H[n]? = some y := ⟨H[n], List.getElem?_eq_getElem (by omega)⟩
    unfold insPosS
    rw [hy]
    simp only []
    by_cases ha : ltB l y = true
    · rw [if_pos ha]
      obtain ⟨h1, h2, h3⟩ := insPosS_spec H l n (by omega)
      refine ⟨by omega, fun j z hj hjn hz => ?_, h3⟩
      by_cases e : j = n
      · subst e; rw [hy] at hz; cases hz; exact ha
      · exact h2 j z hj (by omega) hz
    · rw [if_neg ha]
      refine ⟨Nat.le_refl _, fun j z hj hjn => by omega, .inr ⟨y, by simpa using hy, by simpa using ha⟩⟩
theorem insS_spec {H : List ByteArray} (hs : H.Pairwise fun a b => ltB a b = true) {l : ByteArray} (hno : l ∉ H) : (insS H l).Pairwise (fun a b => ltB a b = true) ∧ ∀ x, x ∈ insS H l ↔ x = l ∨ x ∈ H := by
  unfold insS
  obtain ⟨h1, h2, h3⟩ := insPosS_spec H l H.length (Nat.le_refl _)
  generalize insPosS H l H.length = p at h1 h2 h3
  refine ⟨?_, fun x => ?_⟩
  · rw [List.pairwise_append, List.pairwise_cons]
    have hdr : ∀ y ∈ H.drop p, ltB l y = true := fun y hy => by
      obtain ⟨j, hj, e⟩ := List.mem_iff_getElem.1 hy
      rw [List.getElem_drop] at e
      rw [List.length_drop] at hj
      exact h2 (p + j) y (by omega) (by omega) (by rw [List.getElem?_eq_getElem (by omega), e])
    have htk : ∀ y ∈ H.take p, ltB y l = true := fun y hy => by
      rcases h3 with h3 | ⟨z, hz, hzl⟩
      · rw [h3] at hy; simp at hy
      · obtain ⟨j, hj, e⟩ := List.mem_take_iff_getElem.1 hy
        obtain ⟨hp', hz'⟩ := List.getElem?_eq_some_iff.1 hz
        have hzH : z ∈ H := by rw [← hz']; exact List.getElem_mem _
        have hzl' : ltB z l = true := (ltB_total (fun e => hno (by rw [← e]; exact hzH))).resolve_right (by rw [hzl]; simp)
        by_cases hjp : j = p - 1
        · subst hjp
          rw [← e, hz']; exact hzl'
        · have := List.pairwise_iff_getElem.1 hs j (p - 1) (by omega) hp' (by omega)
          rw [e, hz'] at this
          exact ltB_trans this hzl'
    refine ⟨hs.sublist (List.take_sublist ..), ⟨hdr, hs.sublist (List.drop_sublist ..)⟩, fun a ha b hb => ?_⟩
    rcases List.mem_cons.1 hb with rfl | hb
    · exact htk a ha
    · exact ltB_trans (htk a ha) (hdr b hb)
  · rw [List.mem_append, List.mem_cons]
    have : x ∈ H ↔ x ∈ H.take p ∨ x ∈ H.drop p := by
      conv => lhs; rw [← List.take_append_drop p H]
      rw [List.mem_append]
    rw [this]
    constructor
    · rintro (h | h | h)
      · exact .inr (.inl h)
      · exact .inl h
      · exact .inr (.inr h)
    · rintro (h | h | h)
      · exact .inr (.inl h)
      · exact .inl h
      · exact .inr (.inr h)
theorem filter_map_qsel (f : Ws → Bool) (Wt : List Ws) (r : ByteArray) (c : Bool) : qsel (Wt.filter f) r c = (qsel Wt r c).filter f := by
  unfold qsel
  rw [List.filter_filter, List.filter_filter]
  congr 1
  funext x
  exact Bool.and_comm _ _
/-- What serving one thing does to the two lists. -/
structure Serves (r : ByteArray) (H : List Lk) (Wt : List Ws) (hv' : List (Int × Int)) (q' : List Wi) (H' : List Lk) (Wt' : List Ws) : Prop where
  srt : Srt H'
  at' : ∀ l, l.res = r → (l ∈ H' ↔ pget hv' l.txn = some l.mode)
  off : ∀ l, l.res ≠ r → (l ∈ H' ↔ l ∈ H)
  q : qsel Wt' r true ++ qsel Wt' r false = q'.map (asW r)
  qo : ∀ r', r' ≠ r → ∀ c, qsel Wt' r' c = qsel Wt r' c
  nd : (Wt'.map (·.l.txn)).Nodup
theorem serve_sim {β : Type} {S : List Int} {k : Nat} (r : ByteArray) : ∀ (q : List Wi) (hv : List (Int × Int)) (W : List (Int × β)) (H : List Lk) (Wt : List Ws) (out : List Int), TInv S k hv q → Srt H → (∀ l, l.res = r → (l ∈ H ↔ pget hv l.txn = some l.mode)) →
    qsel Wt r true ++ qsel Wt r false = q.map (asW r) → (Wt.map (·.l.txn)).Nodup →
    (serveGo (q.map fun y => ⟨y.txn, r, y.mode⟩) H Wt out).2.2 = out ++ (servF hv W q).out ∧
    Serves r H Wt (servF hv W q).hv (servF hv W q).q (serveGo (q.map fun y => ⟨y.txn, r, y.mode⟩) H Wt out).1 (serveGo (q.map fun y => ⟨y.txn, r, y.mode⟩) H Wt out).2.1
  | [], hv, W, H, Wt, out, hT, hs, hat, hq, hn => ⟨by simp [serveGo, servF], ⟨hs, hat, fun _ _ => Iff.rfl, hq, fun _ _ _ => rfl, hn⟩⟩
  | x :: q, hv, W, H, Wt, out, hT, hs, hat, hq, hn => by
    simp only [List.map_cons, serveGo, servF]
    rw [canR_of hT.hnd hat]
    by_cases hc : canB hv x.txn x.mode = true
    · rw [if_pos hc, if_pos hc]
      have hx : x ∈ x :: q := List.mem_cons_self
      have hnd := hT.qnd
      simp only [List.map_cons, List.nodup_cons] at hnd
      have hne : ∀ y ∈ q, y.txn ≠ x.txn := fun y hy e => hnd.1 (e ▸ List.mem_map_of_mem hy)
      have hl := hT.len
      simp only [List.length_cons] at hl
      have hg := hT.tail.give (hT.qin x hx) (hT.qS x hx) (hT.qm x hx) hc hne (k' := k) (by have := pset_len (l := hv) (k := x.txn) (v := x.mode); omega)
      have hga := giveR_at hs hat x.txn x.mode
      have hxW : asW r x ∈ Wt := by
        have : asW r x ∈ qsel Wt r true ++ qsel Wt r false := by rw [hq]; exact List.mem_map_of_mem hx
        exact (qsel_mem.1 this).1
      have hq' : qsel (forgetR Wt x.txn) r true ++ qsel (forgetR Wt x.txn) r false = q.map (asW r) := by
        unfold forgetR
        rw [filter_map_qsel, filter_map_qsel, ← List.filter_append, hq, List.map_cons, List.filter_cons, if_neg (by simp [asW])]
        rw [List.filter_eq_self]
        intro z hz
        obtain ⟨y, hy, rfl⟩ := List.mem_map.1 hz
        simpa [asW] using hne y hy
      have hqo : ∀ r', r' ≠ r → ∀ c, qsel (forgetR Wt x.txn) r' c = qsel Wt r' c := fun r' hr' c => by
        unfold forgetR
        rw [filter_map_qsel, List.filter_eq_self]
        intro z hz
        obtain ⟨hzW, hzr⟩ := List.mem_filter.1 hz
        simp only [Bool.and_eq_true, decide_eq_true_eq] at hzr
        simp only [bne_iff_ne, ne_eq]
        intro e
        have := nd_uniq hn hzW hxW (by simpa [asW] using e)
        rw [this] at hzr
        exact hr' hzr.1.symm
      have hn' : ((forgetR Wt x.txn).map (·.l.txn)).Nodup := hn.sublist (List.filter_sublist.map _)
      obtain ⟨i1, i2⟩ := serve_sim r q (pset hv x.txn x.mode) (pdel W x.txn) (giveR H ⟨x.txn, r, x.mode⟩) (forgetR Wt x.txn) (out ++ [x.txn]) hg (giveR_spec hs _).1 hga.1 hq' hn'
      refine ⟨by rw [i1]; simp, ⟨i2.srt, i2.at', fun l e => (i2.off l e).trans (hga.2 l e), i2.q, fun r' hr' c => (i2.qo r' hr' c).trans (hqo r' hr' c), i2.nd⟩⟩
    · rw [if_neg hc, if_neg hc]
      exact ⟨by simp, ⟨hs, hat, fun _ _ => Iff.rfl, hq, fun _ _ _ => rfl, hn⟩⟩
/-- In the middle of a drop: the lists are without that transaction. -/
structure Mid (A : Abs) (t : Int) (H : List Lk) (Wt : List Ws) : Prop where
  srt : Srt H
  mem : ∀ l, l ∈ H ↔ (l.txn ≠ t ∧ pget (thF A l.res).1 l.txn = some l.mode)
  q : ∀ r, qsel Wt r true ++ qsel Wt r false = ((thF A r).2.filter fun y => !(y.txn == t)).map (asW r)
  nd : (Wt.map (·.l.txn)).Nodup
def condD (A : Abs) (t : Int) (r : ByteArray) : Bool := (pget (thF A r).1 t).isSome || decide (pget A.waits t = some r)
theorem mid_step {S : List Int} {k : Nat} {A : Abs} (h : Inv S k A) (t : Int) (r : ByteArray) (rest : List ByteArray) (hk : r ∈ A.things.map (·.1)) (s : List Int × Abs) (hd : DI A S k t (r :: rest) s) (H : List Lk) (Wt : List Ws) (hm : Mid s.2 t H Wt) (hc : condD A t r = true) :
    (serveR (H, Wt, s.1) r).2.2 = (dropAt t (pget A.waits t) s r).1 ∧ Mid (dropAt t (pget A.waits t) s r).2 t (serveR (H, Wt, s.1) r).1 (serveR (H, Wt, s.1) r).2.1 := by
  obtain ⟨x, hx⟩ := pget_keys hk
  have hsx : pget s.2.things r = some x := by rw [hd.same r List.mem_cons_self]; exact hx
  have hT := h.th _ (pget_mem hx)
  have hthA : thF A r = x := by unfold thF; rw [hx]; rfl
  have hths : thF s.2 r = x := by unfold thF; rw [hsx]; rfl
  have hcn : ¬ (!(pget x.1 t).isSome && !decide (pget A.waits t = some r)) = true := by
    unfold condD at hc
    rw [hthA] at hc
    intro hx'
    simp only [Bool.and_eq_true, Bool.not_eq_true'] at hx'
    rw [hx'.1, hx'.2] at hc; cases hc
  have hlv := hT.leave t
  have hat : ∀ l, l.res = r → (l ∈ H ↔ pget (pdel x.1 t) l.txn = some l.mode) := fun l e => by
    rw [hm.mem l, e, hths]
    by_cases e' : t = l.txn
    · rw [← e', pget_pdel_same hT.hnd]; simp
    · rw [pget_pdel_ne e']
      exact ⟨fun h => h.2, fun h => ⟨fun e => e' e.symm, h⟩⟩
  have hqr := hm.q r
  rw [hths] at hqr
  have hqR : queueR Wt r = (x.2.filter fun y => !(y.txn == t)).map fun y => ⟨y.txn, r, y.mode⟩ := by
    unfold queueR
    rw [hqr, List.map_map]; rfl
  obtain ⟨h1, h2⟩ := serve_sim (β := ByteArray) r (x.2.filter fun y => !(y.txn == t)) (pdel x.1 t) s.2.waits H Wt s.1 hlv hm.srt hat hqr hm.nd
  obtain ⟨hT', hv⟩ := servF_inv (β := ByteArray) (x.2.filter fun y => !(y.txn == t)) (pdel x.1 t) s.2.waits hlv
  unfold serveR dropAt
  rw [hsx]
  simp only []
  rw [if_neg hcn, hqR]
  generalize servF (pdel x.1 t) s.2.waits (x.2.filter fun y => !(y.txn == t)) = sv at h1 h2 hT' hv
  refine ⟨h1, ?_⟩
  have hq0 : sv.hv = [] → sv.q = [] := fun e => by
    rcases hv.stop with h1 | ⟨x', l, h1, h2⟩
    · exact h1
    · rw [e] at h2; cases h2
  have hth' : ∀ r', thF ⟨if sv.hv.isEmpty = true then pdel (pset s.2.things r (sv.hv, sv.q)) r else pset s.2.things r (sv.hv, sv.q), sv.W⟩ r' = if r = r' then (sv.hv, sv.q) else thF s.2 r' := fun r' => by
    unfold thF
    simp only []
    by_cases e : r = r'
    · subst e
      rw [if_pos rfl]
      split
      · rename_i he
        have he' : sv.hv = [] := by simpa using he
        rw [pget_pdel_same (nd_pset hd.nd), he', hq0 he']; rfl
      · rw [pget_pset_same]; rfl
    · rw [if_neg e]
      split
      · rw [pget_pdel_ne e, pget_pset_ne e]
      · rw [pget_pset_ne e]
  have hnt : ∀ e ∈ sv.hv, e.1 ≠ t := fun e he e' => by
    have := hT'.hS e he
    rw [e'] at this
    simp at this
  have hqt : ∀ y ∈ sv.q, y.txn ≠ t := fun y hy e' => by
    have := hT'.qS y hy
    rw [e'] at this
    simp at this
  refine ⟨h2.srt, fun l => ?_, fun r' => ?_, h2.nd⟩
  · rw [hth']
    by_cases e : r = l.res
    · rw [if_pos e, h2.at' l e.symm]
      exact ⟨fun hh => ⟨hnt _ (pget_mem hh), hh⟩, fun hh => hh.2⟩
    · rw [if_neg e, h2.off l (fun e' => e e'.symm)]; exact hm.mem l
  · rw [hth']
    by_cases e : r = r'
    · subst e
      rw [if_pos rfl, h2.q]
      congr 1
      rw [eq_comm, List.filter_eq_self]
      intro y hy
      simpa using hqt y hy
    · rw [if_neg e, h2.qo r' (fun e' => e e'.symm), h2.qo r' (fun e' => e e'.symm)]; exact hm.q r'
theorem mid_skip {S : List Int} {k : Nat} {A : Abs} (h : Inv S k A) (t : Int) (r : ByteArray) (rest : List ByteArray) (s : List Int × Abs) (hd : DI A S k t (r :: rest) s) (hc : condD A t r = false) : dropAt t (pget A.waits t) s r = s := by
  unfold dropAt
  rw [hd.same r List.mem_cons_self]
  unfold condD thF at hc
  cases hx : pget A.things r with
  | none => rfl
  | some x =>
    rw [hx] at hc
    simp only [Option.getD_some, Bool.or_eq_false_iff] at hc
    simp only []
    rw [if_pos (by rw [hc.1, hc.2]; rfl)]
theorem drop_fold {S : List Int} {k : Nat} {A : Abs} (h : Inv S k A) (t : Int) : ∀ (rest : List ByteArray), rest.Nodup → (∀ r ∈ rest, r ∈ A.things.map (·.1)) → ∀ s H Wt, DI A S k t rest s → Mid s.2 t H Wt →
    ((rest.filter (condD A t)).foldl serveR (H, Wt, s.1)).2.2 = (rest.foldl (dropAt t (pget A.waits t)) s).1 ∧ Mid (rest.foldl (dropAt t (pget A.waits t)) s).2 t ((rest.filter (condD A t)).foldl serveR (H, Wt, s.1)).1 ((rest.filter (condD A t)).foldl serveR (H, Wt, s.1)).2.1
  | [], _, _, s, H, Wt, _, hm => ⟨rfl, hm⟩
  | r :: rest, hn, hk, s, H, Wt, hd, hm => by
    rw [List.nodup_cons] at hn
    have hk' : ∀ r' ∈ rest, r' ∈ A.things.map (·.1) := fun r' hr' => hk r' (List.mem_cons_of_mem _ hr')
    have hd' := dropAt_inv h t r rest hn.1 (hk r List.mem_cons_self) s hd
    rw [List.filter_cons, List.foldl_cons]
    cases hc : condD A t r with
    | true =>
      obtain ⟨h1, h2⟩ := mid_step h t r rest (hk r List.mem_cons_self) s hd H Wt hm hc
      rw [if_pos rfl, List.foldl_cons]
      have := drop_fold h t rest hn.2 hk' _ (serveR (H, Wt, s.1) r).1 (serveR (H, Wt, s.1) r).2.1 hd' h2
      rw [← h1] at this
      exact this
    | false =>
      rw [if_neg (by simp)]
      have e := mid_skip h t r rest s hd hc
      rw [e] at hd' ⊢
      exact drop_fold h t rest hn.2 hk' s H Wt hd' hm
theorem things_sim {S : List Int} {k : Nat} {A : Abs} (h : Inv S k A) {H : List Lk} (hs : HSim A H) {Wt : List Ws} (hw : WSim A Wt) (t : Int) : thingsR H Wt t = (sortS (A.things.map (·.1))).filter (condD A t) := by
  obtain ⟨_, hws, hwr⟩ := wish_sim h hw t
  have hbs : ((H.filter fun h => h.txn == t).map (·.res)).Pairwise fun a b => ltB a b = true := by
    rw [List.pairwise_map]
    refine (hs.srt.sublist List.filter_sublist).imp_of_mem fun {a b} ha hb hab => ?_
    have ea : a.txn = t := by simpa using (List.mem_filter.1 ha).2
    have eb : b.txn = t := by simpa using (List.mem_filter.1 hb).2
    unfold aheadR at hab
    split at hab
    · simp only [decide_eq_true_eq] at hab; omega
    · exact hab
  have hbm : ∀ r, r ∈ (H.filter fun h => h.txn == t).map (·.res) ↔ (pget (thF A r).1 t).isSome = true := fun r => by
    rw [List.mem_map]
    constructor
    · rintro ⟨l, hl, rfl⟩
      obtain ⟨h1, h2⟩ := List.mem_filter.1 hl
      have e : l.txn = t := by simpa using h2
      rw [← e, (hs.mem l).1 h1]; rfl
    · intro hh
      obtain ⟨m, hm⟩ := Option.isSome_iff_exists.1 hh
      exact ⟨⟨t, r, m⟩, List.mem_filter.2 ⟨(hs.mem _).2 hm, by simp⟩, rfl⟩
  have hkey : ∀ r, condD A t r = true → r ∈ sortS (A.things.map (·.1)) := fun r hc => by
    refine (sortS_perm _).symm.subset ?_
    cases hx : pget A.things r with
    | some x => exact List.mem_map.2 ⟨_, pget_mem hx, rfl⟩
    | none =>
      exfalso
      unfold condD thF at hc
      rw [hx] at hc
      simp only [Option.getD_none, Bool.or_eq_true, decide_eq_true_eq] at hc
      rcases hc with hc | hc
      · cases hc
      · obtain ⟨x, hx', _⟩ := h.wq _ (pget_mem hc)
        simp only [] at hx'
        rw [hx] at hx'; cases hx'
  refine srt_ext ltB_irr (fun _ _ => ltB_asymm) ?_ ((sortS_srt h.nd).sublist List.filter_sublist) fun r => ?_
  · unfold thingsR
    split
    · rename_i hc
      simp only [Bool.and_eq_true, beq_iff_eq] at hc
      refine (insS_spec hbs fun hin => ?_).1
      have h1 := (hbm _).1 hin
      rw [mode_sim hs] at hc
      have h2 := (modeOf_zero (h.thOf (wishR Wt t).1.res).hm t).1 hc.2
      rw [h2] at h1; cases h1
    · exact hbs
  · rw [List.mem_filter]
    have hR : (r ∈ sortS (A.things.map (·.1)) ∧ condD A t r = true) ↔ condD A t r = true := ⟨fun h => h.2, fun h => ⟨hkey r h, h⟩⟩
    rw [hR]
    unfold thingsR condD
    rw [Bool.or_eq_true, decide_eq_true_eq, ← hbm r]
    split
    · rename_i hc
      simp only [Bool.and_eq_true, beq_iff_eq] at hc
      rw [mode_sim hs] at hc
      have h2 := (modeOf_zero (h.thOf (wishR Wt t).1.res).hm t).1 hc.2
      have hno : (wishR Wt t).1.res ∉ (H.filter fun h => h.txn == t).map (·.res) := fun hin => by
        have h1 := (hbm _).1 hin
        rw [h2] at h1; cases h1
      rw [(insS_spec hbs hno).2 r]
      rw [hws] at hc
      obtain ⟨r0, hr0⟩ := Option.isSome_iff_exists.1 hc.1
      rw [hwr r0 hr0, hr0, Option.some.injEq]
      constructor
      · rintro (h | h)
        · exact .inr h.symm
        · exact .inl h
      · rintro (h | h)
        · exact .inr h
        · exact .inl h.symm
    · rename_i hc
      constructor
      · exact .inl
      · rintro (h1 | h1)
        · exact h1
        · rw [hbm r]
          have e := hwr r h1
          rw [hws, h1, e, mode_sim hs] at hc
          simp only [Option.isSome_some, Bool.true_and, beq_iff_eq] at hc
          cases hx : pget (thF A r).1 t with
          | some m => rfl
          | none => exact absurd ((modeOf_zero (h.thOf r).hm t).2 hx) hc
theorem drop_sim {S : List Int} {k : Nat} {A : Abs} (h : Inv S k A) {H : List Lk} (hs : HSim A H) {Wt : List Ws} (hw : WSim A Wt) (t : Int) :
    (dropR H Wt t).2.2 = (dropF A t).1 ∧ HSim (dropF A t).2 (dropR H Wt t).1 ∧ WSim (dropF A t).2 (dropR H Wt t).2.1 := by
  have hperm := sortS_perm (A.things.map (·.1))
  have hin : ∀ p ∈ A.things, p.1 ∈ sortS (A.things.map (·.1)) := fun p hp => hperm.symm.subset (List.mem_map_of_mem hp)
  have h0 : DI A S k t (sortS (A.things.map (·.1))) ([], { A with waits := pdel A.waits t }) := by
    refine ⟨h.nd, h.ks, h.n, fun _ _ => rfl, fun p hp hn => absurd (hin p hp) hn, fun p hp hn => absurd (hin p hp) hn, fun p hp hn => absurd (hin p hp) hn, fun r _ x hx y hy hyt => ?_, rfl, fun p hp => h.wq p (pdel_sub.subset hp), by simp, by simp, fun t' _ r => ?_⟩
    · simp only []
      rw [pget_pdel_ne hyt.symm]
      exact h.qw _ (pget_mem hx) y hy
    · have := h.mode t' r
      exact ⟨this, jn_self this⟩
  have m0 : Mid { A with waits := pdel A.waits t } t (H.filter fun h => h.txn != t) (forgetR Wt t) := by
    refine ⟨hs.srt.sublist List.filter_sublist, fun l => ?_, fun r => ?_, hw.nd.sublist (List.filter_sublist.map _)⟩
    · rw [List.mem_filter, hs.mem l, bne_iff_ne]
      exact And.comm
    · unfold forgetR
      rw [filter_map_qsel, filter_map_qsel, ← List.filter_append, hw.q r, List.filter_map]
      rfl
  obtain ⟨h1, h2⟩ := drop_fold h t _ (hperm.nodup_iff.2 h.nd) (fun r hr => hperm.subset hr) _ _ _ h0 m0
  rw [← things_sim h hs hw t] at h1 h2
  have hd := (drop_inv h t).inv
  refine ⟨h1, ⟨h2.srt, fun l => ?_⟩, ⟨fun r => ?_, h2.nd⟩⟩
  · refine (h2.mem l).trans ⟨fun hh => hh.2, fun hh => ⟨fun e => ?_, hh⟩⟩
    have := (hd.thOf l.res).hS _ (pget_mem hh)
    simp only [] at this
    rw [e] at this
    simp at this
  · refine (h2.q r).trans ?_
    have e : ((thF (dropF A t).2 r).2.filter fun y => !(y.txn == t)) = (thF (dropF A t).2 r).2 := ?_
    · exact congrArg (List.map (asW r)) e
    rw [List.filter_eq_self]
    intro y hy
    have := (hd.thOf r).qS y hy
    simp only [List.mem_filter] at this
    exact this.2
end Go.Proofs.YtpghlemcgjogpaaGreat
