/- A map's keys, sorted: by the shelf's contracts. -/
import Derived.Test.YtpghlemcgjogpaaGreatIt
import Derived.Test.YtpghlemcgjogpaaGreatCE
set_option linter.unusedVariables false
set_option linter.unusedSimpArgs false
set_option linter.unnecessarySimpa false
set_option maxRecDepth 100000
namespace Go.Proofs.YtpghlemcgjogpaaGreat
open Go.Sx Go.RowKit Go.Maps Go.Sort Go.Shelf Go.Proofs

/-- How an element reads here: not at all. -/
def noR : Value → Option (DataW Unit × List MemPlace) := fun _ => some (.nil, [])
theorem insert_perm (x : Lit × DataW Unit) : ∀ l : List (Lit × DataW Unit), (DataW.insert x l).Perm (x :: l)
  | [] => List.Perm.refl _
  | y :: r => by
    unfold DataW.insert
    split
    · exact List.Perm.refl _
    · exact ((insert_perm x r).cons y).trans (List.Perm.swap x y r)
theorem sorted_perm : ∀ l : List (Lit × DataW Unit), (l.foldr DataW.insert []).Perm l
  | [] => List.Perm.refl _
  | x :: r => (insert_perm x _).trans ((sorted_perm r).cons x)
theorem owns_of {P : Program} {kt : TypeId} {κ : Type} [DecidableEq κ] {K : KeyK P kt κ} {w : World} {b : Nat} {l : List (κ × Value)} (lt : κ → Lit) (h : MapK K (w.heap[b]?) l) (hnd : (l.map (·.1)).Nodup) (hinj : ∀ a b, K.vk a = K.vk b → a = b)
    (hk : ∀ p ∈ l, keyOf P kt (K.vk p.1) = some (lt p.1)) (hlen : l.length ≤ maxLen) : ∃ D : DataW Unit, w.ownsMap P kt noR b l.length D ∧ Maps.size D = l.length ∧ ∃ es, D = .map es ∧ (es.map (·.1)).Perm (l.map fun p => lt p.1) := by
  obtain ⟨es, clock, hb, hes, hp, hc⟩ := h
  have hl : es.toList.length = l.length := by simpa using congrArg List.length hes
  have hrd : ∀ x ∈ es.toList, ∃ p ∈ l, x.key = K.vk p.1 ∧ WideElems.rd P kt noR x = some (lt p.1, .nil) := by
    intro x hx
    have : (x.key, x.val) ∈ es.toList.map (fun e => (e.key, e.val)) := List.mem_map.2 ⟨x, hx, rfl⟩
    rw [hes, List.mem_map] at this
    obtain ⟨p, hp', e⟩ := this
    simp only [Prod.mk.injEq] at e
    refine ⟨p, hp', e.1.symm, ?_⟩
    simp [WideElems.rd, ← e.1, hk p hp', noR]
  have hkeys : es.toList.map (·.key) = l.map fun p => K.vk p.1 := by
    have := congrArg (List.map Prod.fst) hes
    simpa [List.map_map, Function.comp_def] using this
  refine ⟨_, ⟨es, clock, hb, ⟨by rw [← Array.length_toList, hl]; exact hlen, ⟨hc, ?_, ?_⟩, fun x hx => by obtain ⟨p, _, _, h⟩ := hrd x hx; exact ⟨_, h⟩⟩, by rw [← Array.length_toList, hl]; exact Nat.le_refl _, rfl⟩, ?_, _, rfl, ?_⟩
  · refine List.pairwise_map.2 (hp.imp fun h e => ?_)
    omega
  · rw [hkeys]
    refine List.pairwise_map.2 ((List.pairwise_map.1 hnd).imp fun h e => h (hinj _ _ e))
  · show ((es.toList.map (WideElems.rg P kt noR)).foldr DataW.insert []).length = l.length
    rw [length_sorted, List.length_map, hl]
  · refine ((sorted_perm _).map _).trans ?_
    rw [List.map_map]
    have : es.toList.map ((fun x : Lit × DataW Unit => x.1) ∘ WideElems.rg P kt noR) = l.map fun p => lt p.1 := by
      have h1 : ∀ (es : List MapEntry) (l : List (κ × Value)), es.map (fun e => (e.key, e.val)) = l.map (fun p => (K.vk p.1, p.2)) → (∀ p ∈ l, keyOf P kt (K.vk p.1) = some (lt p.1)) → es.map ((fun x : Lit × DataW Unit => x.1) ∘ WideElems.rg P kt noR) = l.map fun p => lt p.1 := by
        intro es
        induction es with
        | nil => intro l h _; cases l with
          | nil => rfl
          | cons p l => simp at h
        | cons e es ih =>
          intro l h hk
          cases l with
          | nil => simp at h
          | cons p l =>
            simp only [List.map_cons, List.cons.injEq, Prod.mk.injEq] at h ⊢
            refine ⟨?_, ih l h.2 fun q hq => hk q (List.mem_cons_of_mem _ hq)⟩
            simp [WideElems.rg, WideElems.rd, h.1.1, hk p List.mem_cons_self, noR]
      exact h1 _ _ hes hk
    rw [this]

/-- Strings, sorted; ints, sorted. -/
def sortS (ks : List ByteArray) : List ByteArray := ((ks.map fun s => s.data.toList).mergeSort leB).map fun x => ⟨x.toArray⟩
def sortI (ks : List Int) : List Int := ks.mergeSort fun x y => decide (x ≤ y)
def strs (l : List ByteArray) : List Value := l.map fun s => .string s
theorem sortI_of_perm {l l' : List Int} (h : l.Perm l') : l.mergeSort (fun x y => decide (x ≤ y)) = l'.mergeSort (fun x y => decide (x ≤ y)) := by
  have tr : ∀ a b c : Int, decide (a ≤ b) = true → decide (b ≤ c) = true → decide (a ≤ c) = true := fun a b c h1 h2 => by simp only [decide_eq_true_eq] at *; omega
  have to : ∀ a b : Int, (decide (a ≤ b) || decide (b ≤ a)) = true := fun a b => by simp only [Bool.or_eq_true, decide_eq_true_eq]; omega
  refine List.Perm.eq_of_pairwise (le := fun a b => decide (a ≤ b) = true) (fun a b _ _ h1 h2 => ?_) (List.pairwise_mergeSort tr to l) (List.pairwise_mergeSort tr to l') (((List.mergeSort_perm l _).trans h).trans (List.mergeSort_perm l' _).symm)
  simp only [decide_eq_true_eq] at h1 h2
  omega

theorem sortsS (m : Nat) : AnyZ.SortsIn Tryz.prog Tryz.sortedS_ren Fence.wide m :=
  ⟨fun blk off cap ss W hH hblk hsz => callsIn_wide.2 (AnyM.slices_Sort_string Tryz.sortS blk off cap ss W hH hblk hsz),
   fun p cap W => callsIn_wide.2 (AnyM.slices_Sort_string_none Tryz.sortS p cap W)⟩
theorem sortsI (m : Nat) : AnyZI.SortsIn Tryz.prog Tryz.sortedI_ren Fence.wide m :=
  ⟨fun blk off cap ss W hH hblk hsz => callsIn_wide.2 (AnyM.slices_Sort_int Tryz.sortI blk off cap ss W hH hblk hsz),
   fun p cap W => callsIn_wide.2 (AnyM.slices_Sort_int_none Tryz.sortI p cap W)⟩

theorem keysS_in (mb : Option Nat) (W : World) : CallsIn Fence.wide 5 Tryz.prog 31 #[.map mb] W fun e w' => e = .returned (.func (.func 57) #[] #[.pointer (some ⟨W.heap.size, 0, none⟩)]) ∧ w' = W.alloc (.cells #[.map mb] 48) :=
  AnyZ.keys_in Tryz.keysS Fence.wide 5 trivial rfl mb W
theorem keysI_in (mb : Option Nat) (W : World) : CallsIn Fence.wide 5 Tryz.prog 47 #[.map mb] W fun e w' => e = .returned (.func (.func 65) #[] #[.pointer (some ⟨W.heap.size, 0, none⟩)]) ∧ w' = W.alloc (.cells #[.map mb] 55) :=
  AnyZI.keys_in Tryz.keysI Fence.wide 5 trivial rfl mb W

set_option maxHeartbeats 1000000 in
theorem sortedS_in {H : Type} (b nn : Nat) (D0 : DataW H) (R : Value → Option (DataW H × List MemPlace)) (w : World) (hown : w.ownsMap Tryz.prog 9 R b nn D0) (hmax : Maps.size D0 ≤ maxLen) (hbytes : Maps.size D0 * 16 ≤ 140737488355328) :
    CallsIn Fence.wide 5 Tryz.prog 30 #[.func (.func 57) #[] #[.pointer (some ⟨w.heap.size, 0, none⟩)]] (w.alloc (.cells #[.map (some b)] 48)) fun e w' => ∃ (v : Value) (ss : List (List UInt8)), e = .returned v ∧ ss.Perm (strKeys D0) ∧
      w'.ownsRow (w.alloc (.cells #[.map (some b)] 48)).heap.size 9 1 v ss.length ((ss.mergeSort (fun x y => decide (x ≤ y))).map encStr) ∧ (v = .slice none 0 0 ↔ ss = []) ∧ Below (w.alloc (.cells #[.map (some b)] 48)).heap.size (w.alloc (.cells #[.map (some b)] 48)) w' := by
  have hbl := hown.lt
  have hseq : SeqGives Fence.wide 2 Tryz.prog 57 #[.pointer (some ⟨w.heap.size, 0, none⟩)] encStr (fun ss => ss.Perm (strKeys D0)) (Maps.size D0) (w.alloc (.cells #[.map (some b)] 48)) :=
    AnyZ.keys_gives (ρ := Tryz.keysS_ren) { Tryz.keysS with } Fence.wide _ trivial rfl (by omega) w.heap.size b nn D0 _ (by simp) (by simp) (by
      obtain ⟨es, clock, hb, Ft, hs, hD⟩ := hown
      exact ⟨es, clock, (Below.heap_alloc _ _ b hbl).trans hb, Ft, hs, hD⟩)
  exact AnyZ.sorted_in Tryz.sortedS Fence.wide 5 trivial trivial trivial trivial rfl (by omega) (sortsS _) (enters_of Tryz.func56 (by kernel_rfl) rfl) 57 #[.pointer (some ⟨w.heap.size, 0, none⟩)] trivial (enters_of Tryz.func57 (by kernel_rfl) rfl) _ _ hmax hbytes _ hseq
set_option maxHeartbeats 1000000 in
theorem sortedI_in {H : Type} (b nn : Nat) (D0 : DataW H) (R : Value → Option (DataW H × List MemPlace)) (w : World) (hown : w.ownsMap Tryz.prog 3 R b nn D0) (hmax : Maps.size D0 ≤ maxLen) (hbytes : Maps.size D0 * 8 ≤ 140737488355328) :
    CallsIn Fence.wide 5 Tryz.prog 46 #[.func (.func 65) #[] #[.pointer (some ⟨w.heap.size, 0, none⟩)]] (w.alloc (.cells #[.map (some b)] 55)) fun e w' => ∃ (v : Value) (ss : List Int), e = .returned v ∧ ss.Perm (intKeys D0) ∧
      w'.ownsRow (w.alloc (.cells #[.map (some b)] 55)).heap.size 3 1 v ss.length ((ss.mergeSort (fun x y => decide (x ≤ y))).map encZ) ∧ (v = .slice none 0 0 ↔ ss = []) ∧ Below (w.alloc (.cells #[.map (some b)] 55)).heap.size (w.alloc (.cells #[.map (some b)] 55)) w' := by
  have hbl := hown.lt
  have hseq : SeqGives Fence.wide 2 Tryz.prog 65 #[.pointer (some ⟨w.heap.size, 0, none⟩)] encZ (fun ss => ss.Perm (intKeys D0)) (Maps.size D0) (w.alloc (.cells #[.map (some b)] 55)) :=
    AnyZI.keys_gives (ρ := Tryz.keysI_ren) { Tryz.keysI with } Fence.wide _ trivial rfl (by omega) w.heap.size b nn D0 _ (by simp) (by simp) (by
      obtain ⟨es, clock, hb, Ft, hs, hD⟩ := hown
      exact ⟨es, clock, (Below.heap_alloc _ _ b hbl).trans hb, Ft, hs, hD⟩)
  exact AnyZI.sorted_in Tryz.sortedI Fence.wide 5 trivial trivial trivial trivial rfl (by omega) (sortsI _) (enters_of Tryz.func64 (by kernel_rfl) rfl) 65 #[.pointer (some ⟨w.heap.size, 0, none⟩)] trivial (enters_of Tryz.func65 (by kernel_rfl) rfl) _ _ hmax hbytes _ hseq

section
variable {R : Ending → World → Prop} {w : World} {b : Nat} {k : Value → World → Prop}
theorem un_sortedS {l : List (ByteArray × Value)} (h : MapS undS (w.heap[b]?) l) (hnd : (l.map (·.1)).Nodup) (hin : ∀ p ∈ l, p.1.size ≤ maxLen) (hlen : l.length ≤ 1099511627776)
    (hk : ∀ v w', Row w' 9 1 v (sortS (l.map (·.1))).length (strs (sortS (l.map (·.1)))) → (∀ g, rowB v = some g → w.heap.size ≤ g) → Keep0 w w' → k v w') :
    un Tryz.prog R (callFunc 31 #[.map (some b)]) w (fun f w => un Tryz.prog R (callFunc 30 #[f]) w k) := by
  have hmx : 4398046511104 ≤ maxLen := by decide
  obtain ⟨D, hown, hsz, es, rfl, hp⟩ := owns_of (fun s : ByteArray => Lit.string s.data.toList) h hnd (fun a b e => by cases e; rfl) (fun p hp => by
    have := hin p hp
    simp [keyOf, undS, mapKey, keyS_vk, this]) (by omega)
  refine un_enter (enters Tryz.func31 (by kernel_rfl) (by kernel_rfl) _ _) (Calls.mono ((callsIn_wide (n := 5)).1 (keysS_in (some b) w)) ?_)
  rintro e w1 ⟨rfl, rfl⟩
  refine un_enter (enters Tryz.func30 (by kernel_rfl) (by kernel_rfl) _ _) (Calls.mono ((callsIn_wide (n := 5)).1 (sortedS_in b _ _ _ w hown (by omega) (by omega))) ?_)
  rintro e w1 ⟨v, ss, rfl, hS, hrow, hnil, hb⟩
  have hka : Keep0 w (w.alloc (.cells #[.map (some b)] 48)) := (Keep.refl _ w).add
  have e1 : (ss.mergeSort fun x y => decide (x ≤ y)).map encStr = strs (sortS (l.map (·.1))) := by
    have hperm : ss.Perm ((l.map (·.1)).map fun s => s.data.toList) := by
      refine hS.trans ?_
      have := hp.map strOf
      simp only [List.map_map] at this
      refine List.Perm.trans ?_ (this.trans (List.Perm.of_eq ?_))
      · exact List.Perm.of_eq (by simp [strKeys, Function.comp_def])
      · simp [Function.comp_def, strOf]
    rw [mergeSort_of_perm hperm]
    simp [strs, sortS, List.map_map, Function.comp_def, encStr]
  have e2 : (sortS (l.map (·.1))).length = ss.length := by
    have := congrArg List.length e1
    simpa [strs] using this.symm
  have hR : Row w1 9 1 v (sortS (l.map (·.1))).length (strs (sortS (l.map (·.1)))) := by
    rw [e2, ← e1]; exact Row.of_owns hrow
  refine hk v w1 hR (fun g hg => ?_) (hka.trans (Keep.of_below hb) (fun _ _ h => h))
  rcases hrow.2 with ⟨rfl, _⟩ | ⟨g', cap, cur, rfl, hbg, _⟩
  · cases hg
  · cases hg
    exact Nat.le_trans hka.size hbg
theorem un_sortedI {l : List (Int × Value)} (h : MapI undI (w.heap[b]?) l) (hnd : (l.map (·.1)).Nodup) (hin : ∀ p ∈ l, (Lit.int .i64 p.1).wf = true) (hlen : l.length ≤ 1099511627776)
    (hk : ∀ v w', RowI w' v (sortI (l.map (·.1))) → (∀ g, rowB v = some g → w.heap.size ≤ g) → Keep0 w w' → k v w') :
    un Tryz.prog R (callFunc 47 #[.map (some b)]) w (fun f w => un Tryz.prog R (callFunc 46 #[f]) w k) := by
  have hmx : 4398046511104 ≤ maxLen := by decide
  obtain ⟨D, hown, hsz, es, rfl, hp⟩ := owns_of (fun s : Int => Lit.int .i64 s) h hnd (fun a b e => by cases e; rfl) (fun p hp => by
    have := hin p hp
    simp [keyOf, undI, mapKey, keyI_vk, this]) (by omega)
  refine un_enter (enters Tryz.func47 (by kernel_rfl) (by kernel_rfl) _ _) (Calls.mono ((callsIn_wide (n := 5)).1 (keysI_in (some b) w)) ?_)
  rintro e w1 ⟨rfl, rfl⟩
  refine un_enter (enters Tryz.func46 (by kernel_rfl) (by kernel_rfl) _ _) (Calls.mono ((callsIn_wide (n := 5)).1 (sortedI_in b _ _ _ w hown (by omega) (by omega))) ?_)
  rintro e w1 ⟨v, ss, rfl, hS, hrow, hnil, hb⟩
  have hka : Keep0 w (w.alloc (.cells #[.map (some b)] 55)) := (Keep.refl _ w).add
  have e1 : (ss.mergeSort fun x y => decide (x ≤ y)).map encZ = ints (sortI (l.map (·.1))) := by
    have hperm : ss.Perm (l.map (·.1)) := by
      refine hS.trans ?_
      have := hp.map Go.intOf
      simp only [List.map_map] at this
      refine List.Perm.trans ?_ (this.trans (List.Perm.of_eq ?_))
      · exact List.Perm.of_eq (by simp [intKeys, Function.comp_def])
      · simp [Function.comp_def, Go.intOf]
    rw [sortI_of_perm hperm]
    simp [ints, sortI, encZ]
  have e2 : (sortI (l.map (·.1))).length = ss.length := by
    have := congrArg List.length e1
    simpa [ints] using this.symm
  have hR : RowI w1 v (sortI (l.map (·.1))) := by
    unfold RowI
    rw [e2, ← e1]; exact Row.of_owns hrow
  refine hk v w1 hR (fun g hg => ?_) (hka.trans (Keep.of_below hb) (fun _ _ h => h))
  rcases hrow.2 with ⟨rfl, _⟩ | ⟨g', cap, cur, rfl, hbg, _⟩
  · cases hg
  · cases hg
    exact Nat.le_trans hka.size hbg
end
end Go.Proofs.YtpghlemcgjogpaaGreat
