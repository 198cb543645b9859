/- A script of calls, as it came in. -/
import Derived.Test.YtpghlemcgjogpaaGreatDB
set_option linter.unusedVariables false
set_option linter.unusedSimpArgs false
set_option linter.unnecessarySimpa false
set_option maxRecDepth 100000
namespace Go.Proofs.YtpghlemcgjogpaaGreat
open Go.Sx

theorem undOps : Tryz.prog.underlying 22 = some (.slice 32) := by kernel_rfl
theorem sizOp : (Tryz.prog.info? 32).map (·.size) = some 4 := by kernel_rfl
theorem zerOp : (Tryz.prog.info? 32).map (·.zero) = some (some (.agg #[.int .i64 0, .int .i64 0, .int .i64 0, .string ByteArray.empty])) := by kernel_rfl
/-- One call. -/
structure Op where
  kind : Int
  txn : Int
  mode : Int
  res : ByteArray
def Op.cells (o : Op) : List Value := [.int .i64 o.kind, .int .i64 o.txn, .int .i64 o.mode, .string o.res]
theorem Op.one (o : Op) : ∀ u ∈ o.cells, oneV u = true := by
  intro u hu
  simp only [Op.cells, List.mem_cons, List.not_mem_nil, or_false] at hu
  rcases hu with rfl | rfl | rfl | rfl <;> rfl
def Op.ok (o : Op) : Prop := (Lit.int .i64 o.txn).wf = true ∧ o.res.size ≤ maxLen
/-- A slice of calls that came in. -/
def ArgO (w : World) (v : Value) (l : List Op) : Prop := ∃ a cap, v = .slice a l.length cap ∧ ∀ j x, l[j]? = some x → ∃ g off, a = some ⟨g, off, none⟩ ∧ g < w.heap.size ∧ Sx.cellsIn (w.heap[g]?) (off + j * 4) 4 = some x.cells.toArray
theorem ArgO.keep {w w' : World} {v : Value} {l : List Op} (h : ArgO w v l) (hk : Keep0 w w') : ArgO w' v l := by
  obtain ⟨a, cap, rfl, h⟩ := h
  refine ⟨a, cap, rfl, fun j x hx => ?_⟩
  obtain ⟨g, off, e, hl, hc⟩ := h j x hx
  exact ⟨g, off, e, Nat.lt_of_lt_of_le hl hk.size, by rw [hk.keep g hl id]; exact hc⟩
theorem ArgO.read {w : World} {v : Value} {l : List Op} {i : Nat} {x : Op} (h : ArgO w v l) (hx : l[i]? = some x) : ∃ p, (Instr.indexAt 22 v (.int .i64 i)).run Tryz.prog w = .ok p w ∧ (Instr.loadAt 32 p).run Tryz.prog w = .ok (.agg x.cells.toArray) w := by
  obtain ⟨a, cap, rfl, h⟩ := h
  obtain ⟨g, off, rfl, hl, hc⟩ := h i x hx
  have hlt := (List.getElem?_eq_some_iff.1 hx).1
  have := run_indexAt (P := Tryz.prog) (w := w) (g := g) (off := off) (n := l.length) (c := cap) (q := .i64) (i := (i : Int)) undOps sizOp (by omega) (by omega)
  simp only [Int.toNat_natCast] at this
  exact ⟨_, this, run_loadN (n := 4) (by kernel_rfl) hc⟩
theorem ArgO.len {w : World} {v : Value} {l : List Op} {R : Ending → World → Prop} {w1 : World} {ty : Nat} {cs : Array Bool} {k : Value → World → Prop} (h : ArgO w v l) : un Tryz.prog R (builtin .len #[22] ty cs #[v]) w1 k = k (.int .i64 l.length) w1 := by
  obtain ⟨a, cap, rfl, _⟩ := h
  exact un_len (by kernel_rfl)
/-- The call in a box of its own. -/
theorem ArgO.box {w : World} {v : Value} {l : List Op} {i : Nat} {x : Op} (h : ArgO w v l) (hx : l[i]? = some x) {R : Ending → World → Prop} {old : Value} {k : Value → World → Prop}
    (hk : ∀ b w', Keep0 w w' → w.heap.size = b → w'.heap[b]? = some (.cells #[.int .i64 x.kind, .int .i64 x.txn, .int .i64 x.mode, .string x.res] 32 (0, 0)) → k (ptr b) w') :
    uv Tryz.prog R (Instr.indexAt 22 v (.int .i64 i)) w (fun p w => uv Tryz.prog R (Instr.loadAt 32 p) w (fun u w => uv Tryz.prog R (Instr.alloc 32 true old) w (fun b w => uu Tryz.prog R (Instr.storeAt 32 b u) w (k b)))) := by
  obtain ⟨p, ix, lx⟩ := h.read hx
  rw [uv_eq ix, uv_eq lx, uv_allocS (vs := x.cells) zerOp sizOp rfl rfl x.one]
  exact hk _ _ (Keep.refl _ w).add rfl add_new
/-- A script's state: the table behind i calls. -/
structure Run (T0 : Tab) (w0 w : World) (T : Tab) (S : List Int) (i : Nat) : Prop where
  tab : TabAt w T
  bt : T.bt = T0.bt
  inv : Inv S i T.abs
  sl : S.length ≤ i
  foot : ∀ b, T.foot b → w0.heap.size ≤ b
  keep : Keep0 w0 w
theorem Run.keep0 {T0 T : Tab} {w0 w w' : World} {S : List Int} {i : Nat} (h : Run T0 w0 w T S i) (hk : Keep0 w w') : Run T0 w0 w' T S i :=
  ⟨h.tab.keep0 hk, h.bt, h.inv, h.sl, h.foot, h.keep.trans hk (fun _ _ h => h)⟩
theorem Run.mono {T0 T : Tab} {w0 w : World} {S : List Int} {i j : Nat} (h : Run T0 w0 w T S i) (hij : i ≤ j) : Run T0 w0 w T S j :=
  ⟨h.tab, h.bt, h.inv.mono (fun _ h => h) hij, Nat.le_trans h.sl hij, h.foot, h.keep⟩
theorem inv_qbig {S : List Int} {k : Nat} {T : Tab} (h : Inv S k T.abs) (hk : k ≤ 1048576) : ∀ p ∈ T.things, p.2.q.length ≤ 1099511627776 := by
  have hs := (h.small hk).q
  intro p hp
  have := hs (p.1, p.2.hv, p.2.q) (List.mem_map.2 ⟨p, hp, rfl⟩)
  simp only [] at this
  omega
/-- Asking in a script. -/
theorem Run.ask {T0 T : Tab} {w0 w : World} {S : List Int} {i : Nat} (h : Run T0 w0 w T S i) (hi : i ≤ 1048576) (t : Int) (r : ByteArray) (m : Int) (ht : (Lit.int .i64 t).wf = true) (hr : r.size ≤ maxLen) (R : Ending → World → Prop)
    (hR : ∀ w' T', Run T0 w0 w' T' (t :: S) (i + 1) → T'.abs = (ask T.abs t r m).2 → Keep T.foot w w' → (∀ b, T'.foot b → T.foot b ∨ w.heap.size ≤ b) → R (.returned (.int .i64 (ask T.abs t r m).1)) w') : Calls Tryz.prog 6 #[ptr T0.bt, .int .i64 t, .string r, .int .i64 m] w R := by
  rw [← h.bt]
  refine ask_c T r t m w h.tab (inv_qbig h.inv hi) R fun w' T' hA => hR w' T' ⟨hA.at', hA.bt.trans h.bt, ?_, ?_, fun b hb => ?_, h.keep.trans hA.keep (fun b hb hf => ?_)⟩ hA.abs hA.keep hA.foot
  · rw [hA.abs]; exact ask_inv h.inv ht hr
  · have := h.sl; simp only [List.length_cons]; omega
  · have := h.keep.size
    exact (hA.foot b hb).elim (h.foot b) (fun hb => by omega)
  · have := h.foot b hf; omega
/-- Dropping in a script. -/
theorem Run.drop {T0 T : Tab} {w0 w : World} {S : List Int} {i : Nat} (h : Run T0 w0 w T S i) (hi : i ≤ 1048576) (t : Int) (R : Ending → World → Prop)
    (hR : ∀ v w' T', Run T0 w0 w' T' (S.filter fun x => !(x == t)) i → T'.abs = (dropF T.abs t).2 → Keep T.foot w w' → (∀ b, T'.foot b → T.foot b) → RowI w' v (dropF T.abs t).1 → (∀ g, rowB v = some g → w.heap.size ≤ g) → R (.returned v) w') : Calls Tryz.prog 9 #[ptr T0.bt, .int .i64 t] w R := by
  rw [← h.bt]
  refine drop_c T t w h.tab (h.inv.small hi) R fun v w' T' ht hb ha hf hk hr hfr => hR v w' T' ⟨ht, hb.trans h.bt, ?_, ?_, fun b hb => h.foot b (hf b hb), h.keep.trans hk (fun b hb hf => ?_)⟩ ha hk hf hr hfr
  · rw [ha]; exact (drop_inv h.inv t).inv
  · exact Nat.le_trans (List.length_filter_le _ _) h.sl
  · have := h.foot b hf; omega
theorem modeT_abs (T : Tab) (t : Int) (r : ByteArray) : modeT T t r = modeF T.abs t r := by
  unfold modeT modeF thF
  have e : pget T.abs.things r = (fndT T.things r).map fun x => (x.hv, x.q) := absT_get T.things r
  rw [e]
  cases fndT T.things r <;> rfl
end Go.Proofs.YtpghlemcgjogpaaGreat
