import Derived.Test.YtpghlemcgjogpaaProg
import Derived.Test.YtpghlemcgjogpaaSx
import Derived.Test.YtpghlemcgjogpaaT
set_option linter.unusedVariables false
set_option maxRecDepth 100000
set_option maxHeartbeats 400000
namespace Go.Proofs.Ytpghlemcgjogpaa
open Go.Sx
/-! ### hasp/hasplaw10.speaks -/
noncomputable def F8_b : Code := bodyOf Try.f8
def F8_dc : Nat → List (Nat × Bool)
  | _ => []
def F8_s3_t (R : Ending → World → Prop) (v1 : Value) (w : World) : Prop :=
  un Try.prog R (callFunc 14 #[v1]) w (fun v30 w => -- law.go:24
  un Try.prog R (callFunc 17 #[v1, (Go.Value.int Go.IntKind.i64 2)]) w (fun v33 w => -- law.go:25
  uv Try.prog R (Instr.extract v33 0) w (fun v34 w => -- law.go:25
  uv Try.prog R (Instr.extract v33 1) w (fun v35 w => -- law.go:25
  uv Try.prog R (Instr.alloc 37 true (.tuple #[])) w (fun v3 w => -- law.go:25
  uu Try.prog R (Instr.storeAt 37 v3 v34) w (fun w => -- law.go:25
  un Try.prog R (callFunc 21 #[v1, (Go.Value.string { data := #[97] })]) w (fun v37 w => -- law.go:26
  un Try.prog R (builtin Go.Builtin.len #[38] 3 #[false] #[v30]) w (fun v39 w => -- law.go:27
  uv Try.prog R (binS Go.BinOp.eql 3 (.tmp 39) (.const (Go.Value.int Go.IntKind.i64 2)) v39 (Go.Value.int Go.IntKind.i64 2)) w (fun v40 w => -- law.go:27
  Gk v40 true (fun k => uv Try.prog R (Instr.loadAt 37 v3) w k) w (fun v42 w => -- law.go:27
  Gk v40 true (fun k => uv Try.prog R (Instr.build 37 #[(0, (Go.Value.int Go.IntKind.i64 2)), (1, (Go.Value.string { data := #[97] })), (2, (Go.Value.int Go.IntKind.i64 6))]) w k) w (fun v43 w => -- law.go:27
  Gk v40 true (fun k => uv Try.prog R (binS Go.BinOp.eql 37 (.tmp 42) (.tmp 43) v42 v43) w k) w (fun v44 w => -- law.go:27
  uv Try.prog R (pickS v40 v44 (Go.Value.bool false)) w (fun v45 w => -- law.go:27
  Gk v45 true (fun k => k v35 w) w (fun v47 w => -- law.go:27
  uv Try.prog R (pickS v45 v47 (Go.Value.bool false)) w (fun v48 w => -- law.go:27
  Gk v48 true (fun k => k v37 w) w (fun v50 w => -- law.go:27
  Gk v48 true (fun k => un Try.prog R (builtin Go.Builtin.len #[32] 3 #[false] #[v50]) w k) w (fun v51 w => -- law.go:27
  Gk v48 true (fun k => uv Try.prog R (binS Go.BinOp.eql 3 (.tmp 51) (.const (Go.Value.int Go.IntKind.i64 2)) v51 (Go.Value.int Go.IntKind.i64 2)) w k) w (fun v52 w => -- law.go:27
  uv Try.prog R (pickS v48 v52 (Go.Value.bool false)) w (fun v53 w => -- law.go:27
  Gk v53 true (fun k => k v1 w) w (fun v55 w => -- law.go:27
  Gk v53 true (fun k => un Try.prog R (callFunc 11 #[v55, (Go.Value.int Go.IntKind.i64 1)]) w k) w (fun v56 w => -- law.go:27
  Gk v53 true (fun k => uv Try.prog R (Instr.buildSlice 29 1 #[(0, (Go.Value.int Go.IntKind.i64 2))]) w k) w (fun v57 w => -- law.go:27
  Gk v53 true (fun k => un Try.prog R (callFunc 20 #[v56, v57]) w k) w (fun v58 w => -- law.go:27
  uv Try.prog R (pickS v53 v58 (Go.Value.bool false)) w (fun v59 w => -- law.go:27
  Gk v59 true (fun k => k v1 w) w (fun v61 w => -- law.go:27
  Gk v59 true (fun k => un Try.prog R (callFunc 11 #[v61, (Go.Value.int Go.IntKind.i64 2)]) w k) w (fun v62 w => -- law.go:27
  Gk v59 true (fun k => uv Try.prog R (Instr.buildSlice 29 1 #[(0, (Go.Value.int Go.IntKind.i64 3))]) w k) w (fun v63 w => -- law.go:27
  Gk v59 true (fun k => un Try.prog R (callFunc 20 #[v62, v63]) w k) w (fun v64 w => -- law.go:27
  uv Try.prog R (pickS v59 v64 (Go.Value.bool false)) w (fun v65 w => -- law.go:27
  Gk v65 true (fun k => k v1 w) w (fun v67 w => -- law.go:27
  Gk v65 true (fun k => un Try.prog R (callFunc 16 #[v67, (Go.Value.int Go.IntKind.i64 3), (Go.Value.string { data := #[97] })]) w k) w (fun v68 w => -- law.go:27
  Gk v65 true (fun k => uv Try.prog R (binS Go.BinOp.eql 3 (.tmp 68) (.const (Go.Value.int Go.IntKind.i64 3)) v68 (Go.Value.int Go.IntKind.i64 3)) w k) w (fun v69 w => -- law.go:27
  uv Try.prog R (pickS v65 v69 (Go.Value.bool false)) w (fun v70 w => -- law.go:27
  Gk v70 true (fun k => k v1 w) w (fun v72 w => -- law.go:27
  Gk v70 true (fun k => un Try.prog R (callFunc 13 #[v72]) w k) w (fun v73 w => -- law.go:27
  Gk v70 true (fun k => un Try.prog R (builtin Go.Builtin.len #[32] 3 #[false] #[v73]) w k) w (fun v74 w => -- law.go:27
  Gk v70 true (fun k => uv Try.prog R (binS Go.BinOp.eql 3 (.tmp 74) (.const (Go.Value.int Go.IntKind.i64 1)) v74 (Go.Value.int Go.IntKind.i64 1)) w k) w (fun v75 w => -- law.go:27
  uv Try.prog R (pickS v70 v75 (Go.Value.bool false)) w (fun v76 w => -- law.go:27
  R (.returned v76) w))))))))))))))))))))))))))))))))))))))
theorem F8_s3_st (R : Ending → World → Prop) (X : Nat → Fr → World → Prop) (f : Fr) (w : World) (h : F8_s3_t R (f 1) w) : wpE Try.prog F8_dc (resK Try.prog [.tmp 0] R) (panK R) (.seq (cL (cR (cR (cR F8_b)))) (.seq (cL (cR (cR (cR (cR F8_b))))) (.seq (cL (cR (cR (cR (cR (cR F8_b)))))) (cL (cR (cR (cR (cR (cR (cR F8_b)))))))))) (resK Try.prog [.tmp 0] R) X f w := Eq.mp (by kernel_rfl) h
def F8_s3 (R : Ending → World → Prop) (v1 : Value) (w : World) : Prop :=
  F8_s3_t R v1 w
noncomputable def F8_s3_c : Code := (.seq (.seq (cL (cR (cR (cR F8_b)))) (.seq (cL (cR (cR (cR (cR F8_b))))) (.seq (cL (cR (cR (cR (cR (cR F8_b)))))) (cL (cR (cR (cR (cR (cR (cR F8_b)))))))))) .ret)
theorem F8_s3_ok (R : Ending → World → Prop) : ∀ f w, ((fun f w => F8_s3 R (f 1) w)) f w → wpE Try.prog F8_dc (resK Try.prog [.tmp 0] R) (panK R) F8_s3_c (resK Try.prog [.tmp 0] R) noX f w :=
  fun f w h => cut (.seq (cL (cR (cR (cR F8_b)))) (.seq (cL (cR (cR (cR (cR F8_b))))) (.seq (cL (cR (cR (cR (cR (cR F8_b)))))) (cL (cR (cR (cR (cR (cR (cR F8_b)))))))))) .ret (K := (resK Try.prog [.tmp 0] R)) (fun f w h => ret_ok h) f w (F8_s3_st R _ f w h)
def F8_s4_t (R : Ending → World → Prop) (w : World) : Prop :=
  R (.returned (Go.Value.bool false)) w
theorem F8_s4_st (R : Ending → World → Prop) (X : Nat → Fr → World → Prop) (f : Fr) (w : World) (h : F8_s4_t R w) : wpE Try.prog F8_dc (resK Try.prog [.tmp 0] R) (panK R) (cL (cT (cR (cL (cR (cR F8_b)))))) (resK Try.prog [.tmp 0] R) X f w := Eq.mp (by kernel_rfl) h
def F8_s4 (R : Ending → World → Prop) (w : World) : Prop :=
  F8_s4_t R w
noncomputable def F8_s4_c : Code := (.seq (cL (cT (cR (cL (cR (cR F8_b)))))) .ret)
theorem F8_s4_ok (R : Ending → World → Prop) : ∀ f w, ((fun f w => F8_s4 R w)) f w → wpE Try.prog F8_dc (resK Try.prog [.tmp 0] R) (panK R) F8_s4_c (fun f w => F8_s3 R (f 1) w) noX f w :=
  fun f w h => cut (cL (cT (cR (cL (cR (cR F8_b)))))) .ret (K := (resK Try.prog [.tmp 0] R)) (fun f w h => ret_ok h) f w (F8_s4_st R _ f w h)
def F8_s2 (R : Ending → World → Prop) (v1 : Value) (v28 : Value) (w : World) : Prop :=
  Bc v28
    (F8_s4 R w)
    (F8_s3 R v1 w)
noncomputable def F8_s2_c : Code := (.seq (cR (cL (cR (cR F8_b)))) F8_s3_c)
theorem F8_s2_e (R : Ending → World → Prop) (K : Fr → World → Prop) (X : Nat → Fr → World → Prop) (f : Fr) (w : World) (h : Bc (f 28) (wpE Try.prog F8_dc (resK Try.prog [.tmp 0] R) (panK R) F8_s4_c K X f w) (wpE Try.prog F8_dc (resK Try.prog [.tmp 0] R) (panK R) .skip K X f w)) : (wpE Try.prog F8_dc (resK Try.prog [.tmp 0] R) (panK R) (cR (cL (cR (cR F8_b)))) K X f w) := Eq.mp (by kernel_rfl) h
theorem F8_s2_ok (R : Ending → World → Prop) : ∀ f w, ((fun f w => F8_s2 R (f 1) (f 28) w)) f w → wpE Try.prog F8_dc (resK Try.prog [.tmp 0] R) (panK R) F8_s2_c (resK Try.prog [.tmp 0] R) noX f w :=
  fun f w h => cut (cR (cL (cR (cR F8_b)))) F8_s3_c (K := (fun f w => F8_s3 R (f 1) w)) (F8_s3_ok R) f w (F8_s2_e R _ _ f w (Bc_imp (x' := (wpE Try.prog F8_dc (resK Try.prog [.tmp 0] R) (panK R) F8_s4_c (fun f w => F8_s3 R (f 1) w) noX f w)) (y' := (wpE Try.prog F8_dc (resK Try.prog [.tmp 0] R) (panK R) .skip (fun f w => F8_s3 R (f 1) w) noX f w)) ((F8_s4_ok R) f w) ((fun f w h => skip_ok h) f w) h))
def F8_s1_t (R : Ending → World → Prop) (K : Value → Value → World → Prop) (w : World) : Prop :=
  un Try.prog R (callFunc 9 #[]) w (fun v6 w => -- law.go:20
  uv Try.prog R (binS Go.BinOp.eql 24 (.tmp 7) (.const (Go.Value.pointer none)) v6 (Go.Value.pointer none)) w (fun v8 w => -- law.go:21
  Gk v8 false (fun k => k v6 w) w (fun v10 w => -- law.go:21
  Gk v8 false (fun k => un Try.prog R (callFunc 10 #[v10, (Go.Value.int Go.IntKind.i64 1), (Go.Value.string { data := #[97] }), (Go.Value.int Go.IntKind.i64 3)]) w k) w (fun v11 w => -- law.go:21
  Gk v8 false (fun k => uv Try.prog R (binS Go.BinOp.neq 3 (.tmp 11) (.const (Go.Value.int Go.IntKind.i64 1)) v11 (Go.Value.int Go.IntKind.i64 1)) w k) w (fun v12 w => -- law.go:21
  uv Try.prog R (pickS v8 (Go.Value.bool true) v12) w (fun v13 w => -- law.go:21
  Gk v13 false (fun k => k v6 w) w (fun v15 w => -- law.go:21
  Gk v13 false (fun k => un Try.prog R (callFunc 10 #[v15, (Go.Value.int Go.IntKind.i64 2), (Go.Value.string { data := #[97] }), (Go.Value.int Go.IntKind.i64 6)]) w k) w (fun v16 w => -- law.go:21
  Gk v13 false (fun k => uv Try.prog R (binS Go.BinOp.neq 3 (.tmp 16) (.const (Go.Value.int Go.IntKind.i64 2)) v16 (Go.Value.int Go.IntKind.i64 2)) w k) w (fun v17 w => -- law.go:21
  uv Try.prog R (pickS v13 (Go.Value.bool true) v17) w (fun v18 w => -- law.go:21
  Gk v18 false (fun k => k v6 w) w (fun v20 w => -- law.go:21
  Gk v18 false (fun k => un Try.prog R (callFunc 10 #[v20, (Go.Value.int Go.IntKind.i64 3), (Go.Value.string { data := #[97] }), (Go.Value.int Go.IntKind.i64 3)]) w k) w (fun v21 w => -- law.go:21
  Gk v18 false (fun k => uv Try.prog R (binS Go.BinOp.neq 3 (.tmp 21) (.const (Go.Value.int Go.IntKind.i64 2)) v21 (Go.Value.int Go.IntKind.i64 2)) w k) w (fun v22 w => -- law.go:21
  uv Try.prog R (pickS v18 (Go.Value.bool true) v22) w (fun v23 w => -- law.go:21
  Gk v23 false (fun k => k v6 w) w (fun v25 w => -- law.go:21
  Gk v23 false (fun k => un Try.prog R (callFunc 10 #[v25, (Go.Value.int Go.IntKind.i64 3), (Go.Value.string { data := #[98] }), (Go.Value.int Go.IntKind.i64 3)]) w k) w (fun v26 w => -- law.go:21
  Gk v23 false (fun k => uv Try.prog R (binS Go.BinOp.neq 3 (.tmp 26) (.const (Go.Value.int Go.IntKind.i64 0)) v26 (Go.Value.int Go.IntKind.i64 0)) w k) w (fun v27 w => -- law.go:21
  uv Try.prog R (pickS v23 (Go.Value.bool true) v27) w (fun v28 w => -- law.go:21
  K v6 v28 w))))))))))))))))))
theorem F8_s1_st (R : Ending → World → Prop) (K : Value → Value → World → Prop) (X : Nat → Fr → World → Prop) (f : Fr) (w : World) (h : F8_s1_t R K w) : wpE Try.prog F8_dc (resK Try.prog [.tmp 0] R) (panK R) (.seq (cL F8_b) (.seq (cL (cR F8_b)) (cL (cL (cR (cR F8_b)))))) (fun f w => K (f 1) (f 28) w) X f w := Eq.mp (by kernel_rfl) h
def F8_s1 (R : Ending → World → Prop) (w : World) : Prop :=
  F8_s1_t R (F8_s2 R) w
noncomputable def F8_s1_c : Code := (.seq (.seq (cL F8_b) (.seq (cL (cR F8_b)) (cL (cL (cR (cR F8_b)))))) F8_s2_c)
theorem F8_s1_ok (R : Ending → World → Prop) : ∀ f w, ((fun f w => F8_s1 R w)) f w → wpE Try.prog F8_dc (resK Try.prog [.tmp 0] R) (panK R) F8_s1_c (resK Try.prog [.tmp 0] R) noX f w :=
  fun f w h => cut (.seq (cL F8_b) (.seq (cL (cR F8_b)) (cL (cL (cR (cR F8_b)))))) F8_s2_c (K := (fun f w => F8_s2 R (f 1) (f 28) w)) (F8_s2_ok R) f w (F8_s1_st R (F8_s2 R) _ f w h)
theorem F8_all_e (R : Ending → World → Prop) (K : Fr → World → Prop) (X : Nat → Fr → World → Prop) (f : Fr) (w : World) (h : wpE Try.prog F8_dc (resK Try.prog [.tmp 0] R) (panK R) F8_s1_c K X f w) : wpE Try.prog F8_dc (resK Try.prog [.tmp 0] R) (panK R) F8_b K X f w := Eq.mp (by kernel_rfl) h
theorem F8_calls (R : Ending → World → Prop) (w : World) (h : F8_s1 R w) : Calls Try.prog 8 #[] w R :=
  calls_of_wpE (dc := F8_dc) (args := []) hmixed Try.func8 (c := F8_b) rfl (rs := [.tmp 0]) rfl (by kernel_rfl) (Nat.le_of_ble_eq_true (by kernel_rfl)) (F8_all_e R _ _ _ w ((F8_s1_ok R) (initFr []) w h))

/-! ### hasp/haspref08.SameInts -/
noncomputable def F20_b : Code := bodyOf Try.f20
def F20_dc : Nat → List (Nat × Bool)
  | 6 => [(0, true), (1, true), (2, true), (3, true), (4, true), (5, true), (6, true), (7, true), (8, true)]
  | _ => []
def F20_s5_t (R : Ending → World → Prop) (w : World) : Prop :=
  R (.returned (Go.Value.bool true)) w
theorem F20_s5_st (R : Ending → World → Prop) (X : Nat → Fr → World → Prop) (f : Fr) (w : World) (h : F20_s5_t R w) : wpE Try.prog F20_dc (resK Try.prog [.tmp 4] R) (panK R) (cL (cR (cR (cR F20_b)))) (resK Try.prog [.tmp 4] R) X f w := Eq.mp (by kernel_rfl) h
def F20_s5 (R : Ending → World → Prop) (w : World) : Prop :=
  F20_s5_t R w
noncomputable def F20_s5_c : Code := (.seq (cL (cR (cR (cR F20_b)))) .ret)
theorem F20_s5_ok (R : Ending → World → Prop) : ∀ f w, ((fun f w => F20_s5 R w)) f w → wpE Try.prog F20_dc (resK Try.prog [.tmp 4] R) (panK R) F20_s5_c (resK Try.prog [.tmp 4] R) noX f w :=
  fun f w h => cut (cL (cR (cR (cR F20_b)))) .ret (K := (resK Try.prog [.tmp 4] R)) (fun f w h => ret_ok h) f w (F20_s5_st R _ f w h)
def F20_s10_t (R : Ending → World → Prop) (K : Value → World → Prop) (v0 : Value) (v1 : Value) (v5 : Value) (w : World) : Prop :=
  uv Try.prog R (binS Go.BinOp.add 3 (.tmp 15) (.const (Go.Value.int Go.IntKind.i64 1)) v5 (Go.Value.int Go.IntKind.i64 1)) w (fun v16 w => -- ref.go:107
  K v16 w)
theorem F20_s10_st (R : Ending → World → Prop) (K : Value → World → Prop) (X : Nat → Fr → World → Prop) (f : Fr) (w : World) (h : F20_s10_t R K (f 0) (f 1) (f 5) w) : wpE Try.prog F20_dc (resK Try.prog [.tmp 4] R) (panK R) (cR (cR (cI (cI (cR (cL (cR (cR F20_b)))))))) (fun f w => K (f 5) w) X f w := Eq.mp (by kernel_rfl) h
def F20_s10 (R : Ending → World → Prop) (rec6 : Value → World → Prop) (v0 : Value) (v1 : Value) (v5 : Value) (w : World) : Prop :=
  F20_s10_t R (rec6) v0 v1 v5 w
noncomputable def F20_s10_c : Code := (.seq (cR (cR (cI (cI (cR (cL (cR (cR F20_b)))))))) .skip)
theorem F20_s10_ok (R : Ending → World → Prop) (rec6 : Value → World → Prop) : ∀ f w, ((fun f w => F20_s10 R rec6 (f 0) (f 1) (f 5) w)) f w → wpE Try.prog F20_dc (resK Try.prog [.tmp 4] R) (panK R) F20_s10_c (fun f w => rec6 (f 5) w) (kxB 0 ((fun f w => F20_s5 R w)) noX) f w :=
  fun f w h => cut (cR (cR (cI (cI (cR (cL (cR (cR F20_b)))))))) .skip (K := (fun f w => rec6 (f 5) w)) (fun f w h => skip_ok h) f w (F20_s10_st R (rec6) _ f w h)
def F20_s13_t (R : Ending → World → Prop) (w : World) : Prop :=
  R (.returned (Go.Value.bool false)) w
theorem F20_s13_st (R : Ending → World → Prop) (X : Nat → Fr → World → Prop) (f : Fr) (w : World) (h : F20_s13_t R w) : wpE Try.prog F20_dc (resK Try.prog [.tmp 4] R) (panK R) (cL (cT (cR (cI (cL (cR (cI (cI (cR (cL (cR (cR F20_b)))))))))))) (resK Try.prog [.tmp 4] R) X f w := Eq.mp (by kernel_rfl) h
def F20_s13 (R : Ending → World → Prop) (rec6 : Value → World → Prop) (w : World) : Prop :=
  F20_s13_t R w
noncomputable def F20_s13_c : Code := (.seq (cL (cT (cR (cI (cL (cR (cI (cI (cR (cL (cR (cR F20_b)))))))))))) .ret)
theorem F20_s13_ok (R : Ending → World → Prop) (rec6 : Value → World → Prop) : ∀ f w, ((fun f w => F20_s13 R rec6 w)) f w → wpE Try.prog F20_dc (resK Try.prog [.tmp 4] R) (panK R) F20_s13_c (fun f w => F20_s10 R rec6 (f 0) (f 1) (f 5) w) (kxB 1 ((fun f w => F20_s10 R rec6 (f 0) (f 1) (f 5) w)) (kxB 0 ((fun f w => F20_s5 R w)) noX)) f w :=
  fun f w h => cut (cL (cT (cR (cI (cL (cR (cI (cI (cR (cL (cR (cR F20_b)))))))))))) .ret (K := (resK Try.prog [.tmp 4] R)) (fun f w h => ret_ok h) f w (F20_s13_st R _ f w h)
def F20_s12 (R : Ending → World → Prop) (rec6 : Value → World → Prop) (v0 : Value) (v1 : Value) (v5 : Value) (v25 : Value) (w : World) : Prop :=
  Bc v25
    (F20_s13 R rec6 w)
    (F20_s10 R rec6 v0 v1 v5 w)
noncomputable def F20_s12_c : Code := (.seq (cR (cI (cL (cR (cI (cI (cR (cL (cR (cR F20_b)))))))))) .skip)
theorem F20_s12_e (R : Ending → World → Prop) (K : Fr → World → Prop) (X : Nat → Fr → World → Prop) (f : Fr) (w : World) (h : Bc (f 25) (wpE Try.prog F20_dc (resK Try.prog [.tmp 4] R) (panK R) F20_s13_c K X f w) (wpE Try.prog F20_dc (resK Try.prog [.tmp 4] R) (panK R) .skip K X f w)) : (wpE Try.prog F20_dc (resK Try.prog [.tmp 4] R) (panK R) (cR (cI (cL (cR (cI (cI (cR (cL (cR (cR F20_b)))))))))) K X f w) := Eq.mp (by kernel_rfl) h
theorem F20_s12_ok (R : Ending → World → Prop) (rec6 : Value → World → Prop) : ∀ f w, ((fun f w => F20_s12 R rec6 (f 0) (f 1) (f 5) (f 25) w)) f w → wpE Try.prog F20_dc (resK Try.prog [.tmp 4] R) (panK R) F20_s12_c (fun f w => F20_s10 R rec6 (f 0) (f 1) (f 5) w) (kxB 1 ((fun f w => F20_s10 R rec6 (f 0) (f 1) (f 5) w)) (kxB 0 ((fun f w => F20_s5 R w)) noX)) f w :=
  fun f w h => cut (cR (cI (cL (cR (cI (cI (cR (cL (cR (cR F20_b)))))))))) .skip (K := (fun f w => F20_s10 R rec6 (f 0) (f 1) (f 5) w)) (fun f w h => skip_ok h) f w (F20_s12_e R _ _ f w (Bc_imp (x' := (wpE Try.prog F20_dc (resK Try.prog [.tmp 4] R) (panK R) F20_s13_c (fun f w => F20_s10 R rec6 (f 0) (f 1) (f 5) w) (kxB 1 ((fun f w => F20_s10 R rec6 (f 0) (f 1) (f 5) w)) (kxB 0 ((fun f w => F20_s5 R w)) noX)) f w)) (y' := (wpE Try.prog F20_dc (resK Try.prog [.tmp 4] R) (panK R) .skip (fun f w => F20_s10 R rec6 (f 0) (f 1) (f 5) w) (kxB 1 ((fun f w => F20_s10 R rec6 (f 0) (f 1) (f 5) w)) (kxB 0 ((fun f w => F20_s5 R w)) noX)) f w)) ((F20_s13_ok R rec6) f w) ((fun f w h => skip_ok h) f w) h))
def F20_s11_t (R : Ending → World → Prop) (K : Value → Value → Value → Value → World → Prop) (v0 : Value) (v1 : Value) (v5 : Value) (w : World) : Prop :=
  Dr (fun S w => -- ref.go:108
  HV Try.prog S (Instr.indexAt 29 v0 v5) (fun v19 => -- ref.go:108
  HV Try.prog S (Instr.loadAt 3 v19) (fun v20 => -- ref.go:108
  HV Try.prog S (Instr.indexAt 29 v1 v5) (fun v23 => -- ref.go:108
  HV Try.prog S (Instr.loadAt 3 v23) (fun v24 => -- ref.go:108
  HV Try.prog S (binS Go.BinOp.neq 3 (.tmp 20) (.tmp 24) v20 v24) (fun v25 => -- ref.go:108
  K v0 v1 v5 v25 w)))))) w
theorem F20_s11_st (R : Ending → World → Prop) (K : Value → Value → Value → Value → World → Prop) (X : Nat → Fr → World → Prop) (f : Fr) (w : World) (h : F20_s11_t R K (f 0) (f 1) (f 5) w) : wpE Try.prog F20_dc (resK Try.prog [.tmp 4] R) (panK R) (cL (cI (cL (cR (cI (cI (cR (cL (cR (cR F20_b)))))))))) (fun f w => K (f 0) (f 1) (f 5) (f 25) w) X f w := Eq.mp (by kernel_rfl) h
def F20_s11 (R : Ending → World → Prop) (rec6 : Value → World → Prop) (v0 : Value) (v1 : Value) (v5 : Value) (w : World) : Prop :=
  F20_s11_t R (F20_s12 R rec6) v0 v1 v5 w
noncomputable def F20_s11_c : Code := (.seq (cL (cI (cL (cR (cI (cI (cR (cL (cR (cR F20_b)))))))))) F20_s12_c)
theorem F20_s11_ok (R : Ending → World → Prop) (rec6 : Value → World → Prop) : ∀ f w, ((fun f w => F20_s11 R rec6 (f 0) (f 1) (f 5) w)) f w → wpE Try.prog F20_dc (resK Try.prog [.tmp 4] R) (panK R) F20_s11_c (fun f w => F20_s10 R rec6 (f 0) (f 1) (f 5) w) (kxB 1 ((fun f w => F20_s10 R rec6 (f 0) (f 1) (f 5) w)) (kxB 0 ((fun f w => F20_s5 R w)) noX)) f w :=
  fun f w h => cut (cL (cI (cL (cR (cI (cI (cR (cL (cR (cR F20_b)))))))))) F20_s12_c (K := (fun f w => F20_s12 R rec6 (f 0) (f 1) (f 5) (f 25) w)) (F20_s12_ok R rec6) f w (F20_s11_st R (F20_s12 R rec6) _ f w h)
noncomputable def F20_s9_c : Code := (.seq (cL (cR (cI (cI (cR (cL (cR (cR F20_b)))))))) F20_s10_c)
theorem F20_s9_e (R : Ending → World → Prop) (K : Fr → World → Prop) (X : Nat → Fr → World → Prop) (f : Fr) (w : World) (h : wpE Try.prog F20_dc (resK Try.prog [.tmp 4] R) (panK R) F20_s11_c K (kxB 1 K X) f w) : wpE Try.prog F20_dc (resK Try.prog [.tmp 4] R) (panK R) (cL (cR (cI (cI (cR (cL (cR (cR F20_b)))))))) K X f w := Eq.mp (by kernel_rfl) h
theorem F20_s9_ok (R : Ending → World → Prop) (rec6 : Value → World → Prop) : ∀ f w, ((fun f w => F20_s11 R rec6 (f 0) (f 1) (f 5) w)) f w → wpE Try.prog F20_dc (resK Try.prog [.tmp 4] R) (panK R) F20_s9_c (fun f w => rec6 (f 5) w) (kxB 0 ((fun f w => F20_s5 R w)) noX) f w :=
  fun f w h => cut (cL (cR (cI (cI (cR (cL (cR (cR F20_b)))))))) F20_s10_c (K := (fun f w => F20_s10 R rec6 (f 0) (f 1) (f 5) w)) (F20_s10_ok R rec6) f w (F20_s9_e R _ _ f w ((F20_s11_ok R rec6) f w h))
def F20_s8 (R : Ending → World → Prop) (rec6 : Value → World → Prop) (v0 : Value) (v1 : Value) (v5 : Value) (v14 : Value) (w : World) : Prop :=
  Bc v14
    (F20_s11 R rec6 v0 v1 v5 w)
    (F20_s5 R w)
noncomputable def F20_s8_c : Code := (.seq (cR (cL (cI (cI (cR (cL (cR (cR F20_b)))))))) F20_s9_c)
theorem F20_s8_e (R : Ending → World → Prop) (K : Fr → World → Prop) (X : Nat → Fr → World → Prop) (f : Fr) (w : World) (h : Bc (f 14) (wpE Try.prog F20_dc (resK Try.prog [.tmp 4] R) (panK R) .skip K X f w) (wpE Try.prog F20_dc (resK Try.prog [.tmp 4] R) (panK R) (.exit 0) K X f w)) : (wpE Try.prog F20_dc (resK Try.prog [.tmp 4] R) (panK R) (cR (cL (cI (cI (cR (cL (cR (cR F20_b)))))))) K X f w) := Eq.mp (by kernel_rfl) h
theorem F20_s8_ok (R : Ending → World → Prop) (rec6 : Value → World → Prop) : ∀ f w, ((fun f w => F20_s8 R rec6 (f 0) (f 1) (f 5) (f 14) w)) f w → wpE Try.prog F20_dc (resK Try.prog [.tmp 4] R) (panK R) F20_s8_c (fun f w => rec6 (f 5) w) (kxB 0 ((fun f w => F20_s5 R w)) noX) f w :=
  fun f w h => cut (cR (cL (cI (cI (cR (cL (cR (cR F20_b)))))))) F20_s9_c (K := (fun f w => F20_s11 R rec6 (f 0) (f 1) (f 5) w)) (F20_s9_ok R rec6) f w (F20_s8_e R _ _ f w (Bc_imp (x' := (wpE Try.prog F20_dc (resK Try.prog [.tmp 4] R) (panK R) .skip (fun f w => F20_s11 R rec6 (f 0) (f 1) (f 5) w) (kxB 0 ((fun f w => F20_s5 R w)) noX) f w)) (y' := (wpE Try.prog F20_dc (resK Try.prog [.tmp 4] R) (panK R) (.exit 0) (fun f w => F20_s11 R rec6 (f 0) (f 1) (f 5) w) (kxB 0 ((fun f w => F20_s5 R w)) noX) f w)) ((fun f w h => skip_ok h) f w) ((fun f w h => exit_hit h) f w) h))
def F20_s7_t (R : Ending → World → Prop) (K : Value → Value → Value → Value → World → Prop) (v0 : Value) (v1 : Value) (v5 : Value) (w : World) : Prop :=
  un Try.prog R (builtin Go.Builtin.len #[29] 3 #[false] #[v0]) w (fun v13 w => -- ref.go:107
  uv Try.prog R (binS Go.BinOp.lss 3 (.tmp 11) (.tmp 13) v5 v13) w (fun v14 w => -- ref.go:107
  K v0 v1 v5 v14 w))
theorem F20_s7_st (R : Ending → World → Prop) (K : Value → Value → Value → Value → World → Prop) (X : Nat → Fr → World → Prop) (f : Fr) (w : World) (h : F20_s7_t R K (f 0) (f 1) (f 5) w) : wpE Try.prog F20_dc (resK Try.prog [.tmp 4] R) (panK R) (cL (cL (cI (cI (cR (cL (cR (cR F20_b)))))))) (fun f w => K (f 0) (f 1) (f 5) (f 14) w) X f w := Eq.mp (by kernel_rfl) h
def F20_s7 (R : Ending → World → Prop) (rec6 : Value → World → Prop) (v0 : Value) (v1 : Value) (v5 : Value) (w : World) : Prop :=
  F20_s7_t R (F20_s8 R rec6) v0 v1 v5 w
noncomputable def F20_s7_c : Code := (.seq (cL (cL (cI (cI (cR (cL (cR (cR F20_b)))))))) F20_s8_c)
theorem F20_s7_ok (R : Ending → World → Prop) (rec6 : Value → World → Prop) : ∀ f w, ((fun f w => F20_s7 R rec6 (f 0) (f 1) (f 5) w)) f w → wpE Try.prog F20_dc (resK Try.prog [.tmp 4] R) (panK R) F20_s7_c (fun f w => rec6 (f 5) w) (kxB 0 ((fun f w => F20_s5 R w)) noX) f w :=
  fun f w h => cut (cL (cL (cI (cI (cR (cL (cR (cR F20_b)))))))) F20_s8_c (K := (fun f w => F20_s8 R rec6 (f 0) (f 1) (f 5) (f 14) w)) (F20_s8_ok R rec6) f w (F20_s7_st R (F20_s8 R rec6) _ f w h)
def F20_s6 (R : Ending → World → Prop) (v0 : Value) (v1 : Value) (v5 : Value) (w : World) : Prop :=
  Lp1 (fun rec6 v5 w => F20_s7 R rec6 v0 v1 v5 w) v5 w
theorem F20_s6_e (R : Ending → World → Prop) (K : Fr → World → Prop) (X : Nat → Fr → World → Prop) (f : Fr) (w : World) (h : wpE Try.prog F20_dc (resK Try.prog [.tmp 4] R) (panK R) (.loop (cI (cI (cR (cL (cR (cR F20_b))))))) K X f w) : wpE Try.prog F20_dc (resK Try.prog [.tmp 4] R) (panK R) (cI (cR (cL (cR (cR F20_b))))) K X f w := Eq.mp (by kernel_rfl) h
theorem F20_s6b_e (R : Ending → World → Prop) (K : Fr → World → Prop) (X : Nat → Fr → World → Prop) (f : Fr) (w : World) (h : wpE Try.prog F20_dc (resK Try.prog [.tmp 4] R) (panK R) F20_s7_c K X f w) : wpE Try.prog F20_dc (resK Try.prog [.tmp 4] R) (panK R) (cI (cI (cR (cL (cR (cR F20_b)))))) K X f w := Eq.mp (by kernel_rfl) h
theorem F20_s6_ok (R : Ending → World → Prop) : ∀ f w, ((fun f w => F20_s6 R (f 0) (f 1) (f 5) w)) f w → wpE Try.prog F20_dc (resK Try.prog [.tmp 4] R) (panK R) (cI (cR (cL (cR (cR F20_b))))) (fun f w => F20_s5 R w) (kxB 0 ((fun f w => F20_s5 R w)) noX) f w :=
  fun f w h => F20_s6_e R _ _ f w (loop1_ok (P := Try.prog) (dc := F20_dc) (kr := (resK Try.prog [.tmp 4] R)) (pan := panK R) (cI (cI (cR (cL (cR (cR F20_b)))))) (kn := (fun f w => F20_s5 R w)) (kx := (kxB 0 ((fun f w => F20_s5 R w)) noX)) (s0 := 5) (fun rec6 v5 w => F20_s7 R rec6 (f 0) (f 1) v5 w) f (fun rec6 f' w' hf h' => F20_s6b_e R _ _ f' w' ((F20_s7_ok R rec6) f' w' (by simp only [hf 0 (by kernel_rfl), hf 1 (by kernel_rfl)]; exact h'))) w h)
noncomputable def F20_s4_c : Code := (.seq (cR (cL (cR (cR F20_b)))) F20_s5_c)
theorem F20_s4_e (R : Ending → World → Prop) (K : Fr → World → Prop) (X : Nat → Fr → World → Prop) (f : Fr) (w : World) (h : wpE Try.prog F20_dc (resK Try.prog [.tmp 4] R) (panK R) (cI (cR (cL (cR (cR F20_b))))) K (kxB 0 K X) f w) : wpE Try.prog F20_dc (resK Try.prog [.tmp 4] R) (panK R) (cR (cL (cR (cR F20_b)))) K X f w := Eq.mp (by kernel_rfl) h
theorem F20_s4_ok (R : Ending → World → Prop) : ∀ f w, ((fun f w => F20_s6 R (f 0) (f 1) (f 5) w)) f w → wpE Try.prog F20_dc (resK Try.prog [.tmp 4] R) (panK R) F20_s4_c (resK Try.prog [.tmp 4] R) noX f w :=
  fun f w h => cut (cR (cL (cR (cR F20_b)))) F20_s5_c (K := (fun f w => F20_s5 R w)) (F20_s5_ok R) f w (F20_s4_e R _ _ f w ((F20_s6_ok R) f w h))
def F20_s3_t (R : Ending → World → Prop) (K : Value → Value → Value → World → Prop) (v0 : Value) (v1 : Value) (w : World) : Prop :=
  K v0 v1 (Go.Value.int Go.IntKind.i64 0) w
theorem F20_s3_st (R : Ending → World → Prop) (K : Value → Value → Value → World → Prop) (X : Nat → Fr → World → Prop) (f : Fr) (w : World) (h : F20_s3_t R K (f 0) (f 1) w) : wpE Try.prog F20_dc (resK Try.prog [.tmp 4] R) (panK R) (cL (cL (cR (cR F20_b)))) (fun f w => K (f 0) (f 1) (f 5) w) X f w := Eq.mp (by kernel_rfl) h
def F20_s3 (R : Ending → World → Prop) (v0 : Value) (v1 : Value) (w : World) : Prop :=
  F20_s3_t R (F20_s6 R) v0 v1 w
noncomputable def F20_s3_c : Code := (.seq (cL (cL (cR (cR F20_b)))) F20_s4_c)
theorem F20_s3_ok (R : Ending → World → Prop) : ∀ f w, ((fun f w => F20_s3 R (f 0) (f 1) w)) f w → wpE Try.prog F20_dc (resK Try.prog [.tmp 4] R) (panK R) F20_s3_c (resK Try.prog [.tmp 4] R) noX f w :=
  fun f w h => cut (cL (cL (cR (cR F20_b)))) F20_s4_c (K := (fun f w => F20_s6 R (f 0) (f 1) (f 5) w)) (F20_s4_ok R) f w (F20_s3_st R (F20_s6 R) _ f w h)
def F20_s14_t (R : Ending → World → Prop) (w : World) : Prop :=
  R (.returned (Go.Value.bool false)) w
theorem F20_s14_st (R : Ending → World → Prop) (X : Nat → Fr → World → Prop) (f : Fr) (w : World) (h : F20_s14_t R w) : wpE Try.prog F20_dc (resK Try.prog [.tmp 4] R) (panK R) (cL (cT (cR (cL (cR F20_b))))) (resK Try.prog [.tmp 4] R) X f w := Eq.mp (by kernel_rfl) h
def F20_s14 (R : Ending → World → Prop) (w : World) : Prop :=
  F20_s14_t R w
noncomputable def F20_s14_c : Code := (.seq (cL (cT (cR (cL (cR F20_b))))) .ret)
theorem F20_s14_ok (R : Ending → World → Prop) : ∀ f w, ((fun f w => F20_s14 R w)) f w → wpE Try.prog F20_dc (resK Try.prog [.tmp 4] R) (panK R) F20_s14_c (fun f w => F20_s3 R (f 0) (f 1) w) noX f w :=
  fun f w h => cut (cL (cT (cR (cL (cR F20_b))))) .ret (K := (resK Try.prog [.tmp 4] R)) (fun f w h => ret_ok h) f w (F20_s14_st R _ f w h)
def F20_s2 (R : Ending → World → Prop) (v0 : Value) (v1 : Value) (v10 : Value) (w : World) : Prop :=
  Bc v10
    (F20_s14 R w)
    (F20_s3 R v0 v1 w)
noncomputable def F20_s2_c : Code := (.seq (cR (cL (cR F20_b))) F20_s3_c)
theorem F20_s2_e (R : Ending → World → Prop) (K : Fr → World → Prop) (X : Nat → Fr → World → Prop) (f : Fr) (w : World) (h : Bc (f 10) (wpE Try.prog F20_dc (resK Try.prog [.tmp 4] R) (panK R) F20_s14_c K X f w) (wpE Try.prog F20_dc (resK Try.prog [.tmp 4] R) (panK R) .skip K X f w)) : (wpE Try.prog F20_dc (resK Try.prog [.tmp 4] R) (panK R) (cR (cL (cR F20_b))) K X f w) := Eq.mp (by kernel_rfl) h
theorem F20_s2_ok (R : Ending → World → Prop) : ∀ f w, ((fun f w => F20_s2 R (f 0) (f 1) (f 10) w)) f w → wpE Try.prog F20_dc (resK Try.prog [.tmp 4] R) (panK R) F20_s2_c (resK Try.prog [.tmp 4] R) noX f w :=
  fun f w h => cut (cR (cL (cR F20_b))) F20_s3_c (K := (fun f w => F20_s3 R (f 0) (f 1) w)) (F20_s3_ok R) f w (F20_s2_e R _ _ f w (Bc_imp (x' := (wpE Try.prog F20_dc (resK Try.prog [.tmp 4] R) (panK R) F20_s14_c (fun f w => F20_s3 R (f 0) (f 1) w) noX f w)) (y' := (wpE Try.prog F20_dc (resK Try.prog [.tmp 4] R) (panK R) .skip (fun f w => F20_s3 R (f 0) (f 1) w) noX f w)) ((F20_s14_ok R) f w) ((fun f w h => skip_ok h) f w) h))
def F20_s1_t (R : Ending → World → Prop) (K : Value → Value → Value → World → Prop) (v0 : Value) (v1 : Value) (w : World) : Prop :=
  un Try.prog R (builtin Go.Builtin.len #[29] 3 #[false] #[v0]) w (fun v7 w => -- ref.go:104
  un Try.prog R (builtin Go.Builtin.len #[29] 3 #[false] #[v1]) w (fun v9 w => -- ref.go:104
  uv Try.prog R (binS Go.BinOp.neq 3 (.tmp 7) (.tmp 9) v7 v9) w (fun v10 w => -- ref.go:104
  K v0 v1 v10 w)))
theorem F20_s1_st (R : Ending → World → Prop) (K : Value → Value → Value → World → Prop) (X : Nat → Fr → World → Prop) (f : Fr) (w : World) (h : F20_s1_t R K (f 0) (f 1) w) : wpE Try.prog F20_dc (resK Try.prog [.tmp 4] R) (panK R) (.seq (cL F20_b) (cL (cL (cR F20_b)))) (fun f w => K (f 0) (f 1) (f 10) w) X f w := Eq.mp (by kernel_rfl) h
def F20_s1 (R : Ending → World → Prop) (v0 : Value) (v1 : Value) (w : World) : Prop :=
  F20_s1_t R (F20_s2 R) v0 v1 w
noncomputable def F20_s1_c : Code := (.seq (.seq (cL F20_b) (cL (cL (cR F20_b)))) F20_s2_c)
theorem F20_s1_ok (R : Ending → World → Prop) : ∀ f w, ((fun f w => F20_s1 R (f 0) (f 1) w)) f w → wpE Try.prog F20_dc (resK Try.prog [.tmp 4] R) (panK R) F20_s1_c (resK Try.prog [.tmp 4] R) noX f w :=
  fun f w h => cut (.seq (cL F20_b) (cL (cL (cR F20_b)))) F20_s2_c (K := (fun f w => F20_s2 R (f 0) (f 1) (f 10) w)) (F20_s2_ok R) f w (F20_s1_st R (F20_s2 R) _ f w h)
theorem F20_all_e (R : Ending → World → Prop) (K : Fr → World → Prop) (X : Nat → Fr → World → Prop) (f : Fr) (w : World) (h : wpE Try.prog F20_dc (resK Try.prog [.tmp 4] R) (panK R) F20_s1_c K X f w) : wpE Try.prog F20_dc (resK Try.prog [.tmp 4] R) (panK R) F20_b K X f w := Eq.mp (by kernel_rfl) h
theorem F20_calls (R : Ending → World → Prop) (v0 : Value) (v1 : Value) (w : World) (h : F20_s1 R v0 v1 w) : Calls Try.prog 20 #[v0, v1] w R :=
  calls_of_wpE (dc := F20_dc) (args := [v0, v1]) hmixed Try.func20 (c := F20_b) rfl (rs := [.tmp 4]) rfl (by kernel_rfl) (Nat.le_of_ble_eq_true (by kernel_rfl)) (F20_all_e R _ _ _ w ((F20_s1_ok R) (initFr [v0, v1]) w h))

end Go.Proofs.Ytpghlemcgjogpaa
