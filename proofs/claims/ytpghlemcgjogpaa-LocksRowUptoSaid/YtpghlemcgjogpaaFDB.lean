import Derived.Test.YtpghlemcgjogpaaProg
import Derived.Test.YtpghlemcgjogpaaSx
import Derived.Test.YtpghlemcgjogpaaT
set_option linter.unusedVariables false
set_option maxRecDepth 100000
set_option maxHeartbeats 400000
namespace Go.Proofs.Ytpghlemcgjogpaa
open Go.Sx
/-! ### hasp/hasplaw10.LocksRow -/
noncomputable def F7_b : Code := bodyOf Try.f7
def F7_dc : Nat → List (Nat × Bool)
  | _ => []
def F7_s9_t (R : Ending → World → Prop) (v3 : Value) (w : World) : Prop :=
  un Try.prog R (callFunc 13 #[v3]) w (fun v86 w => -- law.go:232
  un Try.prog R (builtin Go.Builtin.len #[32] 3 #[false] #[v86]) w (fun v87 w => -- law.go:232
  uv Try.prog R (binS Go.BinOp.eql 3 (.tmp 87) (.const (Go.Value.int Go.IntKind.i64 0)) v87 (Go.Value.int Go.IntKind.i64 0)) w (fun v88 w => -- law.go:232
  R (.returned v88) w)))
theorem F7_s9_st (R : Ending → World → Prop) (X : Nat → Fr → World → Prop) (f : Fr) (w : World) (h : F7_s9_t R (f 3) w) : wpE Try.prog F7_dc (resK Try.prog [.tmp 2] R) (panK R) (cL (cR (cR (cR (cR (cR (cR (cR F7_b)))))))) (resK Try.prog [.tmp 2] R) X f w := Eq.mp (by kernel_rfl) h
def F7_s9 (R : Ending → World → Prop) (v3 : Value) (w : World) : Prop :=
  F7_s9_t R v3 w
noncomputable def F7_s9_c : Code := (.seq (cL (cR (cR (cR (cR (cR (cR (cR F7_b)))))))) .ret)
theorem F7_s9_ok (R : Ending → World → Prop) : ∀ f w, ((fun f w => F7_s9 R (f 3) w)) f w → wpE Try.prog F7_dc (resK Try.prog [.tmp 2] R) (panK R) F7_s9_c (resK Try.prog [.tmp 2] R) noX f w :=
  fun f w h => cut (cL (cR (cR (cR (cR (cR (cR (cR F7_b)))))))) .ret (K := (resK Try.prog [.tmp 2] R)) (fun f w h => ret_ok h) f w (F7_s9_st R _ f w h)
def F7_s14_t (R : Ending → World → Prop) (K : Value → World → Prop) (v3 : Value) (v4 : Value) (v46 : Value) (v47 : Value) (v48 : Value) (w : World) : Prop :=
  uv Try.prog R (binS Go.BinOp.add 3 (.tmp 48) (.const (Go.Value.int Go.IntKind.i64 1)) v48 (Go.Value.int Go.IntKind.i64 1)) w (fun v84 w => -- law.go:226
  K v84 w)
theorem F7_s14_st (R : Ending → World → Prop) (K : Value → World → Prop) (X : Nat → Fr → World → Prop) (f : Fr) (w : World) (h : F7_s14_t R K (f 3) (f 4) (f 46) (f 47) (f 48) w) : wpE Try.prog F7_dc (resK Try.prog [.tmp 2] R) (panK R) (cR (cR (cR (cI (cI (cR (cL (cR (cR (cR (cR (cR (cR F7_b))))))))))))) (fun f w => K (f 48) w) X f w := Eq.mp (by kernel_rfl) h
def F7_s14 (R : Ending → World → Prop) (rec10 : Value → World → Prop) (v3 : Value) (v4 : Value) (v46 : Value) (v47 : Value) (v48 : Value) (w : World) : Prop :=
  F7_s14_t R (rec10) v3 v4 v46 v47 v48 w
noncomputable def F7_s14_c : Code := (.seq (cR (cR (cR (cI (cI (cR (cL (cR (cR (cR (cR (cR (cR F7_b))))))))))))) .skip)
theorem F7_s14_ok (R : Ending → World → Prop) (rec10 : Value → World → Prop) : ∀ f w, ((fun f w => F7_s14 R rec10 (f 3) (f 4) (f 46) (f 47) (f 48) w)) f w → wpE Try.prog F7_dc (resK Try.prog [.tmp 2] R) (panK R) F7_s14_c (fun f w => rec10 (f 48) w) (kxB 2 ((fun f w => F7_s9 R (f 3) w)) noX) f w :=
  fun f w h => cut (cR (cR (cR (cI (cI (cR (cL (cR (cR (cR (cR (cR (cR F7_b))))))))))))) .skip (K := (fun f w => rec10 (f 48) w)) (fun f w h => skip_ok h) f w (F7_s14_st R (rec10) _ f w h)
def F7_s17_t (R : Ending → World → Prop) (w : World) : Prop :=
  R (.returned (Go.Value.bool false)) w
theorem F7_s17_st (R : Ending → World → Prop) (X : Nat → Fr → World → Prop) (f : Fr) (w : World) (h : F7_s17_t R w) : wpE Try.prog F7_dc (resK Try.prog [.tmp 2] R) (panK R) (cL (cT (cR (cR (cR (cI (cL (cR (cR (cI (cI (cR (cL (cR (cR (cR (cR (cR (cR F7_b))))))))))))))))))) (resK Try.prog [.tmp 2] R) X f w := Eq.mp (by kernel_rfl) h
def F7_s17 (R : Ending → World → Prop) (rec10 : Value → World → Prop) (w : World) : Prop :=
  F7_s17_t R w
noncomputable def F7_s17_c : Code := (.seq (cL (cT (cR (cR (cR (cI (cL (cR (cR (cI (cI (cR (cL (cR (cR (cR (cR (cR (cR F7_b))))))))))))))))))) .ret)
theorem F7_s17_ok (R : Ending → World → Prop) (rec10 : Value → World → Prop) : ∀ f w, ((fun f w => F7_s17 R rec10 w)) f w → wpE Try.prog F7_dc (resK Try.prog [.tmp 2] R) (panK R) F7_s17_c (fun f w => F7_s14 R rec10 (f 3) (f 4) (f 46) (f 47) (f 48) w) (kxB 3 ((fun f w => F7_s14 R rec10 (f 3) (f 4) (f 46) (f 47) (f 48) w)) (kxB 2 ((fun f w => F7_s9 R (f 3) w)) noX)) f w :=
  fun f w h => cut (cL (cT (cR (cR (cR (cI (cL (cR (cR (cI (cI (cR (cL (cR (cR (cR (cR (cR (cR F7_b))))))))))))))))))) .ret (K := (resK Try.prog [.tmp 2] R)) (fun f w h => ret_ok h) f w (F7_s17_st R _ f w h)
def F7_s16 (R : Ending → World → Prop) (rec10 : Value → World → Prop) (v3 : Value) (v4 : Value) (v46 : Value) (v47 : Value) (v48 : Value) (v83 : Value) (w : World) : Prop :=
  Bc v83
    (F7_s17 R rec10 w)
    (F7_s14 R rec10 v3 v4 v46 v47 v48 w)
noncomputable def F7_s16_c : Code := (.seq (cR (cR (cR (cI (cL (cR (cR (cI (cI (cR (cL (cR (cR (cR (cR (cR (cR F7_b))))))))))))))))) .skip)
theorem F7_s16_e (R : Ending → World → Prop) (K : Fr → World → Prop) (X : Nat → Fr → World → Prop) (f : Fr) (w : World) (h : Bc (f 83) (wpE Try.prog F7_dc (resK Try.prog [.tmp 2] R) (panK R) F7_s17_c K X f w) (wpE Try.prog F7_dc (resK Try.prog [.tmp 2] R) (panK R) .skip K X f w)) : (wpE Try.prog F7_dc (resK Try.prog [.tmp 2] R) (panK R) (cR (cR (cR (cI (cL (cR (cR (cI (cI (cR (cL (cR (cR (cR (cR (cR (cR F7_b))))))))))))))))) K X f w) := Eq.mp (by kernel_rfl) h
theorem F7_s16_ok (R : Ending → World → Prop) (rec10 : Value → World → Prop) : ∀ f w, ((fun f w => F7_s16 R rec10 (f 3) (f 4) (f 46) (f 47) (f 48) (f 83) w)) f w → wpE Try.prog F7_dc (resK Try.prog [.tmp 2] R) (panK R) F7_s16_c (fun f w => F7_s14 R rec10 (f 3) (f 4) (f 46) (f 47) (f 48) w) (kxB 3 ((fun f w => F7_s14 R rec10 (f 3) (f 4) (f 46) (f 47) (f 48) w)) (kxB 2 ((fun f w => F7_s9 R (f 3) w)) noX)) f w :=
  fun f w h => cut (cR (cR (cR (cI (cL (cR (cR (cI (cI (cR (cL (cR (cR (cR (cR (cR (cR F7_b))))))))))))))))) .skip (K := (fun f w => F7_s14 R rec10 (f 3) (f 4) (f 46) (f 47) (f 48) w)) (fun f w h => skip_ok h) f w (F7_s16_e R _ _ f w (Bc_imp (x' := (wpE Try.prog F7_dc (resK Try.prog [.tmp 2] R) (panK R) F7_s17_c (fun f w => F7_s14 R rec10 (f 3) (f 4) (f 46) (f 47) (f 48) w) (kxB 3 ((fun f w => F7_s14 R rec10 (f 3) (f 4) (f 46) (f 47) (f 48) w)) (kxB 2 ((fun f w => F7_s9 R (f 3) w)) noX)) f w)) (y' := (wpE Try.prog F7_dc (resK Try.prog [.tmp 2] R) (panK R) .skip (fun f w => F7_s14 R rec10 (f 3) (f 4) (f 46) (f 47) (f 48) w) (kxB 3 ((fun f w => F7_s14 R rec10 (f 3) (f 4) (f 46) (f 47) (f 48) w)) (kxB 2 ((fun f w => F7_s9 R (f 3) w)) noX)) f w)) ((F7_s17_ok R rec10) f w) ((fun f w h => skip_ok h) f w) h))
def F7_s15_t (R : Ending → World → Prop) (K : Value → Value → Value → Value → Value → Value → World → Prop) (v3 : Value) (v4 : Value) (v46 : Value) (v47 : Value) (v48 : Value) (w : World) : Prop :=
  uv Try.prog R (Instr.indexAt 29 v46 v48) w (fun v51 w => -- law.go:226
  uv Try.prog R (Instr.loadAt 3 v51) w (fun v52 w => -- law.go:226
  un Try.prog R (callFunc 11 #[v3, v52]) w (fun v55 w => -- law.go:227
  uv Try.prog R (binS Go.BinOp.add 3 (.tmp 56) (.const (Go.Value.int Go.IntKind.i64 1)) v48 (Go.Value.int Go.IntKind.i64 1)) w (fun v57 w => -- law.go:228
  un Try.prog R (builtin Go.Builtin.len #[29] 3 #[false] #[v4]) w (fun v59 w => -- law.go:228
  uv Try.prog R (binS Go.BinOp.lss 3 (.tmp 57) (.tmp 59) v57 v59) w (fun v60 w => -- law.go:228
  Gk v60 true (fun k => k v55 w) w (fun v62 w => -- law.go:228
  Gk v60 true (fun k => k v4 w) w (fun v63 w => -- law.go:228
  Gk v60 true (fun k => k v48 w) w (fun v64 w => -- law.go:228
  Gk v60 true (fun k => uv Try.prog R (binS Go.BinOp.add 3 (.tmp 64) (.const (Go.Value.int Go.IntKind.i64 1)) v64 (Go.Value.int Go.IntKind.i64 1)) w k) w (fun v65 w => -- law.go:228
  Gk v60 true (fun k => k v48 w) w (fun v66 w => -- law.go:228
  Gk v60 true (fun k => uv Try.prog R (binS Go.BinOp.add 3 (.tmp 66) (.const (Go.Value.int Go.IntKind.i64 2)) v66 (Go.Value.int Go.IntKind.i64 2)) w k) w (fun v67 w => -- law.go:228
  Gk v60 true (fun k => uv Try.prog R (Instr.sliceAt 29 v63 (some v65) (some v67) none) w k) w (fun v68 w => -- law.go:228
  Gk v60 true (fun k => un Try.prog R (callFunc 20 #[v62, v68]) w k) w (fun v69 w => -- law.go:228
  Gk v60 true (fun k => uv Try.prog R (Op.unary Go.UnOp.not v69) w k) w (fun v70 w => -- law.go:228
  uv Try.prog R (pickS v60 v70 (Go.Value.bool false)) w (fun v71 w => -- law.go:228
  Gk v71 false (fun k => k v48 w) w (fun v73 w => -- law.go:228
  Gk v71 false (fun k => uv Try.prog R (binS Go.BinOp.add 3 (.tmp 73) (.const (Go.Value.int Go.IntKind.i64 1)) v73 (Go.Value.int Go.IntKind.i64 1)) w k) w (fun v74 w => -- law.go:228
  Gk v71 false (fun k => k v4 w) w (fun v75 w => -- law.go:228
  Gk v71 false (fun k => un Try.prog R (builtin Go.Builtin.len #[29] 3 #[false] #[v75]) w k) w (fun v76 w => -- law.go:228
  Gk v71 false (fun k => uv Try.prog R (binS Go.BinOp.eql 3 (.tmp 74) (.tmp 76) v74 v76) w k) w (fun v77 w => -- law.go:228
  Gk v71 false (fun k => k v77 w) w (fun v78 w => -- law.go:228
  Gk v78 true (fun k => k v55 w) w (fun v79 w => -- law.go:228
  Gk v78 true (fun k => un Try.prog R (builtin Go.Builtin.len #[29] 3 #[false] #[v79]) w k) w (fun v80 w => -- law.go:228
  Gk v78 true (fun k => uv Try.prog R (binS Go.BinOp.gtr 3 (.tmp 80) (.const (Go.Value.int Go.IntKind.i64 0)) v80 (Go.Value.int Go.IntKind.i64 0)) w k) w (fun v81 w => -- law.go:228
  Gk v71 false (fun k => uv Try.prog R (pickS v78 v81 (Go.Value.bool false)) w k) w (fun v82 w => -- law.go:228
  uv Try.prog R (pickS v71 (Go.Value.bool true) v82) w (fun v83 w => -- law.go:228
  K v3 v4 v46 v47 v48 v83 w)))))))))))))))))))))))))))
theorem F7_s15_st (R : Ending → World → Prop) (K : Value → Value → Value → Value → Value → Value → World → Prop) (X : Nat → Fr → World → Prop) (f : Fr) (w : World) (h : F7_s15_t R K (f 3) (f 4) (f 46) (f 47) (f 48) w) : wpE Try.prog F7_dc (resK Try.prog [.tmp 2] R) (panK R) (.seq (cL (cI (cL (cR (cR (cI (cI (cR (cL (cR (cR (cR (cR (cR (cR F7_b))))))))))))))) (.seq (cL (cR (cI (cL (cR (cR (cI (cI (cR (cL (cR (cR (cR (cR (cR (cR F7_b)))))))))))))))) (cL (cR (cR (cI (cL (cR (cR (cI (cI (cR (cL (cR (cR (cR (cR (cR (cR F7_b))))))))))))))))))) (fun f w => K (f 3) (f 4) (f 46) (f 47) (f 48) (f 83) w) X f w := Eq.mp (by kernel_rfl) h
def F7_s15 (R : Ending → World → Prop) (rec10 : Value → World → Prop) (v3 : Value) (v4 : Value) (v46 : Value) (v47 : Value) (v48 : Value) (w : World) : Prop :=
  F7_s15_t R (F7_s16 R rec10) v3 v4 v46 v47 v48 w
noncomputable def F7_s15_c : Code := (.seq (.seq (cL (cI (cL (cR (cR (cI (cI (cR (cL (cR (cR (cR (cR (cR (cR F7_b))))))))))))))) (.seq (cL (cR (cI (cL (cR (cR (cI (cI (cR (cL (cR (cR (cR (cR (cR (cR F7_b)))))))))))))))) (cL (cR (cR (cI (cL (cR (cR (cI (cI (cR (cL (cR (cR (cR (cR (cR (cR F7_b))))))))))))))))))) F7_s16_c)
theorem F7_s15_ok (R : Ending → World → Prop) (rec10 : Value → World → Prop) : ∀ f w, ((fun f w => F7_s15 R rec10 (f 3) (f 4) (f 46) (f 47) (f 48) w)) f w → wpE Try.prog F7_dc (resK Try.prog [.tmp 2] R) (panK R) F7_s15_c (fun f w => F7_s14 R rec10 (f 3) (f 4) (f 46) (f 47) (f 48) w) (kxB 3 ((fun f w => F7_s14 R rec10 (f 3) (f 4) (f 46) (f 47) (f 48) w)) (kxB 2 ((fun f w => F7_s9 R (f 3) w)) noX)) f w :=
  fun f w h => cut (.seq (cL (cI (cL (cR (cR (cI (cI (cR (cL (cR (cR (cR (cR (cR (cR F7_b))))))))))))))) (.seq (cL (cR (cI (cL (cR (cR (cI (cI (cR (cL (cR (cR (cR (cR (cR (cR F7_b)))))))))))))))) (cL (cR (cR (cI (cL (cR (cR (cI (cI (cR (cL (cR (cR (cR (cR (cR (cR F7_b))))))))))))))))))) F7_s16_c (K := (fun f w => F7_s16 R rec10 (f 3) (f 4) (f 46) (f 47) (f 48) (f 83) w)) (F7_s16_ok R rec10) f w (F7_s15_st R (F7_s16 R rec10) _ f w h)
noncomputable def F7_s13_c : Code := (.seq (cL (cR (cR (cI (cI (cR (cL (cR (cR (cR (cR (cR (cR F7_b))))))))))))) F7_s14_c)
theorem F7_s13_e (R : Ending → World → Prop) (K : Fr → World → Prop) (X : Nat → Fr → World → Prop) (f : Fr) (w : World) (h : wpE Try.prog F7_dc (resK Try.prog [.tmp 2] R) (panK R) F7_s15_c K (kxB 3 K X) f w) : wpE Try.prog F7_dc (resK Try.prog [.tmp 2] R) (panK R) (cL (cR (cR (cI (cI (cR (cL (cR (cR (cR (cR (cR (cR F7_b))))))))))))) K X f w := Eq.mp (by kernel_rfl) h
theorem F7_s13_ok (R : Ending → World → Prop) (rec10 : Value → World → Prop) : ∀ f w, ((fun f w => F7_s15 R rec10 (f 3) (f 4) (f 46) (f 47) (f 48) w)) f w → wpE Try.prog F7_dc (resK Try.prog [.tmp 2] R) (panK R) F7_s13_c (fun f w => rec10 (f 48) w) (kxB 2 ((fun f w => F7_s9 R (f 3) w)) noX) f w :=
  fun f w h => cut (cL (cR (cR (cI (cI (cR (cL (cR (cR (cR (cR (cR (cR F7_b))))))))))))) F7_s14_c (K := (fun f w => F7_s14 R rec10 (f 3) (f 4) (f 46) (f 47) (f 48) w)) (F7_s14_ok R rec10) f w (F7_s13_e R _ _ f w ((F7_s15_ok R rec10) f w h))
def F7_s12 (R : Ending → World → Prop) (rec10 : Value → World → Prop) (v3 : Value) (v4 : Value) (v46 : Value) (v47 : Value) (v48 : Value) (v49 : Value) (w : World) : Prop :=
  Bc v49
    (F7_s15 R rec10 v3 v4 v46 v47 v48 w)
    (F7_s9 R v3 w)
noncomputable def F7_s12_c : Code := (.seq (cL (cR (cI (cI (cR (cL (cR (cR (cR (cR (cR (cR F7_b)))))))))))) F7_s13_c)
theorem F7_s12_e (R : Ending → World → Prop) (K : Fr → World → Prop) (X : Nat → Fr → World → Prop) (f : Fr) (w : World) (h : Bc (f 49) (wpE Try.prog F7_dc (resK Try.prog [.tmp 2] R) (panK R) .skip K X f w) (wpE Try.prog F7_dc (resK Try.prog [.tmp 2] R) (panK R) (.exit 2) K X f w)) : (wpE Try.prog F7_dc (resK Try.prog [.tmp 2] R) (panK R) (cL (cR (cI (cI (cR (cL (cR (cR (cR (cR (cR (cR F7_b)))))))))))) K X f w) := Eq.mp (by kernel_rfl) h
theorem F7_s12_ok (R : Ending → World → Prop) (rec10 : Value → World → Prop) : ∀ f w, ((fun f w => F7_s12 R rec10 (f 3) (f 4) (f 46) (f 47) (f 48) (f 49) w)) f w → wpE Try.prog F7_dc (resK Try.prog [.tmp 2] R) (panK R) F7_s12_c (fun f w => rec10 (f 48) w) (kxB 2 ((fun f w => F7_s9 R (f 3) w)) noX) f w :=
  fun f w h => cut (cL (cR (cI (cI (cR (cL (cR (cR (cR (cR (cR (cR F7_b)))))))))))) F7_s13_c (K := (fun f w => F7_s15 R rec10 (f 3) (f 4) (f 46) (f 47) (f 48) w)) (F7_s13_ok R rec10) f w (F7_s12_e R _ _ f w (Bc_imp (x' := (wpE Try.prog F7_dc (resK Try.prog [.tmp 2] R) (panK R) .skip (fun f w => F7_s15 R rec10 (f 3) (f 4) (f 46) (f 47) (f 48) w) (kxB 2 ((fun f w => F7_s9 R (f 3) w)) noX) f w)) (y' := (wpE Try.prog F7_dc (resK Try.prog [.tmp 2] R) (panK R) (.exit 2) (fun f w => F7_s15 R rec10 (f 3) (f 4) (f 46) (f 47) (f 48) w) (kxB 2 ((fun f w => F7_s9 R (f 3) w)) noX) f w)) ((fun f w h => skip_ok h) f w) ((fun f w h => exit_hit h) f w) h))
def F7_s11_t (R : Ending → World → Prop) (K : Value → Value → Value → Value → Value → Value → World → Prop) (v3 : Value) (v4 : Value) (v46 : Value) (v47 : Value) (v48 : Value) (w : World) : Prop :=
  uv Try.prog R (binS Go.BinOp.lss 3 (.tmp 48) (.tmp 47) v48 v47) w (fun v49 w => -- law.go:226
  K v3 v4 v46 v47 v48 v49 w)
theorem F7_s11_st (R : Ending → World → Prop) (K : Value → Value → Value → Value → Value → Value → World → Prop) (X : Nat → Fr → World → Prop) (f : Fr) (w : World) (h : F7_s11_t R K (f 3) (f 4) (f 46) (f 47) (f 48) w) : wpE Try.prog F7_dc (resK Try.prog [.tmp 2] R) (panK R) (cL (cI (cI (cR (cL (cR (cR (cR (cR (cR (cR F7_b))))))))))) (fun f w => K (f 3) (f 4) (f 46) (f 47) (f 48) (f 49) w) X f w := Eq.mp (by kernel_rfl) h
def F7_s11 (R : Ending → World → Prop) (rec10 : Value → World → Prop) (v3 : Value) (v4 : Value) (v46 : Value) (v47 : Value) (v48 : Value) (w : World) : Prop :=
  F7_s11_t R (F7_s12 R rec10) v3 v4 v46 v47 v48 w
noncomputable def F7_s11_c : Code := (.seq (cL (cI (cI (cR (cL (cR (cR (cR (cR (cR (cR F7_b))))))))))) F7_s12_c)
theorem F7_s11_ok (R : Ending → World → Prop) (rec10 : Value → World → Prop) : ∀ f w, ((fun f w => F7_s11 R rec10 (f 3) (f 4) (f 46) (f 47) (f 48) w)) f w → wpE Try.prog F7_dc (resK Try.prog [.tmp 2] R) (panK R) F7_s11_c (fun f w => rec10 (f 48) w) (kxB 2 ((fun f w => F7_s9 R (f 3) w)) noX) f w :=
  fun f w h => cut (cL (cI (cI (cR (cL (cR (cR (cR (cR (cR (cR F7_b))))))))))) F7_s12_c (K := (fun f w => F7_s12 R rec10 (f 3) (f 4) (f 46) (f 47) (f 48) (f 49) w)) (F7_s12_ok R rec10) f w (F7_s11_st R (F7_s12 R rec10) _ f w h)
def F7_s10 (R : Ending → World → Prop) (v3 : Value) (v4 : Value) (v46 : Value) (v47 : Value) (v48 : Value) (w : World) : Prop :=
  Lp1 (fun rec10 v48 w => F7_s11 R rec10 v3 v4 v46 v47 v48 w) v48 w
theorem F7_s10_e (R : Ending → World → Prop) (K : Fr → World → Prop) (X : Nat → Fr → World → Prop) (f : Fr) (w : World) (h : wpE Try.prog F7_dc (resK Try.prog [.tmp 2] R) (panK R) (.loop (cI (cI (cR (cL (cR (cR (cR (cR (cR (cR F7_b))))))))))) K X f w) : wpE Try.prog F7_dc (resK Try.prog [.tmp 2] R) (panK R) (cI (cR (cL (cR (cR (cR (cR (cR (cR F7_b))))))))) K X f w := Eq.mp (by kernel_rfl) h
theorem F7_s10b_e (R : Ending → World → Prop) (K : Fr → World → Prop) (X : Nat → Fr → World → Prop) (f : Fr) (w : World) (h : wpE Try.prog F7_dc (resK Try.prog [.tmp 2] R) (panK R) F7_s11_c K X f w) : wpE Try.prog F7_dc (resK Try.prog [.tmp 2] R) (panK R) (cI (cI (cR (cL (cR (cR (cR (cR (cR (cR F7_b)))))))))) K X f w := Eq.mp (by kernel_rfl) h
theorem F7_s10_ok (R : Ending → World → Prop) : ∀ f w, ((fun f w => F7_s10 R (f 3) (f 4) (f 46) (f 47) (f 48) w)) f w → wpE Try.prog F7_dc (resK Try.prog [.tmp 2] R) (panK R) (cI (cR (cL (cR (cR (cR (cR (cR (cR F7_b))))))))) (fun f w => F7_s9 R (f 3) w) (kxB 2 ((fun f w => F7_s9 R (f 3) w)) noX) f w :=
  fun f w h => F7_s10_e R _ _ f w (loop1_ok (P := Try.prog) (dc := F7_dc) (kr := (resK Try.prog [.tmp 2] R)) (pan := panK R) (cI (cI (cR (cL (cR (cR (cR (cR (cR (cR F7_b)))))))))) (kn := (fun f w => F7_s9 R (f 3) w)) (kx := (kxB 2 ((fun f w => F7_s9 R (f 3) w)) noX)) (s0 := 48) (fun rec10 v48 w => F7_s11 R rec10 (f 3) (f 4) (f 46) (f 47) v48 w) f (fun rec10 f' w' hf h' => F7_s10b_e R _ _ f' w' ((F7_s11_ok R rec10) f' w' (by simp only [hf 3 (by kernel_rfl), hf 4 (by kernel_rfl), hf 46 (by kernel_rfl), hf 47 (by kernel_rfl)]; exact h'))) w h)
noncomputable def F7_s8_c : Code := (.seq (cR (cL (cR (cR (cR (cR (cR (cR F7_b)))))))) F7_s9_c)
theorem F7_s8_e (R : Ending → World → Prop) (K : Fr → World → Prop) (X : Nat → Fr → World → Prop) (f : Fr) (w : World) (h : wpE Try.prog F7_dc (resK Try.prog [.tmp 2] R) (panK R) (cI (cR (cL (cR (cR (cR (cR (cR (cR F7_b))))))))) K (kxB 2 K X) f w) : wpE Try.prog F7_dc (resK Try.prog [.tmp 2] R) (panK R) (cR (cL (cR (cR (cR (cR (cR (cR F7_b)))))))) K X f w := Eq.mp (by kernel_rfl) h
theorem F7_s8_ok (R : Ending → World → Prop) : ∀ f w, ((fun f w => F7_s10 R (f 3) (f 4) (f 46) (f 47) (f 48) w)) f w → wpE Try.prog F7_dc (resK Try.prog [.tmp 2] R) (panK R) F7_s8_c (resK Try.prog [.tmp 2] R) noX f w :=
  fun f w h => cut (cR (cL (cR (cR (cR (cR (cR (cR F7_b)))))))) F7_s9_c (K := (fun f w => F7_s9 R (f 3) w)) (F7_s9_ok R) f w (F7_s8_e R _ _ f w ((F7_s10_ok R) f w h))
def F7_s7_t (R : Ending → World → Prop) (K : Value → Value → Value → Value → Value → World → Prop) (v3 : Value) (v4 : Value) (w : World) : Prop :=
  un Try.prog R (builtin Go.Builtin.len #[29] 3 #[false] #[v4]) w (fun v47 w => -- law.go:226
  K v3 v4 v4 v47 (Go.Value.int Go.IntKind.i64 0) w)
theorem F7_s7_st (R : Ending → World → Prop) (K : Value → Value → Value → Value → Value → World → Prop) (X : Nat → Fr → World → Prop) (f : Fr) (w : World) (h : F7_s7_t R K (f 3) (f 4) w) : wpE Try.prog F7_dc (resK Try.prog [.tmp 2] R) (panK R) (cL (cL (cR (cR (cR (cR (cR (cR F7_b)))))))) (fun f w => K (f 3) (f 4) (f 46) (f 47) (f 48) w) X f w := Eq.mp (by kernel_rfl) h
def F7_s7 (R : Ending → World → Prop) (v3 : Value) (v4 : Value) (w : World) : Prop :=
  F7_s7_t R (F7_s10 R) v3 v4 w
noncomputable def F7_s7_c : Code := (.seq (cL (cL (cR (cR (cR (cR (cR (cR F7_b)))))))) F7_s8_c)
theorem F7_s7_ok (R : Ending → World → Prop) : ∀ f w, ((fun f w => F7_s7 R (f 3) (f 4) w)) f w → wpE Try.prog F7_dc (resK Try.prog [.tmp 2] R) (panK R) F7_s7_c (resK Try.prog [.tmp 2] R) noX f w :=
  fun f w h => cut (cL (cL (cR (cR (cR (cR (cR (cR F7_b)))))))) F7_s8_c (K := (fun f w => F7_s10 R (f 3) (f 4) (f 46) (f 47) (f 48) w)) (F7_s8_ok R) f w (F7_s7_st R (F7_s10 R) _ f w h)
def F7_s22_t (R : Ending → World → Prop) (K : Value → Value → World → Prop) (v3 : Value) (v4 : Value) (v5 : Value) (v19 : Value) (v20 : Value) (v21 : Value) (w : World) : Prop :=
  uv Try.prog R (binS Go.BinOp.add 3 (.tmp 21) (.const (Go.Value.int Go.IntKind.i64 1)) v21 (Go.Value.int Go.IntKind.i64 1)) w (fun v45 w => -- law.go:212
  K v4 v45 w)
theorem F7_s22_st (R : Ending → World → Prop) (K : Value → Value → World → Prop) (X : Nat → Fr → World → Prop) (f : Fr) (w : World) (h : F7_s22_t R K (f 3) (f 4) (f 5) (f 19) (f 20) (f 21) w) : wpE Try.prog F7_dc (resK Try.prog [.tmp 2] R) (panK R) (cR (cR (cR (cI (cI (cR (cL (cR (cR (cR (cR (cR F7_b)))))))))))) (fun f w => K (f 4) (f 21) w) X f w := Eq.mp (by kernel_rfl) h
def F7_s22 (R : Ending → World → Prop) (rec18 : Value → Value → World → Prop) (v3 : Value) (v4 : Value) (v5 : Value) (v19 : Value) (v20 : Value) (v21 : Value) (w : World) : Prop :=
  F7_s22_t R (rec18) v3 v4 v5 v19 v20 v21 w
noncomputable def F7_s22_c : Code := (.seq (cR (cR (cR (cI (cI (cR (cL (cR (cR (cR (cR (cR F7_b)))))))))))) .skip)
theorem F7_s22_ok (R : Ending → World → Prop) (rec18 : Value → Value → World → Prop) : ∀ f w, ((fun f w => F7_s22 R rec18 (f 3) (f 4) (f 5) (f 19) (f 20) (f 21) w)) f w → wpE Try.prog F7_dc (resK Try.prog [.tmp 2] R) (panK R) F7_s22_c (fun f w => rec18 (f 4) (f 21) w) (kxB 0 ((fun f w => F7_s7 R (f 3) (f 4) w)) noX) f w :=
  fun f w h => cut (cR (cR (cR (cI (cI (cR (cL (cR (cR (cR (cR (cR F7_b)))))))))))) .skip (K := (fun f w => rec18 (f 4) (f 21) w)) (fun f w h => skip_ok h) f w (F7_s22_st R (rec18) _ f w h)
def F7_s29_t (R : Ending → World → Prop) (K : Value → Value → Value → Value → Value → Value → World → Prop) (v3 : Value) (v4 : Value) (v5 : Value) (v7 : Value) (v19 : Value) (v20 : Value) (v21 : Value) (w : World) : Prop :=
  uv Try.prog R (Instr.buildSlice 29 1 #[(0, v7)]) w (fun v43 w => -- law.go:224
  un Try.prog R (builtin Go.Builtin.append #[29, 29] 29 #[false, false] #[v4, v43]) w (fun v44 w => -- law.go:224
  K v3 v44 v5 v19 v20 v21 w))
theorem F7_s29_st (R : Ending → World → Prop) (K : Value → Value → Value → Value → Value → Value → World → Prop) (X : Nat → Fr → World → Prop) (f : Fr) (w : World) (h : F7_s29_t R K (f 3) (f 4) (f 5) (f 7) (f 19) (f 20) (f 21) w) : wpE Try.prog F7_dc (resK Try.prog [.tmp 2] R) (panK R) (cR (cR (cR (cR (cR (cR (cI (cL (cR (cR (cI (cI (cR (cL (cR (cR (cR (cR (cR F7_b))))))))))))))))))) (fun f w => K (f 3) (f 4) (f 5) (f 19) (f 20) (f 21) w) X f w := Eq.mp (by kernel_rfl) h
def F7_s29 (R : Ending → World → Prop) (rec18 : Value → Value → World → Prop) (v3 : Value) (v4 : Value) (v5 : Value) (v7 : Value) (v19 : Value) (v20 : Value) (v21 : Value) (w : World) : Prop :=
  F7_s29_t R (F7_s22 R rec18) v3 v4 v5 v7 v19 v20 v21 w
noncomputable def F7_s29_c : Code := (.seq (cR (cR (cR (cR (cR (cR (cI (cL (cR (cR (cI (cI (cR (cL (cR (cR (cR (cR (cR F7_b))))))))))))))))))) .skip)
theorem F7_s29_ok (R : Ending → World → Prop) (rec18 : Value → Value → World → Prop) : ∀ f w, ((fun f w => F7_s29 R rec18 (f 3) (f 4) (f 5) (f 7) (f 19) (f 20) (f 21) w)) f w → wpE Try.prog F7_dc (resK Try.prog [.tmp 2] R) (panK R) F7_s29_c (fun f w => F7_s22 R rec18 (f 3) (f 4) (f 5) (f 19) (f 20) (f 21) w) (kxB 1 ((fun f w => F7_s22 R rec18 (f 3) (f 4) (f 5) (f 19) (f 20) (f 21) w)) (kxB 0 ((fun f w => F7_s7 R (f 3) (f 4) w)) noX)) f w :=
  fun f w h => cut (cR (cR (cR (cR (cR (cR (cI (cL (cR (cR (cI (cI (cR (cL (cR (cR (cR (cR (cR F7_b))))))))))))))))))) .skip (K := (fun f w => F7_s22 R rec18 (f 3) (f 4) (f 5) (f 19) (f 20) (f 21) w)) (fun f w h => skip_ok h) f w (F7_s29_st R (F7_s22 R rec18) _ f w h)
def F7_s30_t (R : Ending → World → Prop) (w : World) : Prop :=
  R (.returned (Go.Value.bool false)) w
theorem F7_s30_st (R : Ending → World → Prop) (X : Nat → Fr → World → Prop) (f : Fr) (w : World) (h : F7_s30_t R w) : wpE Try.prog F7_dc (resK Try.prog [.tmp 2] R) (panK R) (cL (cT (cR (cL (cR (cR (cR (cR (cR (cI (cL (cR (cR (cI (cI (cR (cL (cR (cR (cR (cR (cR F7_b)))))))))))))))))))))) (resK Try.prog [.tmp 2] R) X f w := Eq.mp (by kernel_rfl) h
def F7_s30 (R : Ending → World → Prop) (rec18 : Value → Value → World → Prop) (w : World) : Prop :=
  F7_s30_t R w
noncomputable def F7_s30_c : Code := (.seq (cL (cT (cR (cL (cR (cR (cR (cR (cR (cI (cL (cR (cR (cI (cI (cR (cL (cR (cR (cR (cR (cR F7_b)))))))))))))))))))))) .ret)
theorem F7_s30_ok (R : Ending → World → Prop) (rec18 : Value → Value → World → Prop) : ∀ f w, ((fun f w => F7_s30 R rec18 w)) f w → wpE Try.prog F7_dc (resK Try.prog [.tmp 2] R) (panK R) F7_s30_c (fun f w => F7_s29 R rec18 (f 3) (f 4) (f 5) (f 7) (f 19) (f 20) (f 21) w) (kxB 1 ((fun f w => F7_s22 R rec18 (f 3) (f 4) (f 5) (f 19) (f 20) (f 21) w)) (kxB 0 ((fun f w => F7_s7 R (f 3) (f 4) w)) noX)) f w :=
  fun f w h => cut (cL (cT (cR (cL (cR (cR (cR (cR (cR (cI (cL (cR (cR (cI (cI (cR (cL (cR (cR (cR (cR (cR F7_b)))))))))))))))))))))) .ret (K := (resK Try.prog [.tmp 2] R)) (fun f w h => ret_ok h) f w (F7_s30_st R _ f w h)
def F7_s28 (R : Ending → World → Prop) (rec18 : Value → Value → World → Prop) (v3 : Value) (v4 : Value) (v5 : Value) (v7 : Value) (v19 : Value) (v20 : Value) (v21 : Value) (v40 : Value) (w : World) : Prop :=
  Bc v40
    (F7_s30 R rec18 w)
    (F7_s29 R rec18 v3 v4 v5 v7 v19 v20 v21 w)
noncomputable def F7_s28_c : Code := (.seq (cR (cL (cR (cR (cR (cR (cR (cI (cL (cR (cR (cI (cI (cR (cL (cR (cR (cR (cR (cR F7_b)))))))))))))))))))) F7_s29_c)
theorem F7_s28_e (R : Ending → World → Prop) (K : Fr → World → Prop) (X : Nat → Fr → World → Prop) (f : Fr) (w : World) (h : Bc (f 40) (wpE Try.prog F7_dc (resK Try.prog [.tmp 2] R) (panK R) F7_s30_c K X f w) (wpE Try.prog F7_dc (resK Try.prog [.tmp 2] R) (panK R) .skip K X f w)) : (wpE Try.prog F7_dc (resK Try.prog [.tmp 2] R) (panK R) (cR (cL (cR (cR (cR (cR (cR (cI (cL (cR (cR (cI (cI (cR (cL (cR (cR (cR (cR (cR F7_b)))))))))))))))))))) K X f w) := Eq.mp (by kernel_rfl) h
theorem F7_s28_ok (R : Ending → World → Prop) (rec18 : Value → Value → World → Prop) : ∀ f w, ((fun f w => F7_s28 R rec18 (f 3) (f 4) (f 5) (f 7) (f 19) (f 20) (f 21) (f 40) w)) f w → wpE Try.prog F7_dc (resK Try.prog [.tmp 2] R) (panK R) F7_s28_c (fun f w => F7_s22 R rec18 (f 3) (f 4) (f 5) (f 19) (f 20) (f 21) w) (kxB 1 ((fun f w => F7_s22 R rec18 (f 3) (f 4) (f 5) (f 19) (f 20) (f 21) w)) (kxB 0 ((fun f w => F7_s7 R (f 3) (f 4) w)) noX)) f w :=
  fun f w h => cut (cR (cL (cR (cR (cR (cR (cR (cI (cL (cR (cR (cI (cI (cR (cL (cR (cR (cR (cR (cR F7_b)))))))))))))))))))) F7_s29_c (K := (fun f w => F7_s29 R rec18 (f 3) (f 4) (f 5) (f 7) (f 19) (f 20) (f 21) w)) (F7_s29_ok R rec18) f w (F7_s28_e R _ _ f w (Bc_imp (x' := (wpE Try.prog F7_dc (resK Try.prog [.tmp 2] R) (panK R) F7_s30_c (fun f w => F7_s29 R rec18 (f 3) (f 4) (f 5) (f 7) (f 19) (f 20) (f 21) w) (kxB 1 ((fun f w => F7_s22 R rec18 (f 3) (f 4) (f 5) (f 19) (f 20) (f 21) w)) (kxB 0 ((fun f w => F7_s7 R (f 3) (f 4) w)) noX)) f w)) (y' := (wpE Try.prog F7_dc (resK Try.prog [.tmp 2] R) (panK R) .skip (fun f w => F7_s29 R rec18 (f 3) (f 4) (f 5) (f 7) (f 19) (f 20) (f 21) w) (kxB 1 ((fun f w => F7_s22 R rec18 (f 3) (f 4) (f 5) (f 19) (f 20) (f 21) w)) (kxB 0 ((fun f w => F7_s7 R (f 3) (f 4) w)) noX)) f w)) ((F7_s30_ok R rec18) f w) ((fun f w h => skip_ok h) f w) h))
def F7_s27_t (R : Ending → World → Prop) (K : Value → Value → Value → Value → Value → Value → Value → Value → World → Prop) (v3 : Value) (v4 : Value) (v5 : Value) (v7 : Value) (v8 : Value) (v19 : Value) (v20 : Value) (v21 : Value) (w : World) : Prop :=
  un Try.prog R (callFunc 10 #[v3, v7, (Go.Value.string { data := #[97] }), (Go.Value.int Go.IntKind.i64 6)]) w (fun v38 w => -- law.go:221
  uv Try.prog R (binS Go.BinOp.neq 3 (.tmp 38) (.tmp 39) v38 v8) w (fun v40 w => -- law.go:221
  K v3 v4 v5 v7 v19 v20 v21 v40 w))
theorem F7_s27_st (R : Ending → World → Prop) (K : Value → Value → Value → Value → Value → Value → Value → Value → World → Prop) (X : Nat → Fr → World → Prop) (f : Fr) (w : World) (h : F7_s27_t R K (f 3) (f 4) (f 5) (f 7) (f 8) (f 19) (f 20) (f 21) w) : wpE Try.prog F7_dc (resK Try.prog [.tmp 2] R) (panK R) (cL (cL (cR (cR (cR (cR (cR (cI (cL (cR (cR (cI (cI (cR (cL (cR (cR (cR (cR (cR F7_b)))))))))))))))))))) (fun f w => K (f 3) (f 4) (f 5) (f 7) (f 19) (f 20) (f 21) (f 40) w) X f w := Eq.mp (by kernel_rfl) h
def F7_s27 (R : Ending → World → Prop) (rec18 : Value → Value → World → Prop) (v3 : Value) (v4 : Value) (v5 : Value) (v7 : Value) (v8 : Value) (v19 : Value) (v20 : Value) (v21 : Value) (w : World) : Prop :=
  F7_s27_t R (F7_s28 R rec18) v3 v4 v5 v7 v8 v19 v20 v21 w
noncomputable def F7_s27_c : Code := (.seq (cL (cL (cR (cR (cR (cR (cR (cI (cL (cR (cR (cI (cI (cR (cL (cR (cR (cR (cR (cR F7_b)))))))))))))))))))) F7_s28_c)
theorem F7_s27_ok (R : Ending → World → Prop) (rec18 : Value → Value → World → Prop) : ∀ f w, ((fun f w => F7_s27 R rec18 (f 3) (f 4) (f 5) (f 7) (f 8) (f 19) (f 20) (f 21) w)) f w → wpE Try.prog F7_dc (resK Try.prog [.tmp 2] R) (panK R) F7_s27_c (fun f w => F7_s22 R rec18 (f 3) (f 4) (f 5) (f 19) (f 20) (f 21) w) (kxB 1 ((fun f w => F7_s22 R rec18 (f 3) (f 4) (f 5) (f 19) (f 20) (f 21) w)) (kxB 0 ((fun f w => F7_s7 R (f 3) (f 4) w)) noX)) f w :=
  fun f w h => cut (cL (cL (cR (cR (cR (cR (cR (cI (cL (cR (cR (cI (cI (cR (cL (cR (cR (cR (cR (cR F7_b)))))))))))))))))))) F7_s28_c (K := (fun f w => F7_s28 R rec18 (f 3) (f 4) (f 5) (f 7) (f 19) (f 20) (f 21) (f 40) w)) (F7_s28_ok R rec18) f w (F7_s27_st R (F7_s28 R rec18) _ f w h)
def F7_s31_t (R : Ending → World → Prop) (K : Value → Value → Value → Value → Value → Value → Value → Value → World → Prop) (v3 : Value) (v4 : Value) (v5 : Value) (v7 : Value) (v19 : Value) (v20 : Value) (v21 : Value) (w : World) : Prop :=
  K v3 v4 v5 v7 (Go.Value.int Go.IntKind.i64 1) v19 v20 v21 w
theorem F7_s31_st (R : Ending → World → Prop) (K : Value → Value → Value → Value → Value → Value → Value → Value → World → Prop) (X : Nat → Fr → World → Prop) (f : Fr) (w : World) (h : F7_s31_t R K (f 3) (f 4) (f 5) (f 7) (f 19) (f 20) (f 21) w) : wpE Try.prog F7_dc (resK Try.prog [.tmp 2] R) (panK R) (cT (cR (cL (cR (cR (cR (cR (cI (cL (cR (cR (cI (cI (cR (cL (cR (cR (cR (cR (cR F7_b)))))))))))))))))))) (fun f w => K (f 3) (f 4) (f 5) (f 7) (f 8) (f 19) (f 20) (f 21) w) X f w := Eq.mp (by kernel_rfl) h
def F7_s31 (R : Ending → World → Prop) (rec18 : Value → Value → World → Prop) (v3 : Value) (v4 : Value) (v5 : Value) (v7 : Value) (v19 : Value) (v20 : Value) (v21 : Value) (w : World) : Prop :=
  F7_s31_t R (F7_s27 R rec18) v3 v4 v5 v7 v19 v20 v21 w
noncomputable def F7_s31_c : Code := (.seq (cT (cR (cL (cR (cR (cR (cR (cI (cL (cR (cR (cI (cI (cR (cL (cR (cR (cR (cR (cR F7_b)))))))))))))))))))) .skip)
theorem F7_s31_ok (R : Ending → World → Prop) (rec18 : Value → Value → World → Prop) : ∀ f w, ((fun f w => F7_s31 R rec18 (f 3) (f 4) (f 5) (f 7) (f 19) (f 20) (f 21) w)) f w → wpE Try.prog F7_dc (resK Try.prog [.tmp 2] R) (panK R) F7_s31_c (fun f w => F7_s27 R rec18 (f 3) (f 4) (f 5) (f 7) (f 8) (f 19) (f 20) (f 21) w) (kxB 1 ((fun f w => F7_s22 R rec18 (f 3) (f 4) (f 5) (f 19) (f 20) (f 21) w)) (kxB 0 ((fun f w => F7_s7 R (f 3) (f 4) w)) noX)) f w :=
  fun f w h => cut (cT (cR (cL (cR (cR (cR (cR (cI (cL (cR (cR (cI (cI (cR (cL (cR (cR (cR (cR (cR F7_b)))))))))))))))))))) .skip (K := (fun f w => F7_s27 R rec18 (f 3) (f 4) (f 5) (f 7) (f 8) (f 19) (f 20) (f 21) w)) (fun f w h => skip_ok h) f w (F7_s31_st R (F7_s27 R rec18) _ f w h)
def F7_s26 (R : Ending → World → Prop) (rec18 : Value → Value → World → Prop) (v3 : Value) (v4 : Value) (v5 : Value) (v7 : Value) (v8 : Value) (v19 : Value) (v20 : Value) (v21 : Value) (v35 : Value) (w : World) : Prop :=
  Bc v35
    (F7_s31 R rec18 v3 v4 v5 v7 v19 v20 v21 w)
    (F7_s27 R rec18 v3 v4 v5 v7 v8 v19 v20 v21 w)
noncomputable def F7_s26_c : Code := (.seq (cR (cL (cR (cR (cR (cR (cI (cL (cR (cR (cI (cI (cR (cL (cR (cR (cR (cR (cR F7_b))))))))))))))))))) F7_s27_c)
theorem F7_s26_e (R : Ending → World → Prop) (K : Fr → World → Prop) (X : Nat → Fr → World → Prop) (f : Fr) (w : World) (h : Bc (f 35) (wpE Try.prog F7_dc (resK Try.prog [.tmp 2] R) (panK R) F7_s31_c K X f w) (wpE Try.prog F7_dc (resK Try.prog [.tmp 2] R) (panK R) .skip K X f w)) : (wpE Try.prog F7_dc (resK Try.prog [.tmp 2] R) (panK R) (cR (cL (cR (cR (cR (cR (cI (cL (cR (cR (cI (cI (cR (cL (cR (cR (cR (cR (cR F7_b))))))))))))))))))) K X f w) := Eq.mp (by kernel_rfl) h
theorem F7_s26_ok (R : Ending → World → Prop) (rec18 : Value → Value → World → Prop) : ∀ f w, ((fun f w => F7_s26 R rec18 (f 3) (f 4) (f 5) (f 7) (f 8) (f 19) (f 20) (f 21) (f 35) w)) f w → wpE Try.prog F7_dc (resK Try.prog [.tmp 2] R) (panK R) F7_s26_c (fun f w => F7_s22 R rec18 (f 3) (f 4) (f 5) (f 19) (f 20) (f 21) w) (kxB 1 ((fun f w => F7_s22 R rec18 (f 3) (f 4) (f 5) (f 19) (f 20) (f 21) w)) (kxB 0 ((fun f w => F7_s7 R (f 3) (f 4) w)) noX)) f w :=
  fun f w h => cut (cR (cL (cR (cR (cR (cR (cI (cL (cR (cR (cI (cI (cR (cL (cR (cR (cR (cR (cR F7_b))))))))))))))))))) F7_s27_c (K := (fun f w => F7_s27 R rec18 (f 3) (f 4) (f 5) (f 7) (f 8) (f 19) (f 20) (f 21) w)) (F7_s27_ok R rec18) f w (F7_s26_e R _ _ f w (Bc_imp (x' := (wpE Try.prog F7_dc (resK Try.prog [.tmp 2] R) (panK R) F7_s31_c (fun f w => F7_s27 R rec18 (f 3) (f 4) (f 5) (f 7) (f 8) (f 19) (f 20) (f 21) w) (kxB 1 ((fun f w => F7_s22 R rec18 (f 3) (f 4) (f 5) (f 19) (f 20) (f 21) w)) (kxB 0 ((fun f w => F7_s7 R (f 3) (f 4) w)) noX)) f w)) (y' := (wpE Try.prog F7_dc (resK Try.prog [.tmp 2] R) (panK R) .skip (fun f w => F7_s27 R rec18 (f 3) (f 4) (f 5) (f 7) (f 8) (f 19) (f 20) (f 21) w) (kxB 1 ((fun f w => F7_s22 R rec18 (f 3) (f 4) (f 5) (f 19) (f 20) (f 21) w)) (kxB 0 ((fun f w => F7_s7 R (f 3) (f 4) w)) noX)) f w)) ((F7_s31_ok R rec18) f w) ((fun f w h => skip_ok h) f w) h))
def F7_s25_t (R : Ending → World → Prop) (K : Value → Value → Value → Value → Value → Value → Value → Value → Value → World → Prop) (v3 : Value) (v4 : Value) (v5 : Value) (v7 : Value) (v19 : Value) (v20 : Value) (v21 : Value) (w : World) : Prop :=
  un Try.prog R (builtin Go.Builtin.len #[29] 3 #[false] #[v4]) w (fun v34 w => -- law.go:218
  uv Try.prog R (binS Go.BinOp.eql 3 (.tmp 34) (.const (Go.Value.int Go.IntKind.i64 0)) v34 (Go.Value.int Go.IntKind.i64 0)) w (fun v35 w => -- law.go:218
  K v3 v4 v5 v7 (Go.Value.int Go.IntKind.i64 2) v19 v20 v21 v35 w))
theorem F7_s25_st (R : Ending → World → Prop) (K : Value → Value → Value → Value → Value → Value → Value → Value → Value → World → Prop) (X : Nat → Fr → World → Prop) (f : Fr) (w : World) (h : F7_s25_t R K (f 3) (f 4) (f 5) (f 7) (f 19) (f 20) (f 21) w) : wpE Try.prog F7_dc (resK Try.prog [.tmp 2] R) (panK R) (.seq (cL (cR (cR (cR (cI (cL (cR (cR (cI (cI (cR (cL (cR (cR (cR (cR (cR F7_b))))))))))))))))) (cL (cL (cR (cR (cR (cR (cI (cL (cR (cR (cI (cI (cR (cL (cR (cR (cR (cR (cR F7_b)))))))))))))))))))) (fun f w => K (f 3) (f 4) (f 5) (f 7) (f 8) (f 19) (f 20) (f 21) (f 35) w) X f w := Eq.mp (by kernel_rfl) h
def F7_s25 (R : Ending → World → Prop) (rec18 : Value → Value → World → Prop) (v3 : Value) (v4 : Value) (v5 : Value) (v7 : Value) (v19 : Value) (v20 : Value) (v21 : Value) (w : World) : Prop :=
  F7_s25_t R (F7_s26 R rec18) v3 v4 v5 v7 v19 v20 v21 w
noncomputable def F7_s25_c : Code := (.seq (.seq (cL (cR (cR (cR (cI (cL (cR (cR (cI (cI (cR (cL (cR (cR (cR (cR (cR F7_b))))))))))))))))) (cL (cL (cR (cR (cR (cR (cI (cL (cR (cR (cI (cI (cR (cL (cR (cR (cR (cR (cR F7_b)))))))))))))))))))) F7_s26_c)
theorem F7_s25_ok (R : Ending → World → Prop) (rec18 : Value → Value → World → Prop) : ∀ f w, ((fun f w => F7_s25 R rec18 (f 3) (f 4) (f 5) (f 7) (f 19) (f 20) (f 21) w)) f w → wpE Try.prog F7_dc (resK Try.prog [.tmp 2] R) (panK R) F7_s25_c (fun f w => F7_s22 R rec18 (f 3) (f 4) (f 5) (f 19) (f 20) (f 21) w) (kxB 1 ((fun f w => F7_s22 R rec18 (f 3) (f 4) (f 5) (f 19) (f 20) (f 21) w)) (kxB 0 ((fun f w => F7_s7 R (f 3) (f 4) w)) noX)) f w :=
  fun f w h => cut (.seq (cL (cR (cR (cR (cI (cL (cR (cR (cI (cI (cR (cL (cR (cR (cR (cR (cR F7_b))))))))))))))))) (cL (cL (cR (cR (cR (cR (cI (cL (cR (cR (cI (cI (cR (cL (cR (cR (cR (cR (cR F7_b)))))))))))))))))))) F7_s26_c (K := (fun f w => F7_s26 R rec18 (f 3) (f 4) (f 5) (f 7) (f 8) (f 19) (f 20) (f 21) (f 35) w)) (F7_s26_ok R rec18) f w (F7_s25_st R (F7_s26 R rec18) _ f w h)
def F7_s24 (R : Ending → World → Prop) (rec18 : Value → Value → World → Prop) (v3 : Value) (v4 : Value) (v5 : Value) (v7 : Value) (v19 : Value) (v20 : Value) (v21 : Value) (v32 : Value) (w : World) : Prop :=
  Bc v32
    (F7_s22 R rec18 v3 v4 v5 v19 v20 v21 w)
    (F7_s25 R rec18 v3 v4 v5 v7 v19 v20 v21 w)
noncomputable def F7_s24_c : Code := (.seq (cR (cL (cR (cR (cI (cL (cR (cR (cI (cI (cR (cL (cR (cR (cR (cR (cR F7_b))))))))))))))))) F7_s25_c)
theorem F7_s24_e (R : Ending → World → Prop) (K : Fr → World → Prop) (X : Nat → Fr → World → Prop) (f : Fr) (w : World) (h : Bc (f 32) (wpE Try.prog F7_dc (resK Try.prog [.tmp 2] R) (panK R) (.exit 1) K X f w) (wpE Try.prog F7_dc (resK Try.prog [.tmp 2] R) (panK R) .skip K X f w)) : (wpE Try.prog F7_dc (resK Try.prog [.tmp 2] R) (panK R) (cR (cL (cR (cR (cI (cL (cR (cR (cI (cI (cR (cL (cR (cR (cR (cR (cR F7_b))))))))))))))))) K X f w) := Eq.mp (by kernel_rfl) h
theorem F7_s24_ok (R : Ending → World → Prop) (rec18 : Value → Value → World → Prop) : ∀ f w, ((fun f w => F7_s24 R rec18 (f 3) (f 4) (f 5) (f 7) (f 19) (f 20) (f 21) (f 32) w)) f w → wpE Try.prog F7_dc (resK Try.prog [.tmp 2] R) (panK R) F7_s24_c (fun f w => F7_s22 R rec18 (f 3) (f 4) (f 5) (f 19) (f 20) (f 21) w) (kxB 1 ((fun f w => F7_s22 R rec18 (f 3) (f 4) (f 5) (f 19) (f 20) (f 21) w)) (kxB 0 ((fun f w => F7_s7 R (f 3) (f 4) w)) noX)) f w :=
  fun f w h => cut (cR (cL (cR (cR (cI (cL (cR (cR (cI (cI (cR (cL (cR (cR (cR (cR (cR F7_b))))))))))))))))) F7_s25_c (K := (fun f w => F7_s25 R rec18 (f 3) (f 4) (f 5) (f 7) (f 19) (f 20) (f 21) w)) (F7_s25_ok R rec18) f w (F7_s24_e R _ _ f w (Bc_imp (x' := (wpE Try.prog F7_dc (resK Try.prog [.tmp 2] R) (panK R) (.exit 1) (fun f w => F7_s25 R rec18 (f 3) (f 4) (f 5) (f 7) (f 19) (f 20) (f 21) w) (kxB 1 ((fun f w => F7_s22 R rec18 (f 3) (f 4) (f 5) (f 19) (f 20) (f 21) w)) (kxB 0 ((fun f w => F7_s7 R (f 3) (f 4) w)) noX)) f w)) (y' := (wpE Try.prog F7_dc (resK Try.prog [.tmp 2] R) (panK R) .skip (fun f w => F7_s25 R rec18 (f 3) (f 4) (f 5) (f 7) (f 19) (f 20) (f 21) w) (kxB 1 ((fun f w => F7_s22 R rec18 (f 3) (f 4) (f 5) (f 19) (f 20) (f 21) w)) (kxB 0 ((fun f w => F7_s7 R (f 3) (f 4) w)) noX)) f w)) ((fun f w h => exit_hit h) f w) ((fun f w h => skip_ok h) f w) h))
def F7_s23_t (R : Ending → World → Prop) (K : Value → Value → Value → Value → Value → Value → Value → Value → World → Prop) (v3 : Value) (v4 : Value) (v5 : Value) (v19 : Value) (v20 : Value) (v21 : Value) (w : World) : Prop :=
  uv Try.prog R (Instr.indexAt 29 v19 v21) w (fun v23 w => -- law.go:212
  uv Try.prog R (Instr.loadAt 3 v23) w (fun v24 w => -- law.go:212
  uv Try.prog R (Instr.lookup 35 v5 v24 false) w (fun v27 w => -- law.go:213
  uv Try.prog R (binS Go.BinOp.add 3 (.tmp 27) (.const (Go.Value.int Go.IntKind.i64 1)) v27 (Go.Value.int Go.IntKind.i64 1)) w (fun v28 w => -- law.go:213
  uu Try.prog R (Instr.mapUpdate 35 v5 v24 v28) w (fun w => -- law.go:213
  uv Try.prog R (Instr.lookup 35 v5 v24 false) w (fun v31 w => -- law.go:214
  uv Try.prog R (binS Go.BinOp.gtr 3 (.tmp 31) (.const (Go.Value.int Go.IntKind.i64 1)) v31 (Go.Value.int Go.IntKind.i64 1)) w (fun v32 w => -- law.go:214
  K v3 v4 v5 v24 v19 v20 v21 v32 w)))))))
theorem F7_s23_st (R : Ending → World → Prop) (K : Value → Value → Value → Value → Value → Value → Value → Value → World → Prop) (X : Nat → Fr → World → Prop) (f : Fr) (w : World) (h : F7_s23_t R K (f 3) (f 4) (f 5) (f 19) (f 20) (f 21) w) : wpE Try.prog F7_dc (resK Try.prog [.tmp 2] R) (panK R) (.seq (cL (cI (cL (cR (cR (cI (cI (cR (cL (cR (cR (cR (cR (cR F7_b)))))))))))))) (.seq (cL (cR (cI (cL (cR (cR (cI (cI (cR (cL (cR (cR (cR (cR (cR F7_b))))))))))))))) (cL (cL (cR (cR (cI (cL (cR (cR (cI (cI (cR (cL (cR (cR (cR (cR (cR F7_b))))))))))))))))))) (fun f w => K (f 3) (f 4) (f 5) (f 7) (f 19) (f 20) (f 21) (f 32) w) X f w := Eq.mp (by kernel_rfl) h
def F7_s23 (R : Ending → World → Prop) (rec18 : Value → Value → World → Prop) (v3 : Value) (v4 : Value) (v5 : Value) (v19 : Value) (v20 : Value) (v21 : Value) (w : World) : Prop :=
  F7_s23_t R (F7_s24 R rec18) v3 v4 v5 v19 v20 v21 w
noncomputable def F7_s23_c : Code := (.seq (.seq (cL (cI (cL (cR (cR (cI (cI (cR (cL (cR (cR (cR (cR (cR F7_b)))))))))))))) (.seq (cL (cR (cI (cL (cR (cR (cI (cI (cR (cL (cR (cR (cR (cR (cR F7_b))))))))))))))) (cL (cL (cR (cR (cI (cL (cR (cR (cI (cI (cR (cL (cR (cR (cR (cR (cR F7_b))))))))))))))))))) F7_s24_c)
theorem F7_s23_ok (R : Ending → World → Prop) (rec18 : Value → Value → World → Prop) : ∀ f w, ((fun f w => F7_s23 R rec18 (f 3) (f 4) (f 5) (f 19) (f 20) (f 21) w)) f w → wpE Try.prog F7_dc (resK Try.prog [.tmp 2] R) (panK R) F7_s23_c (fun f w => F7_s22 R rec18 (f 3) (f 4) (f 5) (f 19) (f 20) (f 21) w) (kxB 1 ((fun f w => F7_s22 R rec18 (f 3) (f 4) (f 5) (f 19) (f 20) (f 21) w)) (kxB 0 ((fun f w => F7_s7 R (f 3) (f 4) w)) noX)) f w :=
  fun f w h => cut (.seq (cL (cI (cL (cR (cR (cI (cI (cR (cL (cR (cR (cR (cR (cR F7_b)))))))))))))) (.seq (cL (cR (cI (cL (cR (cR (cI (cI (cR (cL (cR (cR (cR (cR (cR F7_b))))))))))))))) (cL (cL (cR (cR (cI (cL (cR (cR (cI (cI (cR (cL (cR (cR (cR (cR (cR F7_b))))))))))))))))))) F7_s24_c (K := (fun f w => F7_s24 R rec18 (f 3) (f 4) (f 5) (f 7) (f 19) (f 20) (f 21) (f 32) w)) (F7_s24_ok R rec18) f w (F7_s23_st R (F7_s24 R rec18) _ f w h)
noncomputable def F7_s21_c : Code := (.seq (cL (cR (cR (cI (cI (cR (cL (cR (cR (cR (cR (cR F7_b)))))))))))) F7_s22_c)
theorem F7_s21_e (R : Ending → World → Prop) (K : Fr → World → Prop) (X : Nat → Fr → World → Prop) (f : Fr) (w : World) (h : wpE Try.prog F7_dc (resK Try.prog [.tmp 2] R) (panK R) F7_s23_c K (kxB 1 K X) f w) : wpE Try.prog F7_dc (resK Try.prog [.tmp 2] R) (panK R) (cL (cR (cR (cI (cI (cR (cL (cR (cR (cR (cR (cR F7_b)))))))))))) K X f w := Eq.mp (by kernel_rfl) h
theorem F7_s21_ok (R : Ending → World → Prop) (rec18 : Value → Value → World → Prop) : ∀ f w, ((fun f w => F7_s23 R rec18 (f 3) (f 4) (f 5) (f 19) (f 20) (f 21) w)) f w → wpE Try.prog F7_dc (resK Try.prog [.tmp 2] R) (panK R) F7_s21_c (fun f w => rec18 (f 4) (f 21) w) (kxB 0 ((fun f w => F7_s7 R (f 3) (f 4) w)) noX) f w :=
  fun f w h => cut (cL (cR (cR (cI (cI (cR (cL (cR (cR (cR (cR (cR F7_b)))))))))))) F7_s22_c (K := (fun f w => F7_s22 R rec18 (f 3) (f 4) (f 5) (f 19) (f 20) (f 21) w)) (F7_s22_ok R rec18) f w (F7_s21_e R _ _ f w ((F7_s23_ok R rec18) f w h))
def F7_s20 (R : Ending → World → Prop) (rec18 : Value → Value → World → Prop) (v3 : Value) (v4 : Value) (v5 : Value) (v19 : Value) (v20 : Value) (v21 : Value) (v22 : Value) (w : World) : Prop :=
  Bc v22
    (F7_s23 R rec18 v3 v4 v5 v19 v20 v21 w)
    (F7_s7 R v3 v4 w)
noncomputable def F7_s20_c : Code := (.seq (cL (cR (cI (cI (cR (cL (cR (cR (cR (cR (cR F7_b))))))))))) F7_s21_c)
theorem F7_s20_e (R : Ending → World → Prop) (K : Fr → World → Prop) (X : Nat → Fr → World → Prop) (f : Fr) (w : World) (h : Bc (f 22) (wpE Try.prog F7_dc (resK Try.prog [.tmp 2] R) (panK R) .skip K X f w) (wpE Try.prog F7_dc (resK Try.prog [.tmp 2] R) (panK R) (.exit 0) K X f w)) : (wpE Try.prog F7_dc (resK Try.prog [.tmp 2] R) (panK R) (cL (cR (cI (cI (cR (cL (cR (cR (cR (cR (cR F7_b))))))))))) K X f w) := Eq.mp (by kernel_rfl) h
theorem F7_s20_ok (R : Ending → World → Prop) (rec18 : Value → Value → World → Prop) : ∀ f w, ((fun f w => F7_s20 R rec18 (f 3) (f 4) (f 5) (f 19) (f 20) (f 21) (f 22) w)) f w → wpE Try.prog F7_dc (resK Try.prog [.tmp 2] R) (panK R) F7_s20_c (fun f w => rec18 (f 4) (f 21) w) (kxB 0 ((fun f w => F7_s7 R (f 3) (f 4) w)) noX) f w :=
  fun f w h => cut (cL (cR (cI (cI (cR (cL (cR (cR (cR (cR (cR F7_b))))))))))) F7_s21_c (K := (fun f w => F7_s23 R rec18 (f 3) (f 4) (f 5) (f 19) (f 20) (f 21) w)) (F7_s21_ok R rec18) f w (F7_s20_e R _ _ f w (Bc_imp (x' := (wpE Try.prog F7_dc (resK Try.prog [.tmp 2] R) (panK R) .skip (fun f w => F7_s23 R rec18 (f 3) (f 4) (f 5) (f 19) (f 20) (f 21) w) (kxB 0 ((fun f w => F7_s7 R (f 3) (f 4) w)) noX) f w)) (y' := (wpE Try.prog F7_dc (resK Try.prog [.tmp 2] R) (panK R) (.exit 0) (fun f w => F7_s23 R rec18 (f 3) (f 4) (f 5) (f 19) (f 20) (f 21) w) (kxB 0 ((fun f w => F7_s7 R (f 3) (f 4) w)) noX) f w)) ((fun f w h => skip_ok h) f w) ((fun f w h => exit_hit h) f w) h))
def F7_s19_t (R : Ending → World → Prop) (K : Value → Value → Value → Value → Value → Value → Value → World → Prop) (v3 : Value) (v4 : Value) (v5 : Value) (v19 : Value) (v20 : Value) (v21 : Value) (w : World) : Prop :=
  uv Try.prog R (binS Go.BinOp.lss 3 (.tmp 21) (.tmp 20) v21 v20) w (fun v22 w => -- law.go:212
  K v3 v4 v5 v19 v20 v21 v22 w)
theorem F7_s19_st (R : Ending → World → Prop) (K : Value → Value → Value → Value → Value → Value → Value → World → Prop) (X : Nat → Fr → World → Prop) (f : Fr) (w : World) (h : F7_s19_t R K (f 3) (f 4) (f 5) (f 19) (f 20) (f 21) w) : wpE Try.prog F7_dc (resK Try.prog [.tmp 2] R) (panK R) (cL (cI (cI (cR (cL (cR (cR (cR (cR (cR F7_b)))))))))) (fun f w => K (f 3) (f 4) (f 5) (f 19) (f 20) (f 21) (f 22) w) X f w := Eq.mp (by kernel_rfl) h
def F7_s19 (R : Ending → World → Prop) (rec18 : Value → Value → World → Prop) (v3 : Value) (v4 : Value) (v5 : Value) (v19 : Value) (v20 : Value) (v21 : Value) (w : World) : Prop :=
  F7_s19_t R (F7_s20 R rec18) v3 v4 v5 v19 v20 v21 w
noncomputable def F7_s19_c : Code := (.seq (cL (cI (cI (cR (cL (cR (cR (cR (cR (cR F7_b)))))))))) F7_s20_c)
theorem F7_s19_ok (R : Ending → World → Prop) (rec18 : Value → Value → World → Prop) : ∀ f w, ((fun f w => F7_s19 R rec18 (f 3) (f 4) (f 5) (f 19) (f 20) (f 21) w)) f w → wpE Try.prog F7_dc (resK Try.prog [.tmp 2] R) (panK R) F7_s19_c (fun f w => rec18 (f 4) (f 21) w) (kxB 0 ((fun f w => F7_s7 R (f 3) (f 4) w)) noX) f w :=
  fun f w h => cut (cL (cI (cI (cR (cL (cR (cR (cR (cR (cR F7_b)))))))))) F7_s20_c (K := (fun f w => F7_s20 R rec18 (f 3) (f 4) (f 5) (f 19) (f 20) (f 21) (f 22) w)) (F7_s20_ok R rec18) f w (F7_s19_st R (F7_s20 R rec18) _ f w h)
def F7_s18 (R : Ending → World → Prop) (v3 : Value) (v4 : Value) (v5 : Value) (v19 : Value) (v20 : Value) (v21 : Value) (w : World) : Prop :=
  Lp2 (fun rec18 v4 v21 w => F7_s19 R rec18 v3 v4 v5 v19 v20 v21 w) v4 v21 w
theorem F7_s18_e (R : Ending → World → Prop) (K : Fr → World → Prop) (X : Nat → Fr → World → Prop) (f : Fr) (w : World) (h : wpE Try.prog F7_dc (resK Try.prog [.tmp 2] R) (panK R) (.loop (cI (cI (cR (cL (cR (cR (cR (cR (cR F7_b)))))))))) K X f w) : wpE Try.prog F7_dc (resK Try.prog [.tmp 2] R) (panK R) (cI (cR (cL (cR (cR (cR (cR (cR F7_b)))))))) K X f w := Eq.mp (by kernel_rfl) h
theorem F7_s18b_e (R : Ending → World → Prop) (K : Fr → World → Prop) (X : Nat → Fr → World → Prop) (f : Fr) (w : World) (h : wpE Try.prog F7_dc (resK Try.prog [.tmp 2] R) (panK R) F7_s19_c K X f w) : wpE Try.prog F7_dc (resK Try.prog [.tmp 2] R) (panK R) (cI (cI (cR (cL (cR (cR (cR (cR (cR F7_b))))))))) K X f w := Eq.mp (by kernel_rfl) h
theorem F7_s18_ok (R : Ending → World → Prop) : ∀ f w, ((fun f w => F7_s18 R (f 3) (f 4) (f 5) (f 19) (f 20) (f 21) w)) f w → wpE Try.prog F7_dc (resK Try.prog [.tmp 2] R) (panK R) (cI (cR (cL (cR (cR (cR (cR (cR F7_b)))))))) (fun f w => F7_s7 R (f 3) (f 4) w) (kxB 0 ((fun f w => F7_s7 R (f 3) (f 4) w)) noX) f w :=
  fun f w h => F7_s18_e R _ _ f w (loop2_ok (P := Try.prog) (dc := F7_dc) (kr := (resK Try.prog [.tmp 2] R)) (pan := panK R) (cI (cI (cR (cL (cR (cR (cR (cR (cR F7_b))))))))) (kn := (fun f w => F7_s7 R (f 3) (f 4) w)) (kx := (kxB 0 ((fun f w => F7_s7 R (f 3) (f 4) w)) noX)) (s0 := 4) (s1 := 21) (fun rec18 v4 v21 w => F7_s19 R rec18 (f 3) v4 (f 5) (f 19) (f 20) v21 w) f (fun rec18 f' w' hf h' => F7_s18b_e R _ _ f' w' ((F7_s19_ok R rec18) f' w' (by simp only [hf 3 (by kernel_rfl), hf 5 (by kernel_rfl), hf 19 (by kernel_rfl), hf 20 (by kernel_rfl)]; exact h'))) w h)
noncomputable def F7_s6_c : Code := (.seq (cR (cL (cR (cR (cR (cR (cR F7_b))))))) F7_s7_c)
theorem F7_s6_e (R : Ending → World → Prop) (K : Fr → World → Prop) (X : Nat → Fr → World → Prop) (f : Fr) (w : World) (h : wpE Try.prog F7_dc (resK Try.prog [.tmp 2] R) (panK R) (cI (cR (cL (cR (cR (cR (cR (cR F7_b)))))))) K (kxB 0 K X) f w) : wpE Try.prog F7_dc (resK Try.prog [.tmp 2] R) (panK R) (cR (cL (cR (cR (cR (cR (cR F7_b))))))) K X f w := Eq.mp (by kernel_rfl) h
theorem F7_s6_ok (R : Ending → World → Prop) : ∀ f w, ((fun f w => F7_s18 R (f 3) (f 4) (f 5) (f 19) (f 20) (f 21) w)) f w → wpE Try.prog F7_dc (resK Try.prog [.tmp 2] R) (panK R) F7_s6_c (resK Try.prog [.tmp 2] R) noX f w :=
  fun f w h => cut (cR (cL (cR (cR (cR (cR (cR F7_b))))))) F7_s7_c (K := (fun f w => F7_s7 R (f 3) (f 4) w)) (F7_s7_ok R) f w (F7_s6_e R _ _ f w ((F7_s18_ok R) f w h))
def F7_s5_t (R : Ending → World → Prop) (K : Value → Value → Value → Value → Value → Value → World → Prop) (v0 : Value) (v3 : Value) (w : World) : Prop :=
  uv Try.prog R (Instr.buildSlice 29 0 #[]) w (fun v17 w => -- law.go:211
  uv Try.prog R (Instr.makeMap 35 none) w (fun v18 w => -- law.go:211
  un Try.prog R (builtin Go.Builtin.len #[29] 3 #[false] #[v0]) w (fun v20 w => -- law.go:212
  K v3 v17 v18 v0 v20 (Go.Value.int Go.IntKind.i64 0) w)))
theorem F7_s5_st (R : Ending → World → Prop) (K : Value → Value → Value → Value → Value → Value → World → Prop) (X : Nat → Fr → World → Prop) (f : Fr) (w : World) (h : F7_s5_t R K (f 0) (f 3) w) : wpE Try.prog F7_dc (resK Try.prog [.tmp 2] R) (panK R) (.seq (cL (cR (cR (cR (cR F7_b))))) (cL (cL (cR (cR (cR (cR (cR F7_b)))))))) (fun f w => K (f 3) (f 4) (f 5) (f 19) (f 20) (f 21) w) X f w := Eq.mp (by kernel_rfl) h
def F7_s5 (R : Ending → World → Prop) (v0 : Value) (v3 : Value) (w : World) : Prop :=
  F7_s5_t R (F7_s18 R) v0 v3 w
noncomputable def F7_s5_c : Code := (.seq (.seq (cL (cR (cR (cR (cR F7_b))))) (cL (cL (cR (cR (cR (cR (cR F7_b)))))))) F7_s6_c)
theorem F7_s5_ok (R : Ending → World → Prop) : ∀ f w, ((fun f w => F7_s5 R (f 0) (f 3) w)) f w → wpE Try.prog F7_dc (resK Try.prog [.tmp 2] R) (panK R) F7_s5_c (resK Try.prog [.tmp 2] R) noX f w :=
  fun f w h => cut (.seq (cL (cR (cR (cR (cR F7_b))))) (cL (cL (cR (cR (cR (cR (cR F7_b)))))))) F7_s6_c (K := (fun f w => F7_s18 R (f 3) (f 4) (f 5) (f 19) (f 20) (f 21) w)) (F7_s6_ok R) f w (F7_s5_st R (F7_s18 R) _ f w h)
def F7_s32_t (R : Ending → World → Prop) (w : World) : Prop :=
  R (.returned (Go.Value.bool false)) w
theorem F7_s32_st (R : Ending → World → Prop) (X : Nat → Fr → World → Prop) (f : Fr) (w : World) (h : F7_s32_t R w) : wpE Try.prog F7_dc (resK Try.prog [.tmp 2] R) (panK R) (cL (cT (cR (cL (cR (cR (cR F7_b))))))) (resK Try.prog [.tmp 2] R) X f w := Eq.mp (by kernel_rfl) h
def F7_s32 (R : Ending → World → Prop) (w : World) : Prop :=
  F7_s32_t R w
noncomputable def F7_s32_c : Code := (.seq (cL (cT (cR (cL (cR (cR (cR F7_b))))))) .ret)
theorem F7_s32_ok (R : Ending → World → Prop) : ∀ f w, ((fun f w => F7_s32 R w)) f w → wpE Try.prog F7_dc (resK Try.prog [.tmp 2] R) (panK R) F7_s32_c (fun f w => F7_s5 R (f 0) (f 3) w) noX f w :=
  fun f w h => cut (cL (cT (cR (cL (cR (cR (cR F7_b))))))) .ret (K := (resK Try.prog [.tmp 2] R)) (fun f w h => ret_ok h) f w (F7_s32_st R _ f w h)
def F7_s4 (R : Ending → World → Prop) (v0 : Value) (v3 : Value) (v16 : Value) (w : World) : Prop :=
  Bc v16
    (F7_s32 R w)
    (F7_s5 R v0 v3 w)
noncomputable def F7_s4_c : Code := (.seq (cR (cL (cR (cR (cR F7_b))))) F7_s5_c)
theorem F7_s4_e (R : Ending → World → Prop) (K : Fr → World → Prop) (X : Nat → Fr → World → Prop) (f : Fr) (w : World) (h : Bc (f 16) (wpE Try.prog F7_dc (resK Try.prog [.tmp 2] R) (panK R) F7_s32_c K X f w) (wpE Try.prog F7_dc (resK Try.prog [.tmp 2] R) (panK R) .skip K X f w)) : (wpE Try.prog F7_dc (resK Try.prog [.tmp 2] R) (panK R) (cR (cL (cR (cR (cR F7_b))))) K X f w) := Eq.mp (by kernel_rfl) h
theorem F7_s4_ok (R : Ending → World → Prop) : ∀ f w, ((fun f w => F7_s4 R (f 0) (f 3) (f 16) w)) f w → wpE Try.prog F7_dc (resK Try.prog [.tmp 2] R) (panK R) F7_s4_c (resK Try.prog [.tmp 2] R) noX f w :=
  fun f w h => cut (cR (cL (cR (cR (cR F7_b))))) F7_s5_c (K := (fun f w => F7_s5 R (f 0) (f 3) w)) (F7_s5_ok R) f w (F7_s4_e R _ _ f w (Bc_imp (x' := (wpE Try.prog F7_dc (resK Try.prog [.tmp 2] R) (panK R) F7_s32_c (fun f w => F7_s5 R (f 0) (f 3) w) noX f w)) (y' := (wpE Try.prog F7_dc (resK Try.prog [.tmp 2] R) (panK R) .skip (fun f w => F7_s5 R (f 0) (f 3) w) noX f w)) ((F7_s32_ok R) f w) ((fun f w h => skip_ok h) f w) h))
def F7_s3_t (R : Ending → World → Prop) (K : Value → Value → Value → World → Prop) (v0 : Value) (w : World) : Prop :=
  un Try.prog R (callFunc 9 #[]) w (fun v14 w => -- law.go:207
  uv Try.prog R (binS Go.BinOp.eql 24 (.tmp 15) (.const (Go.Value.pointer none)) v14 (Go.Value.pointer none)) w (fun v16 w => -- law.go:208
  K v0 v14 v16 w))
theorem F7_s3_st (R : Ending → World → Prop) (K : Value → Value → Value → World → Prop) (X : Nat → Fr → World → Prop) (f : Fr) (w : World) (h : F7_s3_t R K (f 0) w) : wpE Try.prog F7_dc (resK Try.prog [.tmp 2] R) (panK R) (.seq (cL (cR (cR F7_b))) (cL (cL (cR (cR (cR F7_b)))))) (fun f w => K (f 0) (f 3) (f 16) w) X f w := Eq.mp (by kernel_rfl) h
def F7_s3 (R : Ending → World → Prop) (v0 : Value) (w : World) : Prop :=
  F7_s3_t R (F7_s4 R) v0 w
noncomputable def F7_s3_c : Code := (.seq (.seq (cL (cR (cR F7_b))) (cL (cL (cR (cR (cR F7_b)))))) F7_s4_c)
theorem F7_s3_ok (R : Ending → World → Prop) : ∀ f w, ((fun f w => F7_s3 R (f 0) w)) f w → wpE Try.prog F7_dc (resK Try.prog [.tmp 2] R) (panK R) F7_s3_c (resK Try.prog [.tmp 2] R) noX f w :=
  fun f w h => cut (.seq (cL (cR (cR F7_b))) (cL (cL (cR (cR (cR F7_b)))))) F7_s4_c (K := (fun f w => F7_s4 R (f 0) (f 3) (f 16) w)) (F7_s4_ok R) f w (F7_s3_st R (F7_s4 R) _ f w h)
def F7_s33_t (R : Ending → World → Prop) (w : World) : Prop :=
  R (.returned (Go.Value.bool false)) w
theorem F7_s33_st (R : Ending → World → Prop) (X : Nat → Fr → World → Prop) (f : Fr) (w : World) (h : F7_s33_t R w) : wpE Try.prog F7_dc (resK Try.prog [.tmp 2] R) (panK R) (cL (cT (cR (cL (cR F7_b))))) (resK Try.prog [.tmp 2] R) X f w := Eq.mp (by kernel_rfl) h
def F7_s33 (R : Ending → World → Prop) (w : World) : Prop :=
  F7_s33_t R w
noncomputable def F7_s33_c : Code := (.seq (cL (cT (cR (cL (cR F7_b))))) .ret)
theorem F7_s33_ok (R : Ending → World → Prop) : ∀ f w, ((fun f w => F7_s33 R w)) f w → wpE Try.prog F7_dc (resK Try.prog [.tmp 2] R) (panK R) F7_s33_c (fun f w => F7_s3 R (f 0) w) noX f w :=
  fun f w h => cut (cL (cT (cR (cL (cR F7_b))))) .ret (K := (resK Try.prog [.tmp 2] R)) (fun f w h => ret_ok h) f w (F7_s33_st R _ f w h)
def F7_s2 (R : Ending → World → Prop) (v0 : Value) (v13 : Value) (w : World) : Prop :=
  Bc v13
    (F7_s33 R w)
    (F7_s3 R v0 w)
noncomputable def F7_s2_c : Code := (.seq (cR (cL (cR F7_b))) F7_s3_c)
theorem F7_s2_e (R : Ending → World → Prop) (K : Fr → World → Prop) (X : Nat → Fr → World → Prop) (f : Fr) (w : World) (h : Bc (f 13) (wpE Try.prog F7_dc (resK Try.prog [.tmp 2] R) (panK R) F7_s33_c K X f w) (wpE Try.prog F7_dc (resK Try.prog [.tmp 2] R) (panK R) .skip K X f w)) : (wpE Try.prog F7_dc (resK Try.prog [.tmp 2] R) (panK R) (cR (cL (cR F7_b))) K X f w) := Eq.mp (by kernel_rfl) h
theorem F7_s2_ok (R : Ending → World → Prop) : ∀ f w, ((fun f w => F7_s2 R (f 0) (f 13) w)) f w → wpE Try.prog F7_dc (resK Try.prog [.tmp 2] R) (panK R) F7_s2_c (resK Try.prog [.tmp 2] R) noX f w :=
  fun f w h => cut (cR (cL (cR F7_b))) F7_s3_c (K := (fun f w => F7_s3 R (f 0) w)) (F7_s3_ok R) f w (F7_s2_e R _ _ f w (Bc_imp (x' := (wpE Try.prog F7_dc (resK Try.prog [.tmp 2] R) (panK R) F7_s33_c (fun f w => F7_s3 R (f 0) w) noX f w)) (y' := (wpE Try.prog F7_dc (resK Try.prog [.tmp 2] R) (panK R) .skip (fun f w => F7_s3 R (f 0) w) noX f w)) ((F7_s33_ok R) f w) ((fun f w h => skip_ok h) f w) h))
def F7_s1_t (R : Ending → World → Prop) (K : Value → Value → World → Prop) (v0 : Value) (w : World) : Prop :=
  un Try.prog R (callFunc 8 #[]) w (fun v12 w => -- law.go:204
  uv Try.prog R (Op.unary Go.UnOp.not v12) w (fun v13 w => -- law.go:204
  K v0 v13 w))
theorem F7_s1_st (R : Ending → World → Prop) (K : Value → Value → World → Prop) (X : Nat → Fr → World → Prop) (f : Fr) (w : World) (h : F7_s1_t R K (f 0) w) : wpE Try.prog F7_dc (resK Try.prog [.tmp 2] R) (panK R) (.seq (cL F7_b) (cL (cL (cR F7_b)))) (fun f w => K (f 0) (f 13) w) X f w := Eq.mp (by kernel_rfl) h
def F7_s1 (R : Ending → World → Prop) (v0 : Value) (w : World) : Prop :=
  F7_s1_t R (F7_s2 R) v0 w
noncomputable def F7_s1_c : Code := (.seq (.seq (cL F7_b) (cL (cL (cR F7_b)))) F7_s2_c)
theorem F7_s1_ok (R : Ending → World → Prop) : ∀ f w, ((fun f w => F7_s1 R (f 0) w)) f w → wpE Try.prog F7_dc (resK Try.prog [.tmp 2] R) (panK R) F7_s1_c (resK Try.prog [.tmp 2] R) noX f w :=
  fun f w h => cut (.seq (cL F7_b) (cL (cL (cR F7_b)))) F7_s2_c (K := (fun f w => F7_s2 R (f 0) (f 13) w)) (F7_s2_ok R) f w (F7_s1_st R (F7_s2 R) _ f w h)
theorem F7_all_e (R : Ending → World → Prop) (K : Fr → World → Prop) (X : Nat → Fr → World → Prop) (f : Fr) (w : World) (h : wpE Try.prog F7_dc (resK Try.prog [.tmp 2] R) (panK R) F7_s1_c K X f w) : wpE Try.prog F7_dc (resK Try.prog [.tmp 2] R) (panK R) F7_b K X f w := Eq.mp (by kernel_rfl) h
theorem F7_calls (R : Ending → World → Prop) (v0 : Value) (w : World) (h : F7_s1 R v0 w) : Calls Try.prog 7 #[v0] w R :=
  calls_of_wpE (dc := F7_dc) (args := [v0]) hmixed Try.func7 (c := F7_b) rfl (rs := [.tmp 2]) rfl (by kernel_rfl) (Nat.le_of_ble_eq_true (by kernel_rfl)) (F7_all_e R _ _ _ w ((F7_s1_ok R) (initFr [v0]) w h))

end Go.Proofs.Ytpghlemcgjogpaa
