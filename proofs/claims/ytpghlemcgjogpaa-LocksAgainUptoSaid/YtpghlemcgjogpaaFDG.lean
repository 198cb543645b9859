import Derived.Test.YtpghlemcgjogpaaProg
import Derived.Test.YtpghlemcgjogpaaSx
import Derived.Test.YtpghlemcgjogpaaT
set_option linter.unusedVariables false
set_option maxRecDepth 100000
set_option maxHeartbeats 400000
namespace Go.Proofs.Ytpghlemcgjogpaa
open Go.Sx
/-! ### hasp/hasplaw10.LocksAgain -/
noncomputable def F6_b : Code := bodyOf Try.f6
def F6_dc : Nat → List (Nat × Bool)
  | _ => []
def F6_s9_t (R : Ending → World → Prop) (v5 : Value) (v8 : Value) (v9 : Value) (w : World) : Prop :=
  un Try.prog R (callFunc 13 #[v5]) w (fun v91 w => -- law.go:199
  un Try.prog R (callFunc 18 #[v91, v8]) w (fun v93 w => -- law.go:199
  Gk v93 true (fun k => k v5 w) w (fun v95 w => -- law.go:199
  Gk v93 true (fun k => un Try.prog R (callFunc 14 #[v95]) w k) w (fun v96 w => -- law.go:199
  Gk v93 true (fun k => k v9 w) w (fun v97 w => -- law.go:199
  Gk v93 true (fun k => un Try.prog R (callFunc 19 #[v96, v97]) w k) w (fun v98 w => -- law.go:199
  uv Try.prog R (pickS v93 v98 (Go.Value.bool false)) w (fun v99 w => -- law.go:199
  R (.returned v99) w)))))))
theorem F6_s9_st (R : Ending → World → Prop) (X : Nat → Fr → World → Prop) (f : Fr) (w : World) (h : F6_s9_t R (f 5) (f 8) (f 9) w) : wpE Try.prog F6_dc (resK Try.prog [.tmp 4] R) (panK R) (cL (cR (cR (cR (cR (cR (cR (cR F6_b)))))))) (resK Try.prog [.tmp 4] R) X f w := Eq.mp (by kernel_rfl) h
def F6_s9 (R : Ending → World → Prop) (v5 : Value) (v8 : Value) (v9 : Value) (w : World) : Prop :=
  F6_s9_t R v5 v8 v9 w
noncomputable def F6_s9_c : Code := (.seq (cL (cR (cR (cR (cR (cR (cR (cR F6_b)))))))) .ret)
theorem F6_s9_ok (R : Ending → World → Prop) : ∀ f w, ((fun f w => F6_s9 R (f 5) (f 8) (f 9) w)) f w → wpE Try.prog F6_dc (resK Try.prog [.tmp 4] R) (panK R) F6_s9_c (resK Try.prog [.tmp 4] R) noX f w :=
  fun f w h => cut (cL (cR (cR (cR (cR (cR (cR (cR F6_b)))))))) .ret (K := (resK Try.prog [.tmp 4] R)) (fun f w h => ret_ok h) f w (F6_s9_st R _ f w h)
def F6_s14_t (R : Ending → World → Prop) (K : Value → World → Prop) (v1 : Value) (v5 : Value) (v8 : Value) (v9 : Value) (v46 : Value) (v47 : Value) (v48 : Value) (w : World) : Prop :=
  uv Try.prog R (binS Go.BinOp.add 3 (.tmp 48) (.const (Go.Value.int Go.IntKind.i64 1)) v48 (Go.Value.int Go.IntKind.i64 1)) w (fun v89 w => -- law.go:190
  K v89 w)
theorem F6_s14_st (R : Ending → World → Prop) (K : Value → World → Prop) (X : Nat → Fr → World → Prop) (f : Fr) (w : World) (h : F6_s14_t R K (f 1) (f 5) (f 8) (f 9) (f 46) (f 47) (f 48) w) : wpE Try.prog F6_dc (resK Try.prog [.tmp 4] R) (panK R) (cR (cR (cR (cI (cI (cR (cL (cR (cR (cR (cR (cR (cR F6_b))))))))))))) (fun f w => K (f 48) w) X f w := Eq.mp (by kernel_rfl) h
def F6_s14 (R : Ending → World → Prop) (rec10 : Value → World → Prop) (v1 : Value) (v5 : Value) (v8 : Value) (v9 : Value) (v46 : Value) (v47 : Value) (v48 : Value) (w : World) : Prop :=
  F6_s14_t R (rec10) v1 v5 v8 v9 v46 v47 v48 w
noncomputable def F6_s14_c : Code := (.seq (cR (cR (cR (cI (cI (cR (cL (cR (cR (cR (cR (cR (cR F6_b))))))))))))) .skip)
theorem F6_s14_ok (R : Ending → World → Prop) (rec10 : Value → World → Prop) : ∀ f w, ((fun f w => F6_s14 R rec10 (f 1) (f 5) (f 8) (f 9) (f 46) (f 47) (f 48) w)) f w → wpE Try.prog F6_dc (resK Try.prog [.tmp 4] R) (panK R) F6_s14_c (fun f w => rec10 (f 48) w) (kxB 2 ((fun f w => F6_s9 R (f 5) (f 8) (f 9) w)) noX) f w :=
  fun f w h => cut (cR (cR (cR (cI (cI (cR (cL (cR (cR (cR (cR (cR (cR F6_b))))))))))))) .skip (K := (fun f w => rec10 (f 48) w)) (fun f w h => skip_ok h) f w (F6_s14_st R (rec10) _ f w h)
def F6_s19_t (R : Ending → World → Prop) (w : World) : Prop :=
  R (.returned (Go.Value.bool false)) w
theorem F6_s19_st (R : Ending → World → Prop) (X : Nat → Fr → World → Prop) (f : Fr) (w : World) (h : F6_s19_t R w) : wpE Try.prog F6_dc (resK Try.prog [.tmp 4] R) (panK R) (cL (cT (cR (cR (cR (cR (cI (cL (cR (cR (cI (cI (cR (cL (cR (cR (cR (cR (cR (cR F6_b)))))))))))))))))))) (resK Try.prog [.tmp 4] R) X f w := Eq.mp (by kernel_rfl) h
def F6_s19 (R : Ending → World → Prop) (rec10 : Value → World → Prop) (w : World) : Prop :=
  F6_s19_t R w
noncomputable def F6_s19_c : Code := (.seq (cL (cT (cR (cR (cR (cR (cI (cL (cR (cR (cI (cI (cR (cL (cR (cR (cR (cR (cR (cR F6_b)))))))))))))))))))) .ret)
theorem F6_s19_ok (R : Ending → World → Prop) (rec10 : Value → World → Prop) : ∀ f w, ((fun f w => F6_s19 R rec10 w)) f w → wpE Try.prog F6_dc (resK Try.prog [.tmp 4] R) (panK R) F6_s19_c (fun f w => F6_s14 R rec10 (f 1) (f 5) (f 8) (f 9) (f 46) (f 47) (f 48) w) (kxB 3 ((fun f w => F6_s14 R rec10 (f 1) (f 5) (f 8) (f 9) (f 46) (f 47) (f 48) w)) (kxB 2 ((fun f w => F6_s9 R (f 5) (f 8) (f 9) w)) noX)) f w :=
  fun f w h => cut (cL (cT (cR (cR (cR (cR (cI (cL (cR (cR (cI (cI (cR (cL (cR (cR (cR (cR (cR (cR F6_b)))))))))))))))))))) .ret (K := (resK Try.prog [.tmp 4] R)) (fun f w h => ret_ok h) f w (F6_s19_st R _ f w h)
def F6_s18 (R : Ending → World → Prop) (rec10 : Value → World → Prop) (v1 : Value) (v5 : Value) (v8 : Value) (v9 : Value) (v46 : Value) (v47 : Value) (v48 : Value) (v88 : Value) (w : World) : Prop :=
  Bc v88
    (F6_s19 R rec10 w)
    (F6_s14 R rec10 v1 v5 v8 v9 v46 v47 v48 w)
noncomputable def F6_s18_c : Code := (.seq (cR (cR (cR (cR (cI (cL (cR (cR (cI (cI (cR (cL (cR (cR (cR (cR (cR (cR F6_b)))))))))))))))))) .skip)
theorem F6_s18_e (R : Ending → World → Prop) (K : Fr → World → Prop) (X : Nat → Fr → World → Prop) (f : Fr) (w : World) (h : Bc (f 88) (wpE Try.prog F6_dc (resK Try.prog [.tmp 4] R) (panK R) F6_s19_c K X f w) (wpE Try.prog F6_dc (resK Try.prog [.tmp 4] R) (panK R) .skip K X f w)) : (wpE Try.prog F6_dc (resK Try.prog [.tmp 4] R) (panK R) (cR (cR (cR (cR (cI (cL (cR (cR (cI (cI (cR (cL (cR (cR (cR (cR (cR (cR F6_b)))))))))))))))))) K X f w) := Eq.mp (by kernel_rfl) h
theorem F6_s18_ok (R : Ending → World → Prop) (rec10 : Value → World → Prop) : ∀ f w, ((fun f w => F6_s18 R rec10 (f 1) (f 5) (f 8) (f 9) (f 46) (f 47) (f 48) (f 88) w)) f w → wpE Try.prog F6_dc (resK Try.prog [.tmp 4] R) (panK R) F6_s18_c (fun f w => F6_s14 R rec10 (f 1) (f 5) (f 8) (f 9) (f 46) (f 47) (f 48) w) (kxB 3 ((fun f w => F6_s14 R rec10 (f 1) (f 5) (f 8) (f 9) (f 46) (f 47) (f 48) w)) (kxB 2 ((fun f w => F6_s9 R (f 5) (f 8) (f 9) w)) noX)) f w :=
  fun f w h => cut (cR (cR (cR (cR (cI (cL (cR (cR (cI (cI (cR (cL (cR (cR (cR (cR (cR (cR F6_b)))))))))))))))))) .skip (K := (fun f w => F6_s14 R rec10 (f 1) (f 5) (f 8) (f 9) (f 46) (f 47) (f 48) w)) (fun f w h => skip_ok h) f w (F6_s18_e R _ _ f w (Bc_imp (x' := (wpE Try.prog F6_dc (resK Try.prog [.tmp 4] R) (panK R) F6_s19_c (fun f w => F6_s14 R rec10 (f 1) (f 5) (f 8) (f 9) (f 46) (f 47) (f 48) w) (kxB 3 ((fun f w => F6_s14 R rec10 (f 1) (f 5) (f 8) (f 9) (f 46) (f 47) (f 48) w)) (kxB 2 ((fun f w => F6_s9 R (f 5) (f 8) (f 9) w)) noX)) f w)) (y' := (wpE Try.prog F6_dc (resK Try.prog [.tmp 4] R) (panK R) .skip (fun f w => F6_s14 R rec10 (f 1) (f 5) (f 8) (f 9) (f 46) (f 47) (f 48) w) (kxB 3 ((fun f w => F6_s14 R rec10 (f 1) (f 5) (f 8) (f 9) (f 46) (f 47) (f 48) w)) (kxB 2 ((fun f w => F6_s9 R (f 5) (f 8) (f 9) w)) noX)) f w)) ((F6_s19_ok R rec10) f w) ((fun f w h => skip_ok h) f w) h))
def F6_s17_t (R : Ending → World → Prop) (K : Value → Value → Value → Value → Value → Value → Value → Value → World → Prop) (v1 : Value) (v5 : Value) (v8 : Value) (v9 : Value) (v11 : Value) (v46 : Value) (v47 : Value) (v48 : Value) (w : World) : Prop :=
  uv Try.prog R (Instr.fieldAt 37 v11 0) w (fun v61 w => -- law.go:195
  uv Try.prog R (Instr.loadAt 3 v61) w (fun v62 w => -- law.go:195
  uv Try.prog R (Instr.fieldAt 37 v11 1) w (fun v63 w => -- law.go:195
  uv Try.prog R (Instr.loadAt 9 v63) w (fun v64 w => -- law.go:195
  uv Try.prog R (Instr.fieldAt 37 v11 2) w (fun v65 w => -- law.go:195
  uv Try.prog R (Instr.loadAt 3 v65) w (fun v66 w => -- law.go:195
  un Try.prog R (callFunc 10 #[v5, v62, v64, v66]) w (fun v67 w => -- law.go:195
  uv Try.prog R (binS Go.BinOp.neq 3 (.tmp 67) (.const (Go.Value.int Go.IntKind.i64 1)) v67 (Go.Value.int Go.IntKind.i64 1)) w (fun v68 w => -- law.go:195
  Gk v68 false (fun k => uv Try.prog R (Instr.fieldAt 37 v11 2) w k) w (fun v70 w => -- law.go:195
  Gk v68 false (fun k => uv Try.prog R (Instr.loadAt 3 v70) w k) w (fun v71 w => -- law.go:195
  Gk v68 false (fun k => k v1 w) w (fun v72 w => -- law.go:195
  Gk v68 false (fun k => un Try.prog R (callFunc 15 #[v71, v72]) w k) w (fun v73 w => -- law.go:195
  Gk v68 false (fun k => k v73 w) w (fun v74 w => -- law.go:195
  Gk v74 true (fun k => k v1 w) w (fun v75 w => -- law.go:195
  Gk v74 true (fun k => uv Try.prog R (binS Go.BinOp.gtr 3 (.tmp 75) (.const (Go.Value.int Go.IntKind.i64 0)) v75 (Go.Value.int Go.IntKind.i64 0)) w k) w (fun v76 w => -- law.go:195
  Gk v68 false (fun k => uv Try.prog R (pickS v74 v76 (Go.Value.bool false)) w k) w (fun v77 w => -- law.go:195
  Gk v68 false (fun k => k v77 w) w (fun v78 w => -- law.go:195
  Gk v78 true (fun k => k v5 w) w (fun v79 w => -- law.go:195
  Gk v78 true (fun k => uv Try.prog R (Instr.fieldAt 37 v11 0) w k) w (fun v80 w => -- law.go:195
  Gk v78 true (fun k => uv Try.prog R (Instr.loadAt 3 v80) w k) w (fun v81 w => -- law.go:195
  Gk v78 true (fun k => uv Try.prog R (Instr.fieldAt 37 v11 1) w k) w (fun v82 w => -- law.go:195
  Gk v78 true (fun k => uv Try.prog R (Instr.loadAt 9 v82) w k) w (fun v83 w => -- law.go:195
  Gk v78 true (fun k => k v1 w) w (fun v84 w => -- law.go:195
  Gk v78 true (fun k => un Try.prog R (callFunc 10 #[v79, v81, v83, v84]) w k) w (fun v85 w => -- law.go:195
  Gk v78 true (fun k => uv Try.prog R (binS Go.BinOp.neq 3 (.tmp 85) (.const (Go.Value.int Go.IntKind.i64 1)) v85 (Go.Value.int Go.IntKind.i64 1)) w k) w (fun v86 w => -- law.go:195
  Gk v68 false (fun k => uv Try.prog R (pickS v78 v86 (Go.Value.bool false)) w k) w (fun v87 w => -- law.go:195
  uv Try.prog R (pickS v68 (Go.Value.bool true) v87) w (fun v88 w => -- law.go:195
  K v1 v5 v8 v9 v46 v47 v48 v88 w)))))))))))))))))))))))))))
theorem F6_s17_st (R : Ending → World → Prop) (K : Value → Value → Value → Value → Value → Value → Value → Value → World → Prop) (X : Nat → Fr → World → Prop) (f : Fr) (w : World) (h : F6_s17_t R K (f 1) (f 5) (f 8) (f 9) (f 11) (f 46) (f 47) (f 48) w) : wpE Try.prog F6_dc (resK Try.prog [.tmp 4] R) (panK R) (cL (cR (cR (cR (cI (cL (cR (cR (cI (cI (cR (cL (cR (cR (cR (cR (cR (cR F6_b)))))))))))))))))) (fun f w => K (f 1) (f 5) (f 8) (f 9) (f 46) (f 47) (f 48) (f 88) w) X f w := Eq.mp (by kernel_rfl) h
def F6_s17 (R : Ending → World → Prop) (rec10 : Value → World → Prop) (v1 : Value) (v5 : Value) (v8 : Value) (v9 : Value) (v11 : Value) (v46 : Value) (v47 : Value) (v48 : Value) (w : World) : Prop :=
  F6_s17_t R (F6_s18 R rec10) v1 v5 v8 v9 v11 v46 v47 v48 w
noncomputable def F6_s17_c : Code := (.seq (cL (cR (cR (cR (cI (cL (cR (cR (cI (cI (cR (cL (cR (cR (cR (cR (cR (cR F6_b)))))))))))))))))) F6_s18_c)
theorem F6_s17_ok (R : Ending → World → Prop) (rec10 : Value → World → Prop) : ∀ f w, ((fun f w => F6_s17 R rec10 (f 1) (f 5) (f 8) (f 9) (f 11) (f 46) (f 47) (f 48) w)) f w → wpE Try.prog F6_dc (resK Try.prog [.tmp 4] R) (panK R) F6_s17_c (fun f w => F6_s14 R rec10 (f 1) (f 5) (f 8) (f 9) (f 46) (f 47) (f 48) w) (kxB 3 ((fun f w => F6_s14 R rec10 (f 1) (f 5) (f 8) (f 9) (f 46) (f 47) (f 48) w)) (kxB 2 ((fun f w => F6_s9 R (f 5) (f 8) (f 9) w)) noX)) f w :=
  fun f w h => cut (cL (cR (cR (cR (cI (cL (cR (cR (cI (cI (cR (cL (cR (cR (cR (cR (cR (cR F6_b)))))))))))))))))) F6_s18_c (K := (fun f w => F6_s18 R rec10 (f 1) (f 5) (f 8) (f 9) (f 46) (f 47) (f 48) (f 88) w)) (F6_s18_ok R rec10) f w (F6_s17_st R (F6_s18 R rec10) _ f w h)
def F6_s16 (R : Ending → World → Prop) (rec10 : Value → World → Prop) (v1 : Value) (v5 : Value) (v8 : Value) (v9 : Value) (v11 : Value) (v46 : Value) (v47 : Value) (v48 : Value) (v59 : Value) (w : World) : Prop :=
  Bc v59
    (F6_s14 R rec10 v1 v5 v8 v9 v46 v47 v48 w)
    (F6_s17 R rec10 v1 v5 v8 v9 v11 v46 v47 v48 w)
noncomputable def F6_s16_c : Code := (.seq (cR (cL (cR (cR (cI (cL (cR (cR (cI (cI (cR (cL (cR (cR (cR (cR (cR (cR F6_b)))))))))))))))))) F6_s17_c)
theorem F6_s16_e (R : Ending → World → Prop) (K : Fr → World → Prop) (X : Nat → Fr → World → Prop) (f : Fr) (w : World) (h : Bc (f 59) (wpE Try.prog F6_dc (resK Try.prog [.tmp 4] R) (panK R) (.exit 3) K X f w) (wpE Try.prog F6_dc (resK Try.prog [.tmp 4] R) (panK R) .skip K X f w)) : (wpE Try.prog F6_dc (resK Try.prog [.tmp 4] R) (panK R) (cR (cL (cR (cR (cI (cL (cR (cR (cI (cI (cR (cL (cR (cR (cR (cR (cR (cR F6_b)))))))))))))))))) K X f w) := Eq.mp (by kernel_rfl) h
theorem F6_s16_ok (R : Ending → World → Prop) (rec10 : Value → World → Prop) : ∀ f w, ((fun f w => F6_s16 R rec10 (f 1) (f 5) (f 8) (f 9) (f 11) (f 46) (f 47) (f 48) (f 59) w)) f w → wpE Try.prog F6_dc (resK Try.prog [.tmp 4] R) (panK R) F6_s16_c (fun f w => F6_s14 R rec10 (f 1) (f 5) (f 8) (f 9) (f 46) (f 47) (f 48) w) (kxB 3 ((fun f w => F6_s14 R rec10 (f 1) (f 5) (f 8) (f 9) (f 46) (f 47) (f 48) w)) (kxB 2 ((fun f w => F6_s9 R (f 5) (f 8) (f 9) w)) noX)) f w :=
  fun f w h => cut (cR (cL (cR (cR (cI (cL (cR (cR (cI (cI (cR (cL (cR (cR (cR (cR (cR (cR F6_b)))))))))))))))))) F6_s17_c (K := (fun f w => F6_s17 R rec10 (f 1) (f 5) (f 8) (f 9) (f 11) (f 46) (f 47) (f 48) w)) (F6_s17_ok R rec10) f w (F6_s16_e R _ _ f w (Bc_imp (x' := (wpE Try.prog F6_dc (resK Try.prog [.tmp 4] R) (panK R) (.exit 3) (fun f w => F6_s17 R rec10 (f 1) (f 5) (f 8) (f 9) (f 11) (f 46) (f 47) (f 48) w) (kxB 3 ((fun f w => F6_s14 R rec10 (f 1) (f 5) (f 8) (f 9) (f 46) (f 47) (f 48) w)) (kxB 2 ((fun f w => F6_s9 R (f 5) (f 8) (f 9) w)) noX)) f w)) (y' := (wpE Try.prog F6_dc (resK Try.prog [.tmp 4] R) (panK R) .skip (fun f w => F6_s17 R rec10 (f 1) (f 5) (f 8) (f 9) (f 11) (f 46) (f 47) (f 48) w) (kxB 3 ((fun f w => F6_s14 R rec10 (f 1) (f 5) (f 8) (f 9) (f 46) (f 47) (f 48) w)) (kxB 2 ((fun f w => F6_s9 R (f 5) (f 8) (f 9) w)) noX)) f w)) ((fun f w h => exit_hit h) f w) ((fun f w h => skip_ok h) f w) h))
def F6_s15_t (R : Ending → World → Prop) (K : Value → Value → Value → Value → Value → Value → Value → Value → Value → World → Prop) (v1 : Value) (v5 : Value) (v8 : Value) (v9 : Value) (v46 : Value) (v47 : Value) (v48 : Value) (w : World) : Prop :=
  uv Try.prog R (Instr.indexAt 32 v46 v48) w (fun v50 w => -- law.go:190
  uv Try.prog R (Instr.loadAt 37 v50) w (fun v51 w => -- law.go:190
  uv Try.prog R (Instr.alloc 37 true (.tuple #[])) w (fun v11 w => -- law.go:190
  uu Try.prog R (Instr.storeAt 37 v11 v51) w (fun w => -- law.go:190
  uv Try.prog R (Instr.fieldAt 37 v11 0) w (fun v54 w => -- law.go:191
  uv Try.prog R (Instr.loadAt 3 v54) w (fun v55 w => -- law.go:191
  un Try.prog R (callFunc 17 #[v5, v55]) w (fun v56 w => -- law.go:191
  uv Try.prog R (Instr.extract v56 0) w (fun v57 w => -- law.go:191
  uv Try.prog R (Instr.extract v56 1) w (fun v58 w => -- law.go:191
  uv Try.prog R (Instr.alloc 37 true (.tuple #[])) w (fun v12 w => -- law.go:191
  uu Try.prog R (Instr.storeAt 37 v12 v57) w (fun w => -- law.go:191
  K v1 v5 v8 v9 v11 v46 v47 v48 v58 w)))))))))))
theorem F6_s15_st (R : Ending → World → Prop) (K : Value → Value → Value → Value → Value → Value → Value → Value → Value → World → Prop) (X : Nat → Fr → World → Prop) (f : Fr) (w : World) (h : F6_s15_t R K (f 1) (f 5) (f 8) (f 9) (f 46) (f 47) (f 48) w) : wpE Try.prog F6_dc (resK Try.prog [.tmp 4] R) (panK R) (.seq (cL (cI (cL (cR (cR (cI (cI (cR (cL (cR (cR (cR (cR (cR (cR F6_b))))))))))))))) (.seq (cL (cR (cI (cL (cR (cR (cI (cI (cR (cL (cR (cR (cR (cR (cR (cR F6_b)))))))))))))))) (cL (cL (cR (cR (cI (cL (cR (cR (cI (cI (cR (cL (cR (cR (cR (cR (cR (cR F6_b)))))))))))))))))))) (fun f w => K (f 1) (f 5) (f 8) (f 9) (f 11) (f 46) (f 47) (f 48) (f 59) w) X f w := Eq.mp (by kernel_rfl) h
def F6_s15 (R : Ending → World → Prop) (rec10 : Value → World → Prop) (v1 : Value) (v5 : Value) (v8 : Value) (v9 : Value) (v46 : Value) (v47 : Value) (v48 : Value) (w : World) : Prop :=
  F6_s15_t R (F6_s16 R rec10) v1 v5 v8 v9 v46 v47 v48 w
noncomputable def F6_s15_c : Code := (.seq (.seq (cL (cI (cL (cR (cR (cI (cI (cR (cL (cR (cR (cR (cR (cR (cR F6_b))))))))))))))) (.seq (cL (cR (cI (cL (cR (cR (cI (cI (cR (cL (cR (cR (cR (cR (cR (cR F6_b)))))))))))))))) (cL (cL (cR (cR (cI (cL (cR (cR (cI (cI (cR (cL (cR (cR (cR (cR (cR (cR F6_b)))))))))))))))))))) F6_s16_c)
theorem F6_s15_ok (R : Ending → World → Prop) (rec10 : Value → World → Prop) : ∀ f w, ((fun f w => F6_s15 R rec10 (f 1) (f 5) (f 8) (f 9) (f 46) (f 47) (f 48) w)) f w → wpE Try.prog F6_dc (resK Try.prog [.tmp 4] R) (panK R) F6_s15_c (fun f w => F6_s14 R rec10 (f 1) (f 5) (f 8) (f 9) (f 46) (f 47) (f 48) w) (kxB 3 ((fun f w => F6_s14 R rec10 (f 1) (f 5) (f 8) (f 9) (f 46) (f 47) (f 48) w)) (kxB 2 ((fun f w => F6_s9 R (f 5) (f 8) (f 9) w)) noX)) f w :=
  fun f w h => cut (.seq (cL (cI (cL (cR (cR (cI (cI (cR (cL (cR (cR (cR (cR (cR (cR F6_b))))))))))))))) (.seq (cL (cR (cI (cL (cR (cR (cI (cI (cR (cL (cR (cR (cR (cR (cR (cR F6_b)))))))))))))))) (cL (cL (cR (cR (cI (cL (cR (cR (cI (cI (cR (cL (cR (cR (cR (cR (cR (cR F6_b)))))))))))))))))))) F6_s16_c (K := (fun f w => F6_s16 R rec10 (f 1) (f 5) (f 8) (f 9) (f 11) (f 46) (f 47) (f 48) (f 59) w)) (F6_s16_ok R rec10) f w (F6_s15_st R (F6_s16 R rec10) _ f w h)
noncomputable def F6_s13_c : Code := (.seq (cL (cR (cR (cI (cI (cR (cL (cR (cR (cR (cR (cR (cR F6_b))))))))))))) F6_s14_c)
theorem F6_s13_e (R : Ending → World → Prop) (K : Fr → World → Prop) (X : Nat → Fr → World → Prop) (f : Fr) (w : World) (h : wpE Try.prog F6_dc (resK Try.prog [.tmp 4] R) (panK R) F6_s15_c K (kxB 3 K X) f w) : wpE Try.prog F6_dc (resK Try.prog [.tmp 4] R) (panK R) (cL (cR (cR (cI (cI (cR (cL (cR (cR (cR (cR (cR (cR F6_b))))))))))))) K X f w := Eq.mp (by kernel_rfl) h
theorem F6_s13_ok (R : Ending → World → Prop) (rec10 : Value → World → Prop) : ∀ f w, ((fun f w => F6_s15 R rec10 (f 1) (f 5) (f 8) (f 9) (f 46) (f 47) (f 48) w)) f w → wpE Try.prog F6_dc (resK Try.prog [.tmp 4] R) (panK R) F6_s13_c (fun f w => rec10 (f 48) w) (kxB 2 ((fun f w => F6_s9 R (f 5) (f 8) (f 9) w)) noX) f w :=
  fun f w h => cut (cL (cR (cR (cI (cI (cR (cL (cR (cR (cR (cR (cR (cR F6_b))))))))))))) F6_s14_c (K := (fun f w => F6_s14 R rec10 (f 1) (f 5) (f 8) (f 9) (f 46) (f 47) (f 48) w)) (F6_s14_ok R rec10) f w (F6_s13_e R _ _ f w ((F6_s15_ok R rec10) f w h))
def F6_s12 (R : Ending → World → Prop) (rec10 : Value → World → Prop) (v1 : Value) (v5 : Value) (v8 : Value) (v9 : Value) (v46 : Value) (v47 : Value) (v48 : Value) (v49 : Value) (w : World) : Prop :=
  Bc v49
    (F6_s15 R rec10 v1 v5 v8 v9 v46 v47 v48 w)
    (F6_s9 R v5 v8 v9 w)
noncomputable def F6_s12_c : Code := (.seq (cL (cR (cI (cI (cR (cL (cR (cR (cR (cR (cR (cR F6_b)))))))))))) F6_s13_c)
theorem F6_s12_e (R : Ending → World → Prop) (K : Fr → World → Prop) (X : Nat → Fr → World → Prop) (f : Fr) (w : World) (h : Bc (f 49) (wpE Try.prog F6_dc (resK Try.prog [.tmp 4] R) (panK R) .skip K X f w) (wpE Try.prog F6_dc (resK Try.prog [.tmp 4] R) (panK R) (.exit 2) K X f w)) : (wpE Try.prog F6_dc (resK Try.prog [.tmp 4] R) (panK R) (cL (cR (cI (cI (cR (cL (cR (cR (cR (cR (cR (cR F6_b)))))))))))) K X f w) := Eq.mp (by kernel_rfl) h
theorem F6_s12_ok (R : Ending → World → Prop) (rec10 : Value → World → Prop) : ∀ f w, ((fun f w => F6_s12 R rec10 (f 1) (f 5) (f 8) (f 9) (f 46) (f 47) (f 48) (f 49) w)) f w → wpE Try.prog F6_dc (resK Try.prog [.tmp 4] R) (panK R) F6_s12_c (fun f w => rec10 (f 48) w) (kxB 2 ((fun f w => F6_s9 R (f 5) (f 8) (f 9) w)) noX) f w :=
  fun f w h => cut (cL (cR (cI (cI (cR (cL (cR (cR (cR (cR (cR (cR F6_b)))))))))))) F6_s13_c (K := (fun f w => F6_s15 R rec10 (f 1) (f 5) (f 8) (f 9) (f 46) (f 47) (f 48) w)) (F6_s13_ok R rec10) f w (F6_s12_e R _ _ f w (Bc_imp (x' := (wpE Try.prog F6_dc (resK Try.prog [.tmp 4] R) (panK R) .skip (fun f w => F6_s15 R rec10 (f 1) (f 5) (f 8) (f 9) (f 46) (f 47) (f 48) w) (kxB 2 ((fun f w => F6_s9 R (f 5) (f 8) (f 9) w)) noX) f w)) (y' := (wpE Try.prog F6_dc (resK Try.prog [.tmp 4] R) (panK R) (.exit 2) (fun f w => F6_s15 R rec10 (f 1) (f 5) (f 8) (f 9) (f 46) (f 47) (f 48) w) (kxB 2 ((fun f w => F6_s9 R (f 5) (f 8) (f 9) w)) noX) f w)) ((fun f w h => skip_ok h) f w) ((fun f w h => exit_hit h) f w) h))
def F6_s11_t (R : Ending → World → Prop) (K : Value → Value → Value → Value → Value → Value → Value → Value → World → Prop) (v1 : Value) (v5 : Value) (v8 : Value) (v9 : Value) (v46 : Value) (v47 : Value) (v48 : Value) (w : World) : Prop :=
  uv Try.prog R (binS Go.BinOp.lss 3 (.tmp 48) (.tmp 47) v48 v47) w (fun v49 w => -- law.go:190
  K v1 v5 v8 v9 v46 v47 v48 v49 w)
theorem F6_s11_st (R : Ending → World → Prop) (K : Value → Value → Value → Value → Value → Value → Value → Value → World → Prop) (X : Nat → Fr → World → Prop) (f : Fr) (w : World) (h : F6_s11_t R K (f 1) (f 5) (f 8) (f 9) (f 46) (f 47) (f 48) w) : wpE Try.prog F6_dc (resK Try.prog [.tmp 4] R) (panK R) (cL (cI (cI (cR (cL (cR (cR (cR (cR (cR (cR F6_b))))))))))) (fun f w => K (f 1) (f 5) (f 8) (f 9) (f 46) (f 47) (f 48) (f 49) w) X f w := Eq.mp (by kernel_rfl) h
def F6_s11 (R : Ending → World → Prop) (rec10 : Value → World → Prop) (v1 : Value) (v5 : Value) (v8 : Value) (v9 : Value) (v46 : Value) (v47 : Value) (v48 : Value) (w : World) : Prop :=
  F6_s11_t R (F6_s12 R rec10) v1 v5 v8 v9 v46 v47 v48 w
noncomputable def F6_s11_c : Code := (.seq (cL (cI (cI (cR (cL (cR (cR (cR (cR (cR (cR F6_b))))))))))) F6_s12_c)
theorem F6_s11_ok (R : Ending → World → Prop) (rec10 : Value → World → Prop) : ∀ f w, ((fun f w => F6_s11 R rec10 (f 1) (f 5) (f 8) (f 9) (f 46) (f 47) (f 48) w)) f w → wpE Try.prog F6_dc (resK Try.prog [.tmp 4] R) (panK R) F6_s11_c (fun f w => rec10 (f 48) w) (kxB 2 ((fun f w => F6_s9 R (f 5) (f 8) (f 9) w)) noX) f w :=
  fun f w h => cut (cL (cI (cI (cR (cL (cR (cR (cR (cR (cR (cR F6_b))))))))))) F6_s12_c (K := (fun f w => F6_s12 R rec10 (f 1) (f 5) (f 8) (f 9) (f 46) (f 47) (f 48) (f 49) w)) (F6_s12_ok R rec10) f w (F6_s11_st R (F6_s12 R rec10) _ f w h)
def F6_s10 (R : Ending → World → Prop) (v1 : Value) (v5 : Value) (v8 : Value) (v9 : Value) (v46 : Value) (v47 : Value) (v48 : Value) (w : World) : Prop :=
  Lp1 (fun rec10 v48 w => F6_s11 R rec10 v1 v5 v8 v9 v46 v47 v48 w) v48 w
theorem F6_s10_e (R : Ending → World → Prop) (K : Fr → World → Prop) (X : Nat → Fr → World → Prop) (f : Fr) (w : World) (h : wpE Try.prog F6_dc (resK Try.prog [.tmp 4] R) (panK R) (.loop (cI (cI (cR (cL (cR (cR (cR (cR (cR (cR F6_b))))))))))) K X f w) : wpE Try.prog F6_dc (resK Try.prog [.tmp 4] R) (panK R) (cI (cR (cL (cR (cR (cR (cR (cR (cR F6_b))))))))) K X f w := Eq.mp (by kernel_rfl) h
theorem F6_s10b_e (R : Ending → World → Prop) (K : Fr → World → Prop) (X : Nat → Fr → World → Prop) (f : Fr) (w : World) (h : wpE Try.prog F6_dc (resK Try.prog [.tmp 4] R) (panK R) F6_s11_c K X f w) : wpE Try.prog F6_dc (resK Try.prog [.tmp 4] R) (panK R) (cI (cI (cR (cL (cR (cR (cR (cR (cR (cR F6_b)))))))))) K X f w := Eq.mp (by kernel_rfl) h
theorem F6_s10_ok (R : Ending → World → Prop) : ∀ f w, ((fun f w => F6_s10 R (f 1) (f 5) (f 8) (f 9) (f 46) (f 47) (f 48) w)) f w → wpE Try.prog F6_dc (resK Try.prog [.tmp 4] R) (panK R) (cI (cR (cL (cR (cR (cR (cR (cR (cR F6_b))))))))) (fun f w => F6_s9 R (f 5) (f 8) (f 9) w) (kxB 2 ((fun f w => F6_s9 R (f 5) (f 8) (f 9) w)) noX) f w :=
  fun f w h => F6_s10_e R _ _ f w (loop1_ok (P := Try.prog) (dc := F6_dc) (kr := (resK Try.prog [.tmp 4] R)) (pan := panK R) (cI (cI (cR (cL (cR (cR (cR (cR (cR (cR F6_b)))))))))) (kn := (fun f w => F6_s9 R (f 5) (f 8) (f 9) w)) (kx := (kxB 2 ((fun f w => F6_s9 R (f 5) (f 8) (f 9) w)) noX)) (s0 := 48) (fun rec10 v48 w => F6_s11 R rec10 (f 1) (f 5) (f 8) (f 9) (f 46) (f 47) v48 w) f (fun rec10 f' w' hf h' => F6_s10b_e R _ _ f' w' ((F6_s11_ok R rec10) f' w' (by simp only [hf 1 (by kernel_rfl), hf 5 (by kernel_rfl), hf 8 (by kernel_rfl), hf 9 (by kernel_rfl), hf 46 (by kernel_rfl), hf 47 (by kernel_rfl)]; exact h'))) w h)
noncomputable def F6_s8_c : Code := (.seq (cR (cL (cR (cR (cR (cR (cR (cR F6_b)))))))) F6_s9_c)
theorem F6_s8_e (R : Ending → World → Prop) (K : Fr → World → Prop) (X : Nat → Fr → World → Prop) (f : Fr) (w : World) (h : wpE Try.prog F6_dc (resK Try.prog [.tmp 4] R) (panK R) (cI (cR (cL (cR (cR (cR (cR (cR (cR F6_b))))))))) K (kxB 2 K X) f w) : wpE Try.prog F6_dc (resK Try.prog [.tmp 4] R) (panK R) (cR (cL (cR (cR (cR (cR (cR (cR F6_b)))))))) K X f w := Eq.mp (by kernel_rfl) h
theorem F6_s8_ok (R : Ending → World → Prop) : ∀ f w, ((fun f w => F6_s10 R (f 1) (f 5) (f 8) (f 9) (f 46) (f 47) (f 48) w)) f w → wpE Try.prog F6_dc (resK Try.prog [.tmp 4] R) (panK R) F6_s8_c (resK Try.prog [.tmp 4] R) noX f w :=
  fun f w h => cut (cR (cL (cR (cR (cR (cR (cR (cR F6_b)))))))) F6_s9_c (K := (fun f w => F6_s9 R (f 5) (f 8) (f 9) w)) (F6_s9_ok R) f w (F6_s8_e R _ _ f w ((F6_s10_ok R) f w h))
def F6_s7_t (R : Ending → World → Prop) (K : Value → Value → Value → Value → Value → Value → Value → World → Prop) (v1 : Value) (v5 : Value) (w : World) : Prop :=
  un Try.prog R (callFunc 13 #[v5]) w (fun v43 w => -- law.go:189
  un Try.prog R (callFunc 14 #[v5]) w (fun v45 w => -- law.go:189
  un Try.prog R (builtin Go.Builtin.len #[32] 3 #[false] #[v43]) w (fun v47 w => -- law.go:190
  K v1 v5 v43 v45 v43 v47 (Go.Value.int Go.IntKind.i64 0) w)))
theorem F6_s7_st (R : Ending → World → Prop) (K : Value → Value → Value → Value → Value → Value → Value → World → Prop) (X : Nat → Fr → World → Prop) (f : Fr) (w : World) (h : F6_s7_t R K (f 1) (f 5) w) : wpE Try.prog F6_dc (resK Try.prog [.tmp 4] R) (panK R) (.seq (cL (cR (cR (cR (cR (cR F6_b)))))) (cL (cL (cR (cR (cR (cR (cR (cR F6_b))))))))) (fun f w => K (f 1) (f 5) (f 8) (f 9) (f 46) (f 47) (f 48) w) X f w := Eq.mp (by kernel_rfl) h
def F6_s7 (R : Ending → World → Prop) (v1 : Value) (v5 : Value) (w : World) : Prop :=
  F6_s7_t R (F6_s10 R) v1 v5 w
noncomputable def F6_s7_c : Code := (.seq (.seq (cL (cR (cR (cR (cR (cR F6_b)))))) (cL (cL (cR (cR (cR (cR (cR (cR F6_b))))))))) F6_s8_c)
theorem F6_s7_ok (R : Ending → World → Prop) : ∀ f w, ((fun f w => F6_s7 R (f 1) (f 5) w)) f w → wpE Try.prog F6_dc (resK Try.prog [.tmp 4] R) (panK R) F6_s7_c (resK Try.prog [.tmp 4] R) noX f w :=
  fun f w h => cut (.seq (cL (cR (cR (cR (cR (cR F6_b)))))) (cL (cL (cR (cR (cR (cR (cR (cR F6_b))))))))) F6_s8_c (K := (fun f w => F6_s10 R (f 1) (f 5) (f 8) (f 9) (f 46) (f 47) (f 48) w)) (F6_s8_ok R) f w (F6_s7_st R (F6_s10 R) _ f w h)
def F6_s24_t (R : Ending → World → Prop) (K : Value → World → Prop) (v1 : Value) (v5 : Value) (v19 : Value) (v20 : Value) (v21 : Value) (w : World) : Prop :=
  uv Try.prog R (binS Go.BinOp.add 3 (.tmp 21) (.const (Go.Value.int Go.IntKind.i64 1)) v21 (Go.Value.int Go.IntKind.i64 1)) w (fun v41 w => -- law.go:182
  K v41 w)
theorem F6_s24_st (R : Ending → World → Prop) (K : Value → World → Prop) (X : Nat → Fr → World → Prop) (f : Fr) (w : World) (h : F6_s24_t R K (f 1) (f 5) (f 19) (f 20) (f 21) w) : wpE Try.prog F6_dc (resK Try.prog [.tmp 4] R) (panK R) (cR (cR (cR (cI (cI (cR (cL (cR (cR (cR (cR F6_b))))))))))) (fun f w => K (f 21) w) X f w := Eq.mp (by kernel_rfl) h
def F6_s24 (R : Ending → World → Prop) (rec20 : Value → World → Prop) (v1 : Value) (v5 : Value) (v19 : Value) (v20 : Value) (v21 : Value) (w : World) : Prop :=
  F6_s24_t R (rec20) v1 v5 v19 v20 v21 w
noncomputable def F6_s24_c : Code := (.seq (cR (cR (cR (cI (cI (cR (cL (cR (cR (cR (cR F6_b))))))))))) .skip)
theorem F6_s24_ok (R : Ending → World → Prop) (rec20 : Value → World → Prop) : ∀ f w, ((fun f w => F6_s24 R rec20 (f 1) (f 5) (f 19) (f 20) (f 21) w)) f w → wpE Try.prog F6_dc (resK Try.prog [.tmp 4] R) (panK R) F6_s24_c (fun f w => rec20 (f 21) w) (kxB 0 ((fun f w => F6_s7 R (f 1) (f 5) w)) noX) f w :=
  fun f w h => cut (cR (cR (cR (cI (cI (cR (cL (cR (cR (cR (cR F6_b))))))))))) .skip (K := (fun f w => rec20 (f 21) w)) (fun f w h => skip_ok h) f w (F6_s24_st R (rec20) _ f w h)
def F6_s27_t (R : Ending → World → Prop) (K : Value → Value → Value → Value → Value → World → Prop) (v1 : Value) (v5 : Value) (v7 : Value) (v19 : Value) (v20 : Value) (v21 : Value) (w : World) : Prop :=
  uv Try.prog R (Instr.fieldAt 27 v7 1) w (fun v30 w => -- law.go:184
  uv Try.prog R (Instr.loadAt 3 v30) w (fun v31 w => -- law.go:184
  uv Try.prog R (Instr.fieldAt 27 v7 3) w (fun v32 w => -- law.go:184
  uv Try.prog R (Instr.loadAt 9 v32) w (fun v33 w => -- law.go:184
  uv Try.prog R (Instr.fieldAt 27 v7 2) w (fun v34 w => -- law.go:184
  uv Try.prog R (Instr.loadAt 3 v34) w (fun v35 w => -- law.go:184
  un Try.prog R (callFunc 10 #[v5, v31, v33, v35]) w (fun v36 w => -- law.go:184
  K v1 v5 v19 v20 v21 w)))))))
theorem F6_s27_st (R : Ending → World → Prop) (K : Value → Value → Value → Value → Value → World → Prop) (X : Nat → Fr → World → Prop) (f : Fr) (w : World) (h : F6_s27_t R K (f 1) (f 5) (f 7) (f 19) (f 20) (f 21) w) : wpE Try.prog F6_dc (resK Try.prog [.tmp 4] R) (panK R) (cT (cR (cR (cI (cL (cR (cR (cI (cI (cR (cL (cR (cR (cR (cR F6_b))))))))))))))) (fun f w => K (f 1) (f 5) (f 19) (f 20) (f 21) w) X f w := Eq.mp (by kernel_rfl) h
def F6_s27 (R : Ending → World → Prop) (rec20 : Value → World → Prop) (v1 : Value) (v5 : Value) (v7 : Value) (v19 : Value) (v20 : Value) (v21 : Value) (w : World) : Prop :=
  F6_s27_t R (F6_s24 R rec20) v1 v5 v7 v19 v20 v21 w
noncomputable def F6_s27_c : Code := (.seq (cT (cR (cR (cI (cL (cR (cR (cI (cI (cR (cL (cR (cR (cR (cR F6_b))))))))))))))) .skip)
theorem F6_s27_ok (R : Ending → World → Prop) (rec20 : Value → World → Prop) : ∀ f w, ((fun f w => F6_s27 R rec20 (f 1) (f 5) (f 7) (f 19) (f 20) (f 21) w)) f w → wpE Try.prog F6_dc (resK Try.prog [.tmp 4] R) (panK R) F6_s27_c (fun f w => F6_s24 R rec20 (f 1) (f 5) (f 19) (f 20) (f 21) w) (kxB 1 ((fun f w => F6_s24 R rec20 (f 1) (f 5) (f 19) (f 20) (f 21) w)) (kxB 0 ((fun f w => F6_s7 R (f 1) (f 5) w)) noX)) f w :=
  fun f w h => cut (cT (cR (cR (cI (cL (cR (cR (cI (cI (cR (cL (cR (cR (cR (cR F6_b))))))))))))))) .skip (K := (fun f w => F6_s24 R rec20 (f 1) (f 5) (f 19) (f 20) (f 21) w)) (fun f w h => skip_ok h) f w (F6_s27_st R (F6_s24 R rec20) _ f w h)
def F6_s28_t (R : Ending → World → Prop) (K : Value → Value → Value → Value → Value → World → Prop) (v1 : Value) (v5 : Value) (v7 : Value) (v19 : Value) (v20 : Value) (v21 : Value) (w : World) : Prop :=
  uv Try.prog R (Instr.fieldAt 27 v7 1) w (fun v38 w => -- law.go:186
  uv Try.prog R (Instr.loadAt 3 v38) w (fun v39 w => -- law.go:186
  un Try.prog R (callFunc 11 #[v5, v39]) w (fun v40 w => -- law.go:186
  K v1 v5 v19 v20 v21 w)))
theorem F6_s28_st (R : Ending → World → Prop) (K : Value → Value → Value → Value → Value → World → Prop) (X : Nat → Fr → World → Prop) (f : Fr) (w : World) (h : F6_s28_t R K (f 1) (f 5) (f 7) (f 19) (f 20) (f 21) w) : wpE Try.prog F6_dc (resK Try.prog [.tmp 4] R) (panK R) (cF (cR (cR (cI (cL (cR (cR (cI (cI (cR (cL (cR (cR (cR (cR F6_b))))))))))))))) (fun f w => K (f 1) (f 5) (f 19) (f 20) (f 21) w) X f w := Eq.mp (by kernel_rfl) h
def F6_s28 (R : Ending → World → Prop) (rec20 : Value → World → Prop) (v1 : Value) (v5 : Value) (v7 : Value) (v19 : Value) (v20 : Value) (v21 : Value) (w : World) : Prop :=
  F6_s28_t R (F6_s24 R rec20) v1 v5 v7 v19 v20 v21 w
noncomputable def F6_s28_c : Code := (.seq (cF (cR (cR (cI (cL (cR (cR (cI (cI (cR (cL (cR (cR (cR (cR F6_b))))))))))))))) .skip)
theorem F6_s28_ok (R : Ending → World → Prop) (rec20 : Value → World → Prop) : ∀ f w, ((fun f w => F6_s28 R rec20 (f 1) (f 5) (f 7) (f 19) (f 20) (f 21) w)) f w → wpE Try.prog F6_dc (resK Try.prog [.tmp 4] R) (panK R) F6_s28_c (fun f w => F6_s24 R rec20 (f 1) (f 5) (f 19) (f 20) (f 21) w) (kxB 1 ((fun f w => F6_s24 R rec20 (f 1) (f 5) (f 19) (f 20) (f 21) w)) (kxB 0 ((fun f w => F6_s7 R (f 1) (f 5) w)) noX)) f w :=
  fun f w h => cut (cF (cR (cR (cI (cL (cR (cR (cI (cI (cR (cL (cR (cR (cR (cR F6_b))))))))))))))) .skip (K := (fun f w => F6_s24 R rec20 (f 1) (f 5) (f 19) (f 20) (f 21) w)) (fun f w h => skip_ok h) f w (F6_s28_st R (F6_s24 R rec20) _ f w h)
def F6_s26 (R : Ending → World → Prop) (rec20 : Value → World → Prop) (v1 : Value) (v5 : Value) (v7 : Value) (v19 : Value) (v20 : Value) (v21 : Value) (v28 : Value) (w : World) : Prop :=
  Bc v28
    (F6_s27 R rec20 v1 v5 v7 v19 v20 v21 w)
    (F6_s28 R rec20 v1 v5 v7 v19 v20 v21 w)
noncomputable def F6_s26_c : Code := (.seq (cR (cR (cI (cL (cR (cR (cI (cI (cR (cL (cR (cR (cR (cR F6_b)))))))))))))) .skip)
theorem F6_s26_e (R : Ending → World → Prop) (K : Fr → World → Prop) (X : Nat → Fr → World → Prop) (f : Fr) (w : World) (h : Bc (f 28) (wpE Try.prog F6_dc (resK Try.prog [.tmp 4] R) (panK R) F6_s27_c K X f w) (wpE Try.prog F6_dc (resK Try.prog [.tmp 4] R) (panK R) F6_s28_c K X f w)) : (wpE Try.prog F6_dc (resK Try.prog [.tmp 4] R) (panK R) (cR (cR (cI (cL (cR (cR (cI (cI (cR (cL (cR (cR (cR (cR F6_b)))))))))))))) K X f w) := Eq.mp (by kernel_rfl) h
theorem F6_s26_ok (R : Ending → World → Prop) (rec20 : Value → World → Prop) : ∀ f w, ((fun f w => F6_s26 R rec20 (f 1) (f 5) (f 7) (f 19) (f 20) (f 21) (f 28) w)) f w → wpE Try.prog F6_dc (resK Try.prog [.tmp 4] R) (panK R) F6_s26_c (fun f w => F6_s24 R rec20 (f 1) (f 5) (f 19) (f 20) (f 21) w) (kxB 1 ((fun f w => F6_s24 R rec20 (f 1) (f 5) (f 19) (f 20) (f 21) w)) (kxB 0 ((fun f w => F6_s7 R (f 1) (f 5) w)) noX)) f w :=
  fun f w h => cut (cR (cR (cI (cL (cR (cR (cI (cI (cR (cL (cR (cR (cR (cR F6_b)))))))))))))) .skip (K := (fun f w => F6_s24 R rec20 (f 1) (f 5) (f 19) (f 20) (f 21) w)) (fun f w h => skip_ok h) f w (F6_s26_e R _ _ f w (Bc_imp (x' := (wpE Try.prog F6_dc (resK Try.prog [.tmp 4] R) (panK R) F6_s27_c (fun f w => F6_s24 R rec20 (f 1) (f 5) (f 19) (f 20) (f 21) w) (kxB 1 ((fun f w => F6_s24 R rec20 (f 1) (f 5) (f 19) (f 20) (f 21) w)) (kxB 0 ((fun f w => F6_s7 R (f 1) (f 5) w)) noX)) f w)) (y' := (wpE Try.prog F6_dc (resK Try.prog [.tmp 4] R) (panK R) F6_s28_c (fun f w => F6_s24 R rec20 (f 1) (f 5) (f 19) (f 20) (f 21) w) (kxB 1 ((fun f w => F6_s24 R rec20 (f 1) (f 5) (f 19) (f 20) (f 21) w)) (kxB 0 ((fun f w => F6_s7 R (f 1) (f 5) w)) noX)) f w)) ((F6_s27_ok R rec20) f w) ((F6_s28_ok R rec20) f w) h))
def F6_s25_t (R : Ending → World → Prop) (K : Value → Value → Value → Value → Value → Value → Value → World → Prop) (v1 : Value) (v5 : Value) (v19 : Value) (v20 : Value) (v21 : Value) (w : World) : Prop :=
  uv Try.prog R (Instr.indexAt 22 v19 v21) w (fun v23 w => -- law.go:182
  uv Try.prog R (Instr.loadAt 27 v23) w (fun v24 w => -- law.go:182
  uv Try.prog R (Instr.alloc 27 true (.tuple #[])) w (fun v7 w => -- law.go:182
  uu Try.prog R (Instr.storeAt 27 v7 v24) w (fun w => -- law.go:182
  uv Try.prog R (Instr.fieldAt 27 v7 0) w (fun v25 w => -- law.go:183
  uv Try.prog R (Instr.loadAt 3 v25) w (fun v26 w => -- law.go:183
  uv Try.prog R (binS Go.BinOp.and 3 (.tmp 26) (.const (Go.Value.int Go.IntKind.i64 3)) v26 (Go.Value.int Go.IntKind.i64 3)) w (fun v27 w => -- law.go:183
  uv Try.prog R (binS Go.BinOp.lss 3 (.tmp 27) (.const (Go.Value.int Go.IntKind.i64 3)) v27 (Go.Value.int Go.IntKind.i64 3)) w (fun v28 w => -- law.go:183
  K v1 v5 v7 v19 v20 v21 v28 w))))))))
theorem F6_s25_st (R : Ending → World → Prop) (K : Value → Value → Value → Value → Value → Value → Value → World → Prop) (X : Nat → Fr → World → Prop) (f : Fr) (w : World) (h : F6_s25_t R K (f 1) (f 5) (f 19) (f 20) (f 21) w) : wpE Try.prog F6_dc (resK Try.prog [.tmp 4] R) (panK R) (.seq (cL (cI (cL (cR (cR (cI (cI (cR (cL (cR (cR (cR (cR F6_b))))))))))))) (cL (cR (cI (cL (cR (cR (cI (cI (cR (cL (cR (cR (cR (cR F6_b))))))))))))))) (fun f w => K (f 1) (f 5) (f 7) (f 19) (f 20) (f 21) (f 28) w) X f w := Eq.mp (by kernel_rfl) h
def F6_s25 (R : Ending → World → Prop) (rec20 : Value → World → Prop) (v1 : Value) (v5 : Value) (v19 : Value) (v20 : Value) (v21 : Value) (w : World) : Prop :=
  F6_s25_t R (F6_s26 R rec20) v1 v5 v19 v20 v21 w
noncomputable def F6_s25_c : Code := (.seq (.seq (cL (cI (cL (cR (cR (cI (cI (cR (cL (cR (cR (cR (cR F6_b))))))))))))) (cL (cR (cI (cL (cR (cR (cI (cI (cR (cL (cR (cR (cR (cR F6_b))))))))))))))) F6_s26_c)
theorem F6_s25_ok (R : Ending → World → Prop) (rec20 : Value → World → Prop) : ∀ f w, ((fun f w => F6_s25 R rec20 (f 1) (f 5) (f 19) (f 20) (f 21) w)) f w → wpE Try.prog F6_dc (resK Try.prog [.tmp 4] R) (panK R) F6_s25_c (fun f w => F6_s24 R rec20 (f 1) (f 5) (f 19) (f 20) (f 21) w) (kxB 1 ((fun f w => F6_s24 R rec20 (f 1) (f 5) (f 19) (f 20) (f 21) w)) (kxB 0 ((fun f w => F6_s7 R (f 1) (f 5) w)) noX)) f w :=
  fun f w h => cut (.seq (cL (cI (cL (cR (cR (cI (cI (cR (cL (cR (cR (cR (cR F6_b))))))))))))) (cL (cR (cI (cL (cR (cR (cI (cI (cR (cL (cR (cR (cR (cR F6_b))))))))))))))) F6_s26_c (K := (fun f w => F6_s26 R rec20 (f 1) (f 5) (f 7) (f 19) (f 20) (f 21) (f 28) w)) (F6_s26_ok R rec20) f w (F6_s25_st R (F6_s26 R rec20) _ f w h)
noncomputable def F6_s23_c : Code := (.seq (cL (cR (cR (cI (cI (cR (cL (cR (cR (cR (cR F6_b))))))))))) F6_s24_c)
theorem F6_s23_e (R : Ending → World → Prop) (K : Fr → World → Prop) (X : Nat → Fr → World → Prop) (f : Fr) (w : World) (h : wpE Try.prog F6_dc (resK Try.prog [.tmp 4] R) (panK R) F6_s25_c K (kxB 1 K X) f w) : wpE Try.prog F6_dc (resK Try.prog [.tmp 4] R) (panK R) (cL (cR (cR (cI (cI (cR (cL (cR (cR (cR (cR F6_b))))))))))) K X f w := Eq.mp (by kernel_rfl) h
theorem F6_s23_ok (R : Ending → World → Prop) (rec20 : Value → World → Prop) : ∀ f w, ((fun f w => F6_s25 R rec20 (f 1) (f 5) (f 19) (f 20) (f 21) w)) f w → wpE Try.prog F6_dc (resK Try.prog [.tmp 4] R) (panK R) F6_s23_c (fun f w => rec20 (f 21) w) (kxB 0 ((fun f w => F6_s7 R (f 1) (f 5) w)) noX) f w :=
  fun f w h => cut (cL (cR (cR (cI (cI (cR (cL (cR (cR (cR (cR F6_b))))))))))) F6_s24_c (K := (fun f w => F6_s24 R rec20 (f 1) (f 5) (f 19) (f 20) (f 21) w)) (F6_s24_ok R rec20) f w (F6_s23_e R _ _ f w ((F6_s25_ok R rec20) f w h))
def F6_s22 (R : Ending → World → Prop) (rec20 : Value → World → Prop) (v1 : Value) (v5 : Value) (v19 : Value) (v20 : Value) (v21 : Value) (v22 : Value) (w : World) : Prop :=
  Bc v22
    (F6_s25 R rec20 v1 v5 v19 v20 v21 w)
    (F6_s7 R v1 v5 w)
noncomputable def F6_s22_c : Code := (.seq (cL (cR (cI (cI (cR (cL (cR (cR (cR (cR F6_b)))))))))) F6_s23_c)
theorem F6_s22_e (R : Ending → World → Prop) (K : Fr → World → Prop) (X : Nat → Fr → World → Prop) (f : Fr) (w : World) (h : Bc (f 22) (wpE Try.prog F6_dc (resK Try.prog [.tmp 4] R) (panK R) .skip K X f w) (wpE Try.prog F6_dc (resK Try.prog [.tmp 4] R) (panK R) (.exit 0) K X f w)) : (wpE Try.prog F6_dc (resK Try.prog [.tmp 4] R) (panK R) (cL (cR (cI (cI (cR (cL (cR (cR (cR (cR F6_b)))))))))) K X f w) := Eq.mp (by kernel_rfl) h
theorem F6_s22_ok (R : Ending → World → Prop) (rec20 : Value → World → Prop) : ∀ f w, ((fun f w => F6_s22 R rec20 (f 1) (f 5) (f 19) (f 20) (f 21) (f 22) w)) f w → wpE Try.prog F6_dc (resK Try.prog [.tmp 4] R) (panK R) F6_s22_c (fun f w => rec20 (f 21) w) (kxB 0 ((fun f w => F6_s7 R (f 1) (f 5) w)) noX) f w :=
  fun f w h => cut (cL (cR (cI (cI (cR (cL (cR (cR (cR (cR F6_b)))))))))) F6_s23_c (K := (fun f w => F6_s25 R rec20 (f 1) (f 5) (f 19) (f 20) (f 21) w)) (F6_s23_ok R rec20) f w (F6_s22_e R _ _ f w (Bc_imp (x' := (wpE Try.prog F6_dc (resK Try.prog [.tmp 4] R) (panK R) .skip (fun f w => F6_s25 R rec20 (f 1) (f 5) (f 19) (f 20) (f 21) w) (kxB 0 ((fun f w => F6_s7 R (f 1) (f 5) w)) noX) f w)) (y' := (wpE Try.prog F6_dc (resK Try.prog [.tmp 4] R) (panK R) (.exit 0) (fun f w => F6_s25 R rec20 (f 1) (f 5) (f 19) (f 20) (f 21) w) (kxB 0 ((fun f w => F6_s7 R (f 1) (f 5) w)) noX) f w)) ((fun f w h => skip_ok h) f w) ((fun f w h => exit_hit h) f w) h))
def F6_s21_t (R : Ending → World → Prop) (K : Value → Value → Value → Value → Value → Value → World → Prop) (v1 : Value) (v5 : Value) (v19 : Value) (v20 : Value) (v21 : Value) (w : World) : Prop :=
  uv Try.prog R (binS Go.BinOp.lss 3 (.tmp 21) (.tmp 20) v21 v20) w (fun v22 w => -- law.go:182
  K v1 v5 v19 v20 v21 v22 w)
theorem F6_s21_st (R : Ending → World → Prop) (K : Value → Value → Value → Value → Value → Value → World → Prop) (X : Nat → Fr → World → Prop) (f : Fr) (w : World) (h : F6_s21_t R K (f 1) (f 5) (f 19) (f 20) (f 21) w) : wpE Try.prog F6_dc (resK Try.prog [.tmp 4] R) (panK R) (cL (cI (cI (cR (cL (cR (cR (cR (cR F6_b))))))))) (fun f w => K (f 1) (f 5) (f 19) (f 20) (f 21) (f 22) w) X f w := Eq.mp (by kernel_rfl) h
def F6_s21 (R : Ending → World → Prop) (rec20 : Value → World → Prop) (v1 : Value) (v5 : Value) (v19 : Value) (v20 : Value) (v21 : Value) (w : World) : Prop :=
  F6_s21_t R (F6_s22 R rec20) v1 v5 v19 v20 v21 w
noncomputable def F6_s21_c : Code := (.seq (cL (cI (cI (cR (cL (cR (cR (cR (cR F6_b))))))))) F6_s22_c)
theorem F6_s21_ok (R : Ending → World → Prop) (rec20 : Value → World → Prop) : ∀ f w, ((fun f w => F6_s21 R rec20 (f 1) (f 5) (f 19) (f 20) (f 21) w)) f w → wpE Try.prog F6_dc (resK Try.prog [.tmp 4] R) (panK R) F6_s21_c (fun f w => rec20 (f 21) w) (kxB 0 ((fun f w => F6_s7 R (f 1) (f 5) w)) noX) f w :=
  fun f w h => cut (cL (cI (cI (cR (cL (cR (cR (cR (cR F6_b))))))))) F6_s22_c (K := (fun f w => F6_s22 R rec20 (f 1) (f 5) (f 19) (f 20) (f 21) (f 22) w)) (F6_s22_ok R rec20) f w (F6_s21_st R (F6_s22 R rec20) _ f w h)
def F6_s20 (R : Ending → World → Prop) (v1 : Value) (v5 : Value) (v19 : Value) (v20 : Value) (v21 : Value) (w : World) : Prop :=
  Lp1 (fun rec20 v21 w => F6_s21 R rec20 v1 v5 v19 v20 v21 w) v21 w
theorem F6_s20_e (R : Ending → World → Prop) (K : Fr → World → Prop) (X : Nat → Fr → World → Prop) (f : Fr) (w : World) (h : wpE Try.prog F6_dc (resK Try.prog [.tmp 4] R) (panK R) (.loop (cI (cI (cR (cL (cR (cR (cR (cR F6_b))))))))) K X f w) : wpE Try.prog F6_dc (resK Try.prog [.tmp 4] R) (panK R) (cI (cR (cL (cR (cR (cR (cR F6_b))))))) K X f w := Eq.mp (by kernel_rfl) h
theorem F6_s20b_e (R : Ending → World → Prop) (K : Fr → World → Prop) (X : Nat → Fr → World → Prop) (f : Fr) (w : World) (h : wpE Try.prog F6_dc (resK Try.prog [.tmp 4] R) (panK R) F6_s21_c K X f w) : wpE Try.prog F6_dc (resK Try.prog [.tmp 4] R) (panK R) (cI (cI (cR (cL (cR (cR (cR (cR F6_b)))))))) K X f w := Eq.mp (by kernel_rfl) h
theorem F6_s20_ok (R : Ending → World → Prop) : ∀ f w, ((fun f w => F6_s20 R (f 1) (f 5) (f 19) (f 20) (f 21) w)) f w → wpE Try.prog F6_dc (resK Try.prog [.tmp 4] R) (panK R) (cI (cR (cL (cR (cR (cR (cR F6_b))))))) (fun f w => F6_s7 R (f 1) (f 5) w) (kxB 0 ((fun f w => F6_s7 R (f 1) (f 5) w)) noX) f w :=
  fun f w h => F6_s20_e R _ _ f w (loop1_ok (P := Try.prog) (dc := F6_dc) (kr := (resK Try.prog [.tmp 4] R)) (pan := panK R) (cI (cI (cR (cL (cR (cR (cR (cR F6_b)))))))) (kn := (fun f w => F6_s7 R (f 1) (f 5) w)) (kx := (kxB 0 ((fun f w => F6_s7 R (f 1) (f 5) w)) noX)) (s0 := 21) (fun rec20 v21 w => F6_s21 R rec20 (f 1) (f 5) (f 19) (f 20) v21 w) f (fun rec20 f' w' hf h' => F6_s20b_e R _ _ f' w' ((F6_s21_ok R rec20) f' w' (by simp only [hf 1 (by kernel_rfl), hf 5 (by kernel_rfl), hf 19 (by kernel_rfl), hf 20 (by kernel_rfl)]; exact h'))) w h)
noncomputable def F6_s6_c : Code := (.seq (cR (cL (cR (cR (cR (cR F6_b)))))) F6_s7_c)
theorem F6_s6_e (R : Ending → World → Prop) (K : Fr → World → Prop) (X : Nat → Fr → World → Prop) (f : Fr) (w : World) (h : wpE Try.prog F6_dc (resK Try.prog [.tmp 4] R) (panK R) (cI (cR (cL (cR (cR (cR (cR F6_b))))))) K (kxB 0 K X) f w) : wpE Try.prog F6_dc (resK Try.prog [.tmp 4] R) (panK R) (cR (cL (cR (cR (cR (cR F6_b)))))) K X f w := Eq.mp (by kernel_rfl) h
theorem F6_s6_ok (R : Ending → World → Prop) : ∀ f w, ((fun f w => F6_s20 R (f 1) (f 5) (f 19) (f 20) (f 21) w)) f w → wpE Try.prog F6_dc (resK Try.prog [.tmp 4] R) (panK R) F6_s6_c (resK Try.prog [.tmp 4] R) noX f w :=
  fun f w h => cut (cR (cL (cR (cR (cR (cR F6_b)))))) F6_s7_c (K := (fun f w => F6_s7 R (f 1) (f 5) w)) (F6_s7_ok R) f w (F6_s6_e R _ _ f w ((F6_s20_ok R) f w h))
def F6_s5_t (R : Ending → World → Prop) (K : Value → Value → Value → Value → Value → World → Prop) (v0 : Value) (v1 : Value) (v5 : Value) (w : World) : Prop :=
  un Try.prog R (builtin Go.Builtin.len #[22] 3 #[false] #[v0]) w (fun v20 w => -- law.go:182
  K v1 v5 v0 v20 (Go.Value.int Go.IntKind.i64 0) w)
theorem F6_s5_st (R : Ending → World → Prop) (K : Value → Value → Value → Value → Value → World → Prop) (X : Nat → Fr → World → Prop) (f : Fr) (w : World) (h : F6_s5_t R K (f 0) (f 1) (f 5) w) : wpE Try.prog F6_dc (resK Try.prog [.tmp 4] R) (panK R) (cL (cL (cR (cR (cR (cR F6_b)))))) (fun f w => K (f 1) (f 5) (f 19) (f 20) (f 21) w) X f w := Eq.mp (by kernel_rfl) h
def F6_s5 (R : Ending → World → Prop) (v0 : Value) (v1 : Value) (v5 : Value) (w : World) : Prop :=
  F6_s5_t R (F6_s20 R) v0 v1 v5 w
noncomputable def F6_s5_c : Code := (.seq (cL (cL (cR (cR (cR (cR F6_b)))))) F6_s6_c)
theorem F6_s5_ok (R : Ending → World → Prop) : ∀ f w, ((fun f w => F6_s5 R (f 0) (f 1) (f 5) w)) f w → wpE Try.prog F6_dc (resK Try.prog [.tmp 4] R) (panK R) F6_s5_c (resK Try.prog [.tmp 4] R) noX f w :=
  fun f w h => cut (cL (cL (cR (cR (cR (cR F6_b)))))) F6_s6_c (K := (fun f w => F6_s20 R (f 1) (f 5) (f 19) (f 20) (f 21) w)) (F6_s6_ok R) f w (F6_s5_st R (F6_s20 R) _ f w h)
def F6_s29_t (R : Ending → World → Prop) (w : World) : Prop :=
  R (.returned (Go.Value.bool false)) w
theorem F6_s29_st (R : Ending → World → Prop) (X : Nat → Fr → World → Prop) (f : Fr) (w : World) (h : F6_s29_t R w) : wpE Try.prog F6_dc (resK Try.prog [.tmp 4] R) (panK R) (cL (cT (cR (cL (cR (cR (cR F6_b))))))) (resK Try.prog [.tmp 4] R) X f w := Eq.mp (by kernel_rfl) h
def F6_s29 (R : Ending → World → Prop) (w : World) : Prop :=
  F6_s29_t R w
noncomputable def F6_s29_c : Code := (.seq (cL (cT (cR (cL (cR (cR (cR F6_b))))))) .ret)
theorem F6_s29_ok (R : Ending → World → Prop) : ∀ f w, ((fun f w => F6_s29 R w)) f w → wpE Try.prog F6_dc (resK Try.prog [.tmp 4] R) (panK R) F6_s29_c (fun f w => F6_s5 R (f 0) (f 1) (f 5) w) noX f w :=
  fun f w h => cut (cL (cT (cR (cL (cR (cR (cR F6_b))))))) .ret (K := (resK Try.prog [.tmp 4] R)) (fun f w h => ret_ok h) f w (F6_s29_st R _ f w h)
def F6_s4 (R : Ending → World → Prop) (v0 : Value) (v1 : Value) (v5 : Value) (v18 : Value) (w : World) : Prop :=
  Bc v18
    (F6_s29 R w)
    (F6_s5 R v0 v1 v5 w)
noncomputable def F6_s4_c : Code := (.seq (cR (cL (cR (cR (cR F6_b))))) F6_s5_c)
theorem F6_s4_e (R : Ending → World → Prop) (K : Fr → World → Prop) (X : Nat → Fr → World → Prop) (f : Fr) (w : World) (h : Bc (f 18) (wpE Try.prog F6_dc (resK Try.prog [.tmp 4] R) (panK R) F6_s29_c K X f w) (wpE Try.prog F6_dc (resK Try.prog [.tmp 4] R) (panK R) .skip K X f w)) : (wpE Try.prog F6_dc (resK Try.prog [.tmp 4] R) (panK R) (cR (cL (cR (cR (cR F6_b))))) K X f w) := Eq.mp (by kernel_rfl) h
theorem F6_s4_ok (R : Ending → World → Prop) : ∀ f w, ((fun f w => F6_s4 R (f 0) (f 1) (f 5) (f 18) w)) f w → wpE Try.prog F6_dc (resK Try.prog [.tmp 4] R) (panK R) F6_s4_c (resK Try.prog [.tmp 4] R) noX f w :=
  fun f w h => cut (cR (cL (cR (cR (cR F6_b))))) F6_s5_c (K := (fun f w => F6_s5 R (f 0) (f 1) (f 5) w)) (F6_s5_ok R) f w (F6_s4_e R _ _ f w (Bc_imp (x' := (wpE Try.prog F6_dc (resK Try.prog [.tmp 4] R) (panK R) F6_s29_c (fun f w => F6_s5 R (f 0) (f 1) (f 5) w) noX f w)) (y' := (wpE Try.prog F6_dc (resK Try.prog [.tmp 4] R) (panK R) .skip (fun f w => F6_s5 R (f 0) (f 1) (f 5) w) noX f w)) ((F6_s29_ok R) f w) ((fun f w h => skip_ok h) f w) h))
def F6_s3_t (R : Ending → World → Prop) (K : Value → Value → Value → Value → World → Prop) (v0 : Value) (v1 : Value) (w : World) : Prop :=
  un Try.prog R (callFunc 9 #[]) w (fun v16 w => -- law.go:178
  uv Try.prog R (binS Go.BinOp.eql 24 (.tmp 17) (.const (Go.Value.pointer none)) v16 (Go.Value.pointer none)) w (fun v18 w => -- law.go:179
  K v0 v1 v16 v18 w))
theorem F6_s3_st (R : Ending → World → Prop) (K : Value → Value → Value → Value → World → Prop) (X : Nat → Fr → World → Prop) (f : Fr) (w : World) (h : F6_s3_t R K (f 0) (f 1) w) : wpE Try.prog F6_dc (resK Try.prog [.tmp 4] R) (panK R) (.seq (cL (cR (cR F6_b))) (cL (cL (cR (cR (cR F6_b)))))) (fun f w => K (f 0) (f 1) (f 5) (f 18) w) X f w := Eq.mp (by kernel_rfl) h
def F6_s3 (R : Ending → World → Prop) (v0 : Value) (v1 : Value) (w : World) : Prop :=
  F6_s3_t R (F6_s4 R) v0 v1 w
noncomputable def F6_s3_c : Code := (.seq (.seq (cL (cR (cR F6_b))) (cL (cL (cR (cR (cR F6_b)))))) F6_s4_c)
theorem F6_s3_ok (R : Ending → World → Prop) : ∀ f w, ((fun f w => F6_s3 R (f 0) (f 1) w)) f w → wpE Try.prog F6_dc (resK Try.prog [.tmp 4] R) (panK R) F6_s3_c (resK Try.prog [.tmp 4] R) noX f w :=
  fun f w h => cut (.seq (cL (cR (cR F6_b))) (cL (cL (cR (cR (cR F6_b)))))) F6_s4_c (K := (fun f w => F6_s4 R (f 0) (f 1) (f 5) (f 18) w)) (F6_s4_ok R) f w (F6_s3_st R (F6_s4 R) _ f w h)
def F6_s30_t (R : Ending → World → Prop) (w : World) : Prop :=
  R (.returned (Go.Value.bool false)) w
theorem F6_s30_st (R : Ending → World → Prop) (X : Nat → Fr → World → Prop) (f : Fr) (w : World) (h : F6_s30_t R w) : wpE Try.prog F6_dc (resK Try.prog [.tmp 4] R) (panK R) (cL (cT (cR (cL (cR F6_b))))) (resK Try.prog [.tmp 4] R) X f w := Eq.mp (by kernel_rfl) h
def F6_s30 (R : Ending → World → Prop) (w : World) : Prop :=
  F6_s30_t R w
noncomputable def F6_s30_c : Code := (.seq (cL (cT (cR (cL (cR F6_b))))) .ret)
theorem F6_s30_ok (R : Ending → World → Prop) : ∀ f w, ((fun f w => F6_s30 R w)) f w → wpE Try.prog F6_dc (resK Try.prog [.tmp 4] R) (panK R) F6_s30_c (fun f w => F6_s3 R (f 0) (f 1) w) noX f w :=
  fun f w h => cut (cL (cT (cR (cL (cR F6_b))))) .ret (K := (resK Try.prog [.tmp 4] R)) (fun f w h => ret_ok h) f w (F6_s30_st R _ f w h)
def F6_s2 (R : Ending → World → Prop) (v0 : Value) (v1 : Value) (v15 : Value) (w : World) : Prop :=
  Bc v15
    (F6_s30 R w)
    (F6_s3 R v0 v1 w)
noncomputable def F6_s2_c : Code := (.seq (cR (cL (cR F6_b))) F6_s3_c)
theorem F6_s2_e (R : Ending → World → Prop) (K : Fr → World → Prop) (X : Nat → Fr → World → Prop) (f : Fr) (w : World) (h : Bc (f 15) (wpE Try.prog F6_dc (resK Try.prog [.tmp 4] R) (panK R) F6_s30_c K X f w) (wpE Try.prog F6_dc (resK Try.prog [.tmp 4] R) (panK R) .skip K X f w)) : (wpE Try.prog F6_dc (resK Try.prog [.tmp 4] R) (panK R) (cR (cL (cR F6_b))) K X f w) := Eq.mp (by kernel_rfl) h
theorem F6_s2_ok (R : Ending → World → Prop) : ∀ f w, ((fun f w => F6_s2 R (f 0) (f 1) (f 15) w)) f w → wpE Try.prog F6_dc (resK Try.prog [.tmp 4] R) (panK R) F6_s2_c (resK Try.prog [.tmp 4] R) noX f w :=
  fun f w h => cut (cR (cL (cR F6_b))) F6_s3_c (K := (fun f w => F6_s3 R (f 0) (f 1) w)) (F6_s3_ok R) f w (F6_s2_e R _ _ f w (Bc_imp (x' := (wpE Try.prog F6_dc (resK Try.prog [.tmp 4] R) (panK R) F6_s30_c (fun f w => F6_s3 R (f 0) (f 1) w) noX f w)) (y' := (wpE Try.prog F6_dc (resK Try.prog [.tmp 4] R) (panK R) .skip (fun f w => F6_s3 R (f 0) (f 1) w) noX f w)) ((F6_s30_ok R) f w) ((fun f w h => skip_ok h) f w) h))
def F6_s1_t (R : Ending → World → Prop) (K : Value → Value → Value → World → Prop) (v0 : Value) (v1 : Value) (w : World) : Prop :=
  un Try.prog R (callFunc 8 #[]) w (fun v14 w => -- law.go:175
  uv Try.prog R (Op.unary Go.UnOp.not v14) w (fun v15 w => -- law.go:175
  K v0 v1 v15 w))
theorem F6_s1_st (R : Ending → World → Prop) (K : Value → Value → Value → World → Prop) (X : Nat → Fr → World → Prop) (f : Fr) (w : World) (h : F6_s1_t R K (f 0) (f 1) w) : wpE Try.prog F6_dc (resK Try.prog [.tmp 4] R) (panK R) (.seq (cL F6_b) (cL (cL (cR F6_b)))) (fun f w => K (f 0) (f 1) (f 15) w) X f w := Eq.mp (by kernel_rfl) h
def F6_s1 (R : Ending → World → Prop) (v0 : Value) (v1 : Value) (w : World) : Prop :=
  F6_s1_t R (F6_s2 R) v0 v1 w
noncomputable def F6_s1_c : Code := (.seq (.seq (cL F6_b) (cL (cL (cR F6_b)))) F6_s2_c)
theorem F6_s1_ok (R : Ending → World → Prop) : ∀ f w, ((fun f w => F6_s1 R (f 0) (f 1) w)) f w → wpE Try.prog F6_dc (resK Try.prog [.tmp 4] R) (panK R) F6_s1_c (resK Try.prog [.tmp 4] R) noX f w :=
  fun f w h => cut (.seq (cL F6_b) (cL (cL (cR F6_b)))) F6_s2_c (K := (fun f w => F6_s2 R (f 0) (f 1) (f 15) w)) (F6_s2_ok R) f w (F6_s1_st R (F6_s2 R) _ f w h)
theorem F6_all_e (R : Ending → World → Prop) (K : Fr → World → Prop) (X : Nat → Fr → World → Prop) (f : Fr) (w : World) (h : wpE Try.prog F6_dc (resK Try.prog [.tmp 4] R) (panK R) F6_s1_c K X f w) : wpE Try.prog F6_dc (resK Try.prog [.tmp 4] R) (panK R) F6_b K X f w := Eq.mp (by kernel_rfl) h
theorem F6_calls (R : Ending → World → Prop) (v0 : Value) (v1 : Value) (w : World) (h : F6_s1 R v0 v1 w) : Calls Try.prog 6 #[v0, v1] w R :=
  calls_of_wpE (dc := F6_dc) (args := [v0, v1]) hmixed Try.func6 (c := F6_b) rfl (rs := [.tmp 4]) rfl (by kernel_rfl) (Nat.le_of_ble_eq_true (by kernel_rfl)) (F6_all_e R _ _ _ w ((F6_s1_ok R) (initFr [v0, v1]) w h))

end Go.Proofs.Ytpghlemcgjogpaa
