import Derived.Test.YtpghlemcgjogpaaProg
import Derived.Test.YtpghlemcgjogpaaSx
import Derived.Test.YtpghlemcgjogpaaT
set_option linter.unusedVariables false
set_option maxRecDepth 100000
set_option maxHeartbeats 400000
namespace Go.Proofs.Ytpghlemcgjogpaa
open Go.Sx
/-! ### hasp/hasplaw10.LocksClean -/
noncomputable def F3_b : Code := bodyOf Try.f3
def F3_dc : Nat → List (Nat × Bool)
  | _ => []
def F3_s7_t (R : Ending → World → Prop) (w : World) : Prop :=
  R (.returned (Go.Value.bool true)) w
theorem F3_s7_st (R : Ending → World → Prop) (X : Nat → Fr → World → Prop) (f : Fr) (w : World) (h : F3_s7_t R w) : wpE Try.prog F3_dc (resK Try.prog [.tmp 2] R) (panK R) (cL (cR (cR (cR (cR (cR F3_b)))))) (resK Try.prog [.tmp 2] R) X f w := Eq.mp (by kernel_rfl) h
def F3_s7 (R : Ending → World → Prop) (w : World) : Prop :=
  F3_s7_t R w
noncomputable def F3_s7_c : Code := (.seq (cL (cR (cR (cR (cR (cR F3_b)))))) .ret)
theorem F3_s7_ok (R : Ending → World → Prop) : ∀ f w, ((fun f w => F3_s7 R w)) f w → wpE Try.prog F3_dc (resK Try.prog [.tmp 2] R) (panK R) F3_s7_c (resK Try.prog [.tmp 2] R) noX f w :=
  fun f w h => cut (cL (cR (cR (cR (cR (cR F3_b)))))) .ret (K := (resK Try.prog [.tmp 2] R)) (fun f w h => ret_ok h) f w (F3_s7_st R _ f w h)
def F3_s12_t (R : Ending → World → Prop) (K : Value → World → Prop) (v3 : Value) (v11 : Value) (v12 : Value) (v13 : Value) (w : World) : Prop :=
  uv Try.prog R (binS Go.BinOp.add 3 (.tmp 13) (.const (Go.Value.int Go.IntKind.i64 1)) v13 (Go.Value.int Go.IntKind.i64 1)) w (fun v37 w => -- law.go:85
  K v37 w)
theorem F3_s12_st (R : Ending → World → Prop) (K : Value → World → Prop) (X : Nat → Fr → World → Prop) (f : Fr) (w : World) (h : F3_s12_t R K (f 3) (f 11) (f 12) (f 13) w) : wpE Try.prog F3_dc (resK Try.prog [.tmp 2] R) (panK R) (cR (cR (cR (cI (cI (cR (cL (cR (cR (cR (cR F3_b))))))))))) (fun f w => K (f 13) w) X f w := Eq.mp (by kernel_rfl) h
def F3_s12 (R : Ending → World → Prop) (rec8 : Value → World → Prop) (v3 : Value) (v11 : Value) (v12 : Value) (v13 : Value) (w : World) : Prop :=
  F3_s12_t R (rec8) v3 v11 v12 v13 w
noncomputable def F3_s12_c : Code := (.seq (cR (cR (cR (cI (cI (cR (cL (cR (cR (cR (cR F3_b))))))))))) .skip)
theorem F3_s12_ok (R : Ending → World → Prop) (rec8 : Value → World → Prop) : ∀ f w, ((fun f w => F3_s12 R rec8 (f 3) (f 11) (f 12) (f 13) w)) f w → wpE Try.prog F3_dc (resK Try.prog [.tmp 2] R) (panK R) F3_s12_c (fun f w => rec8 (f 13) w) (kxB 0 ((fun f w => F3_s7 R w)) noX) f w :=
  fun f w h => cut (cR (cR (cR (cI (cI (cR (cL (cR (cR (cR (cR F3_b))))))))))) .skip (K := (fun f w => rec8 (f 13) w)) (fun f w h => skip_ok h) f w (F3_s12_st R (rec8) _ f w h)
def F3_s17_t (R : Ending → World → Prop) (w : World) : Prop :=
  R (.returned (Go.Value.bool false)) w
theorem F3_s17_st (R : Ending → World → Prop) (X : Nat → Fr → World → Prop) (f : Fr) (w : World) (h : F3_s17_t R w) : wpE Try.prog F3_dc (resK Try.prog [.tmp 2] R) (panK R) (cL (cT (cR (cR (cR (cI (cL (cR (cR (cI (cI (cR (cL (cR (cR (cR (cR F3_b))))))))))))))))) (resK Try.prog [.tmp 2] R) X f w := Eq.mp (by kernel_rfl) h
def F3_s17 (R : Ending → World → Prop) (rec8 : Value → World → Prop) (w : World) : Prop :=
  F3_s17_t R w
noncomputable def F3_s17_c : Code := (.seq (cL (cT (cR (cR (cR (cI (cL (cR (cR (cI (cI (cR (cL (cR (cR (cR (cR F3_b))))))))))))))))) .ret)
theorem F3_s17_ok (R : Ending → World → Prop) (rec8 : Value → World → Prop) : ∀ f w, ((fun f w => F3_s17 R rec8 w)) f w → wpE Try.prog F3_dc (resK Try.prog [.tmp 2] R) (panK R) F3_s17_c (fun f w => F3_s12 R rec8 (f 3) (f 11) (f 12) (f 13) w) (kxB 1 ((fun f w => F3_s12 R rec8 (f 3) (f 11) (f 12) (f 13) w)) (kxB 0 ((fun f w => F3_s7 R w)) noX)) f w :=
  fun f w h => cut (cL (cT (cR (cR (cR (cI (cL (cR (cR (cI (cI (cR (cL (cR (cR (cR (cR F3_b))))))))))))))))) .ret (K := (resK Try.prog [.tmp 2] R)) (fun f w h => ret_ok h) f w (F3_s17_st R _ f w h)
def F3_s16 (R : Ending → World → Prop) (rec8 : Value → World → Prop) (v3 : Value) (v11 : Value) (v12 : Value) (v13 : Value) (v36 : Value) (w : World) : Prop :=
  Bc v36
    (F3_s17 R rec8 w)
    (F3_s12 R rec8 v3 v11 v12 v13 w)
noncomputable def F3_s16_c : Code := (.seq (cR (cR (cR (cI (cL (cR (cR (cI (cI (cR (cL (cR (cR (cR (cR F3_b))))))))))))))) .skip)
theorem F3_s16_e (R : Ending → World → Prop) (K : Fr → World → Prop) (X : Nat → Fr → World → Prop) (f : Fr) (w : World) (h : Bc (f 36) (wpE Try.prog F3_dc (resK Try.prog [.tmp 2] R) (panK R) F3_s17_c K X f w) (wpE Try.prog F3_dc (resK Try.prog [.tmp 2] R) (panK R) .skip K X f w)) : (wpE Try.prog F3_dc (resK Try.prog [.tmp 2] R) (panK R) (cR (cR (cR (cI (cL (cR (cR (cI (cI (cR (cL (cR (cR (cR (cR F3_b))))))))))))))) K X f w) := Eq.mp (by kernel_rfl) h
theorem F3_s16_ok (R : Ending → World → Prop) (rec8 : Value → World → Prop) : ∀ f w, ((fun f w => F3_s16 R rec8 (f 3) (f 11) (f 12) (f 13) (f 36) w)) f w → wpE Try.prog F3_dc (resK Try.prog [.tmp 2] R) (panK R) F3_s16_c (fun f w => F3_s12 R rec8 (f 3) (f 11) (f 12) (f 13) w) (kxB 1 ((fun f w => F3_s12 R rec8 (f 3) (f 11) (f 12) (f 13) w)) (kxB 0 ((fun f w => F3_s7 R w)) noX)) f w :=
  fun f w h => cut (cR (cR (cR (cI (cL (cR (cR (cI (cI (cR (cL (cR (cR (cR (cR F3_b))))))))))))))) .skip (K := (fun f w => F3_s12 R rec8 (f 3) (f 11) (f 12) (f 13) w)) (fun f w h => skip_ok h) f w (F3_s16_e R _ _ f w (Bc_imp (x' := (wpE Try.prog F3_dc (resK Try.prog [.tmp 2] R) (panK R) F3_s17_c (fun f w => F3_s12 R rec8 (f 3) (f 11) (f 12) (f 13) w) (kxB 1 ((fun f w => F3_s12 R rec8 (f 3) (f 11) (f 12) (f 13) w)) (kxB 0 ((fun f w => F3_s7 R w)) noX)) f w)) (y' := (wpE Try.prog F3_dc (resK Try.prog [.tmp 2] R) (panK R) .skip (fun f w => F3_s12 R rec8 (f 3) (f 11) (f 12) (f 13) w) (kxB 1 ((fun f w => F3_s12 R rec8 (f 3) (f 11) (f 12) (f 13) w)) (kxB 0 ((fun f w => F3_s7 R w)) noX)) f w)) ((F3_s17_ok R rec8) f w) ((fun f w h => skip_ok h) f w) h))
def F3_s15_t (R : Ending → World → Prop) (K : Value → Value → Value → Value → Value → World → Prop) (v3 : Value) (v11 : Value) (v12 : Value) (v13 : Value) (w : World) : Prop :=
  un Try.prog R (callFunc 13 #[v3]) w (fun v34 w => -- law.go:91
  un Try.prog R (callFunc 12 #[v34]) w (fun v35 w => -- law.go:91
  uv Try.prog R (Op.unary Go.UnOp.not v35) w (fun v36 w => -- law.go:91
  K v3 v11 v12 v13 v36 w)))
theorem F3_s15_st (R : Ending → World → Prop) (K : Value → Value → Value → Value → Value → World → Prop) (X : Nat → Fr → World → Prop) (f : Fr) (w : World) (h : F3_s15_t R K (f 3) (f 11) (f 12) (f 13) w) : wpE Try.prog F3_dc (resK Try.prog [.tmp 2] R) (panK R) (cL (cR (cR (cI (cL (cR (cR (cI (cI (cR (cL (cR (cR (cR (cR F3_b))))))))))))))) (fun f w => K (f 3) (f 11) (f 12) (f 13) (f 36) w) X f w := Eq.mp (by kernel_rfl) h
def F3_s15 (R : Ending → World → Prop) (rec8 : Value → World → Prop) (v3 : Value) (v11 : Value) (v12 : Value) (v13 : Value) (w : World) : Prop :=
  F3_s15_t R (F3_s16 R rec8) v3 v11 v12 v13 w
noncomputable def F3_s15_c : Code := (.seq (cL (cR (cR (cI (cL (cR (cR (cI (cI (cR (cL (cR (cR (cR (cR F3_b))))))))))))))) F3_s16_c)
theorem F3_s15_ok (R : Ending → World → Prop) (rec8 : Value → World → Prop) : ∀ f w, ((fun f w => F3_s15 R rec8 (f 3) (f 11) (f 12) (f 13) w)) f w → wpE Try.prog F3_dc (resK Try.prog [.tmp 2] R) (panK R) F3_s15_c (fun f w => F3_s12 R rec8 (f 3) (f 11) (f 12) (f 13) w) (kxB 1 ((fun f w => F3_s12 R rec8 (f 3) (f 11) (f 12) (f 13) w)) (kxB 0 ((fun f w => F3_s7 R w)) noX)) f w :=
  fun f w h => cut (cL (cR (cR (cI (cL (cR (cR (cI (cI (cR (cL (cR (cR (cR (cR F3_b))))))))))))))) F3_s16_c (K := (fun f w => F3_s16 R rec8 (f 3) (f 11) (f 12) (f 13) (f 36) w)) (F3_s16_ok R rec8) f w (F3_s15_st R (F3_s16 R rec8) _ f w h)
def F3_s18_t (R : Ending → World → Prop) (K : Value → Value → Value → Value → World → Prop) (v3 : Value) (v5 : Value) (v11 : Value) (v12 : Value) (v13 : Value) (w : World) : Prop :=
  uv Try.prog R (Instr.fieldAt 27 v5 1) w (fun v22 w => -- law.go:87
  uv Try.prog R (Instr.loadAt 3 v22) w (fun v23 w => -- law.go:87
  uv Try.prog R (Instr.fieldAt 27 v5 3) w (fun v24 w => -- law.go:87
  uv Try.prog R (Instr.loadAt 9 v24) w (fun v25 w => -- law.go:87
  uv Try.prog R (Instr.fieldAt 27 v5 2) w (fun v26 w => -- law.go:87
  uv Try.prog R (Instr.loadAt 3 v26) w (fun v27 w => -- law.go:87
  un Try.prog R (callFunc 10 #[v3, v23, v25, v27]) w (fun v28 w => -- law.go:87
  K v3 v11 v12 v13 w)))))))
theorem F3_s18_st (R : Ending → World → Prop) (K : Value → Value → Value → Value → World → Prop) (X : Nat → Fr → World → Prop) (f : Fr) (w : World) (h : F3_s18_t R K (f 3) (f 5) (f 11) (f 12) (f 13) w) : wpE Try.prog F3_dc (resK Try.prog [.tmp 2] R) (panK R) (cT (cR (cL (cR (cI (cL (cR (cR (cI (cI (cR (cL (cR (cR (cR (cR F3_b)))))))))))))))) (fun f w => K (f 3) (f 11) (f 12) (f 13) w) X f w := Eq.mp (by kernel_rfl) h
def F3_s18 (R : Ending → World → Prop) (rec8 : Value → World → Prop) (v3 : Value) (v5 : Value) (v11 : Value) (v12 : Value) (v13 : Value) (w : World) : Prop :=
  F3_s18_t R (F3_s15 R rec8) v3 v5 v11 v12 v13 w
noncomputable def F3_s18_c : Code := (.seq (cT (cR (cL (cR (cI (cL (cR (cR (cI (cI (cR (cL (cR (cR (cR (cR F3_b)))))))))))))))) .skip)
theorem F3_s18_ok (R : Ending → World → Prop) (rec8 : Value → World → Prop) : ∀ f w, ((fun f w => F3_s18 R rec8 (f 3) (f 5) (f 11) (f 12) (f 13) w)) f w → wpE Try.prog F3_dc (resK Try.prog [.tmp 2] R) (panK R) F3_s18_c (fun f w => F3_s15 R rec8 (f 3) (f 11) (f 12) (f 13) w) (kxB 1 ((fun f w => F3_s12 R rec8 (f 3) (f 11) (f 12) (f 13) w)) (kxB 0 ((fun f w => F3_s7 R w)) noX)) f w :=
  fun f w h => cut (cT (cR (cL (cR (cI (cL (cR (cR (cI (cI (cR (cL (cR (cR (cR (cR F3_b)))))))))))))))) .skip (K := (fun f w => F3_s15 R rec8 (f 3) (f 11) (f 12) (f 13) w)) (fun f w h => skip_ok h) f w (F3_s18_st R (F3_s15 R rec8) _ f w h)
def F3_s19_t (R : Ending → World → Prop) (K : Value → Value → Value → Value → World → Prop) (v3 : Value) (v5 : Value) (v11 : Value) (v12 : Value) (v13 : Value) (w : World) : Prop :=
  uv Try.prog R (Instr.fieldAt 27 v5 1) w (fun v30 w => -- law.go:89
  uv Try.prog R (Instr.loadAt 3 v30) w (fun v31 w => -- law.go:89
  un Try.prog R (callFunc 11 #[v3, v31]) w (fun v32 w => -- law.go:89
  K v3 v11 v12 v13 w)))
theorem F3_s19_st (R : Ending → World → Prop) (K : Value → Value → Value → Value → World → Prop) (X : Nat → Fr → World → Prop) (f : Fr) (w : World) (h : F3_s19_t R K (f 3) (f 5) (f 11) (f 12) (f 13) w) : wpE Try.prog F3_dc (resK Try.prog [.tmp 2] R) (panK R) (cF (cR (cL (cR (cI (cL (cR (cR (cI (cI (cR (cL (cR (cR (cR (cR F3_b)))))))))))))))) (fun f w => K (f 3) (f 11) (f 12) (f 13) w) X f w := Eq.mp (by kernel_rfl) h
def F3_s19 (R : Ending → World → Prop) (rec8 : Value → World → Prop) (v3 : Value) (v5 : Value) (v11 : Value) (v12 : Value) (v13 : Value) (w : World) : Prop :=
  F3_s19_t R (F3_s15 R rec8) v3 v5 v11 v12 v13 w
noncomputable def F3_s19_c : Code := (.seq (cF (cR (cL (cR (cI (cL (cR (cR (cI (cI (cR (cL (cR (cR (cR (cR F3_b)))))))))))))))) .skip)
theorem F3_s19_ok (R : Ending → World → Prop) (rec8 : Value → World → Prop) : ∀ f w, ((fun f w => F3_s19 R rec8 (f 3) (f 5) (f 11) (f 12) (f 13) w)) f w → wpE Try.prog F3_dc (resK Try.prog [.tmp 2] R) (panK R) F3_s19_c (fun f w => F3_s15 R rec8 (f 3) (f 11) (f 12) (f 13) w) (kxB 1 ((fun f w => F3_s12 R rec8 (f 3) (f 11) (f 12) (f 13) w)) (kxB 0 ((fun f w => F3_s7 R w)) noX)) f w :=
  fun f w h => cut (cF (cR (cL (cR (cI (cL (cR (cR (cI (cI (cR (cL (cR (cR (cR (cR F3_b)))))))))))))))) .skip (K := (fun f w => F3_s15 R rec8 (f 3) (f 11) (f 12) (f 13) w)) (fun f w h => skip_ok h) f w (F3_s19_st R (F3_s15 R rec8) _ f w h)
def F3_s14 (R : Ending → World → Prop) (rec8 : Value → World → Prop) (v3 : Value) (v5 : Value) (v11 : Value) (v12 : Value) (v13 : Value) (v20 : Value) (w : World) : Prop :=
  Bc v20
    (F3_s18 R rec8 v3 v5 v11 v12 v13 w)
    (F3_s19 R rec8 v3 v5 v11 v12 v13 w)
noncomputable def F3_s14_c : Code := (.seq (cR (cL (cR (cI (cL (cR (cR (cI (cI (cR (cL (cR (cR (cR (cR F3_b))))))))))))))) F3_s15_c)
theorem F3_s14_e (R : Ending → World → Prop) (K : Fr → World → Prop) (X : Nat → Fr → World → Prop) (f : Fr) (w : World) (h : Bc (f 20) (wpE Try.prog F3_dc (resK Try.prog [.tmp 2] R) (panK R) F3_s18_c K X f w) (wpE Try.prog F3_dc (resK Try.prog [.tmp 2] R) (panK R) F3_s19_c K X f w)) : (wpE Try.prog F3_dc (resK Try.prog [.tmp 2] R) (panK R) (cR (cL (cR (cI (cL (cR (cR (cI (cI (cR (cL (cR (cR (cR (cR F3_b))))))))))))))) K X f w) := Eq.mp (by kernel_rfl) h
theorem F3_s14_ok (R : Ending → World → Prop) (rec8 : Value → World → Prop) : ∀ f w, ((fun f w => F3_s14 R rec8 (f 3) (f 5) (f 11) (f 12) (f 13) (f 20) w)) f w → wpE Try.prog F3_dc (resK Try.prog [.tmp 2] R) (panK R) F3_s14_c (fun f w => F3_s12 R rec8 (f 3) (f 11) (f 12) (f 13) w) (kxB 1 ((fun f w => F3_s12 R rec8 (f 3) (f 11) (f 12) (f 13) w)) (kxB 0 ((fun f w => F3_s7 R w)) noX)) f w :=
  fun f w h => cut (cR (cL (cR (cI (cL (cR (cR (cI (cI (cR (cL (cR (cR (cR (cR F3_b))))))))))))))) F3_s15_c (K := (fun f w => F3_s15 R rec8 (f 3) (f 11) (f 12) (f 13) w)) (F3_s15_ok R rec8) f w (F3_s14_e R _ _ f w (Bc_imp (x' := (wpE Try.prog F3_dc (resK Try.prog [.tmp 2] R) (panK R) F3_s18_c (fun f w => F3_s15 R rec8 (f 3) (f 11) (f 12) (f 13) w) (kxB 1 ((fun f w => F3_s12 R rec8 (f 3) (f 11) (f 12) (f 13) w)) (kxB 0 ((fun f w => F3_s7 R w)) noX)) f w)) (y' := (wpE Try.prog F3_dc (resK Try.prog [.tmp 2] R) (panK R) F3_s19_c (fun f w => F3_s15 R rec8 (f 3) (f 11) (f 12) (f 13) w) (kxB 1 ((fun f w => F3_s12 R rec8 (f 3) (f 11) (f 12) (f 13) w)) (kxB 0 ((fun f w => F3_s7 R w)) noX)) f w)) ((F3_s18_ok R rec8) f w) ((F3_s19_ok R rec8) f w) h))
def F3_s13_t (R : Ending → World → Prop) (K : Value → Value → Value → Value → Value → Value → World → Prop) (v3 : Value) (v11 : Value) (v12 : Value) (v13 : Value) (w : World) : Prop :=
  uv Try.prog R (Instr.indexAt 22 v11 v13) w (fun v15 w => -- law.go:85
  uv Try.prog R (Instr.loadAt 27 v15) w (fun v16 w => -- law.go:85
  uv Try.prog R (Instr.alloc 27 true (.tuple #[])) w (fun v5 w => -- law.go:85
  uu Try.prog R (Instr.storeAt 27 v5 v16) w (fun w => -- law.go:85
  uv Try.prog R (Instr.fieldAt 27 v5 0) w (fun v17 w => -- law.go:86
  uv Try.prog R (Instr.loadAt 3 v17) w (fun v18 w => -- law.go:86
  uv Try.prog R (binS Go.BinOp.and 3 (.tmp 18) (.const (Go.Value.int Go.IntKind.i64 3)) v18 (Go.Value.int Go.IntKind.i64 3)) w (fun v19 w => -- law.go:86
  uv Try.prog R (binS Go.BinOp.lss 3 (.tmp 19) (.const (Go.Value.int Go.IntKind.i64 3)) v19 (Go.Value.int Go.IntKind.i64 3)) w (fun v20 w => -- law.go:86
  K v3 v5 v11 v12 v13 v20 w))))))))
theorem F3_s13_st (R : Ending → World → Prop) (K : Value → Value → Value → Value → Value → Value → World → Prop) (X : Nat → Fr → World → Prop) (f : Fr) (w : World) (h : F3_s13_t R K (f 3) (f 11) (f 12) (f 13) w) : wpE Try.prog F3_dc (resK Try.prog [.tmp 2] R) (panK R) (.seq (cL (cI (cL (cR (cR (cI (cI (cR (cL (cR (cR (cR (cR F3_b))))))))))))) (cL (cL (cR (cI (cL (cR (cR (cI (cI (cR (cL (cR (cR (cR (cR F3_b)))))))))))))))) (fun f w => K (f 3) (f 5) (f 11) (f 12) (f 13) (f 20) w) X f w := Eq.mp (by kernel_rfl) h
def F3_s13 (R : Ending → World → Prop) (rec8 : Value → World → Prop) (v3 : Value) (v11 : Value) (v12 : Value) (v13 : Value) (w : World) : Prop :=
  F3_s13_t R (F3_s14 R rec8) v3 v11 v12 v13 w
noncomputable def F3_s13_c : Code := (.seq (.seq (cL (cI (cL (cR (cR (cI (cI (cR (cL (cR (cR (cR (cR F3_b))))))))))))) (cL (cL (cR (cI (cL (cR (cR (cI (cI (cR (cL (cR (cR (cR (cR F3_b)))))))))))))))) F3_s14_c)
theorem F3_s13_ok (R : Ending → World → Prop) (rec8 : Value → World → Prop) : ∀ f w, ((fun f w => F3_s13 R rec8 (f 3) (f 11) (f 12) (f 13) w)) f w → wpE Try.prog F3_dc (resK Try.prog [.tmp 2] R) (panK R) F3_s13_c (fun f w => F3_s12 R rec8 (f 3) (f 11) (f 12) (f 13) w) (kxB 1 ((fun f w => F3_s12 R rec8 (f 3) (f 11) (f 12) (f 13) w)) (kxB 0 ((fun f w => F3_s7 R w)) noX)) f w :=
  fun f w h => cut (.seq (cL (cI (cL (cR (cR (cI (cI (cR (cL (cR (cR (cR (cR F3_b))))))))))))) (cL (cL (cR (cI (cL (cR (cR (cI (cI (cR (cL (cR (cR (cR (cR F3_b)))))))))))))))) F3_s14_c (K := (fun f w => F3_s14 R rec8 (f 3) (f 5) (f 11) (f 12) (f 13) (f 20) w)) (F3_s14_ok R rec8) f w (F3_s13_st R (F3_s14 R rec8) _ f w h)
noncomputable def F3_s11_c : Code := (.seq (cL (cR (cR (cI (cI (cR (cL (cR (cR (cR (cR F3_b))))))))))) F3_s12_c)
theorem F3_s11_e (R : Ending → World → Prop) (K : Fr → World → Prop) (X : Nat → Fr → World → Prop) (f : Fr) (w : World) (h : wpE Try.prog F3_dc (resK Try.prog [.tmp 2] R) (panK R) F3_s13_c K (kxB 1 K X) f w) : wpE Try.prog F3_dc (resK Try.prog [.tmp 2] R) (panK R) (cL (cR (cR (cI (cI (cR (cL (cR (cR (cR (cR F3_b))))))))))) K X f w := Eq.mp (by kernel_rfl) h
theorem F3_s11_ok (R : Ending → World → Prop) (rec8 : Value → World → Prop) : ∀ f w, ((fun f w => F3_s13 R rec8 (f 3) (f 11) (f 12) (f 13) w)) f w → wpE Try.prog F3_dc (resK Try.prog [.tmp 2] R) (panK R) F3_s11_c (fun f w => rec8 (f 13) w) (kxB 0 ((fun f w => F3_s7 R w)) noX) f w :=
  fun f w h => cut (cL (cR (cR (cI (cI (cR (cL (cR (cR (cR (cR F3_b))))))))))) F3_s12_c (K := (fun f w => F3_s12 R rec8 (f 3) (f 11) (f 12) (f 13) w)) (F3_s12_ok R rec8) f w (F3_s11_e R _ _ f w ((F3_s13_ok R rec8) f w h))
def F3_s10 (R : Ending → World → Prop) (rec8 : Value → World → Prop) (v3 : Value) (v11 : Value) (v12 : Value) (v13 : Value) (v14 : Value) (w : World) : Prop :=
  Bc v14
    (F3_s13 R rec8 v3 v11 v12 v13 w)
    (F3_s7 R w)
noncomputable def F3_s10_c : Code := (.seq (cL (cR (cI (cI (cR (cL (cR (cR (cR (cR F3_b)))))))))) F3_s11_c)
theorem F3_s10_e (R : Ending → World → Prop) (K : Fr → World → Prop) (X : Nat → Fr → World → Prop) (f : Fr) (w : World) (h : Bc (f 14) (wpE Try.prog F3_dc (resK Try.prog [.tmp 2] R) (panK R) .skip K X f w) (wpE Try.prog F3_dc (resK Try.prog [.tmp 2] R) (panK R) (.exit 0) K X f w)) : (wpE Try.prog F3_dc (resK Try.prog [.tmp 2] R) (panK R) (cL (cR (cI (cI (cR (cL (cR (cR (cR (cR F3_b)))))))))) K X f w) := Eq.mp (by kernel_rfl) h
theorem F3_s10_ok (R : Ending → World → Prop) (rec8 : Value → World → Prop) : ∀ f w, ((fun f w => F3_s10 R rec8 (f 3) (f 11) (f 12) (f 13) (f 14) w)) f w → wpE Try.prog F3_dc (resK Try.prog [.tmp 2] R) (panK R) F3_s10_c (fun f w => rec8 (f 13) w) (kxB 0 ((fun f w => F3_s7 R w)) noX) f w :=
  fun f w h => cut (cL (cR (cI (cI (cR (cL (cR (cR (cR (cR F3_b)))))))))) F3_s11_c (K := (fun f w => F3_s13 R rec8 (f 3) (f 11) (f 12) (f 13) w)) (F3_s11_ok R rec8) f w (F3_s10_e R _ _ f w (Bc_imp (x' := (wpE Try.prog F3_dc (resK Try.prog [.tmp 2] R) (panK R) .skip (fun f w => F3_s13 R rec8 (f 3) (f 11) (f 12) (f 13) w) (kxB 0 ((fun f w => F3_s7 R w)) noX) f w)) (y' := (wpE Try.prog F3_dc (resK Try.prog [.tmp 2] R) (panK R) (.exit 0) (fun f w => F3_s13 R rec8 (f 3) (f 11) (f 12) (f 13) w) (kxB 0 ((fun f w => F3_s7 R w)) noX) f w)) ((fun f w h => skip_ok h) f w) ((fun f w h => exit_hit h) f w) h))
def F3_s9_t (R : Ending → World → Prop) (K : Value → Value → Value → Value → Value → World → Prop) (v3 : Value) (v11 : Value) (v12 : Value) (v13 : Value) (w : World) : Prop :=
  uv Try.prog R (binS Go.BinOp.lss 3 (.tmp 13) (.tmp 12) v13 v12) w (fun v14 w => -- law.go:85
  K v3 v11 v12 v13 v14 w)
theorem F3_s9_st (R : Ending → World → Prop) (K : Value → Value → Value → Value → Value → World → Prop) (X : Nat → Fr → World → Prop) (f : Fr) (w : World) (h : F3_s9_t R K (f 3) (f 11) (f 12) (f 13) w) : wpE Try.prog F3_dc (resK Try.prog [.tmp 2] R) (panK R) (cL (cI (cI (cR (cL (cR (cR (cR (cR F3_b))))))))) (fun f w => K (f 3) (f 11) (f 12) (f 13) (f 14) w) X f w := Eq.mp (by kernel_rfl) h
def F3_s9 (R : Ending → World → Prop) (rec8 : Value → World → Prop) (v3 : Value) (v11 : Value) (v12 : Value) (v13 : Value) (w : World) : Prop :=
  F3_s9_t R (F3_s10 R rec8) v3 v11 v12 v13 w
noncomputable def F3_s9_c : Code := (.seq (cL (cI (cI (cR (cL (cR (cR (cR (cR F3_b))))))))) F3_s10_c)
theorem F3_s9_ok (R : Ending → World → Prop) (rec8 : Value → World → Prop) : ∀ f w, ((fun f w => F3_s9 R rec8 (f 3) (f 11) (f 12) (f 13) w)) f w → wpE Try.prog F3_dc (resK Try.prog [.tmp 2] R) (panK R) F3_s9_c (fun f w => rec8 (f 13) w) (kxB 0 ((fun f w => F3_s7 R w)) noX) f w :=
  fun f w h => cut (cL (cI (cI (cR (cL (cR (cR (cR (cR F3_b))))))))) F3_s10_c (K := (fun f w => F3_s10 R rec8 (f 3) (f 11) (f 12) (f 13) (f 14) w)) (F3_s10_ok R rec8) f w (F3_s9_st R (F3_s10 R rec8) _ f w h)
def F3_s8 (R : Ending → World → Prop) (v3 : Value) (v11 : Value) (v12 : Value) (v13 : Value) (w : World) : Prop :=
  Lp1 (fun rec8 v13 w => F3_s9 R rec8 v3 v11 v12 v13 w) v13 w
theorem F3_s8_e (R : Ending → World → Prop) (K : Fr → World → Prop) (X : Nat → Fr → World → Prop) (f : Fr) (w : World) (h : wpE Try.prog F3_dc (resK Try.prog [.tmp 2] R) (panK R) (.loop (cI (cI (cR (cL (cR (cR (cR (cR F3_b))))))))) K X f w) : wpE Try.prog F3_dc (resK Try.prog [.tmp 2] R) (panK R) (cI (cR (cL (cR (cR (cR (cR F3_b))))))) K X f w := Eq.mp (by kernel_rfl) h
theorem F3_s8b_e (R : Ending → World → Prop) (K : Fr → World → Prop) (X : Nat → Fr → World → Prop) (f : Fr) (w : World) (h : wpE Try.prog F3_dc (resK Try.prog [.tmp 2] R) (panK R) F3_s9_c K X f w) : wpE Try.prog F3_dc (resK Try.prog [.tmp 2] R) (panK R) (cI (cI (cR (cL (cR (cR (cR (cR F3_b)))))))) K X f w := Eq.mp (by kernel_rfl) h
theorem F3_s8_ok (R : Ending → World → Prop) : ∀ f w, ((fun f w => F3_s8 R (f 3) (f 11) (f 12) (f 13) w)) f w → wpE Try.prog F3_dc (resK Try.prog [.tmp 2] R) (panK R) (cI (cR (cL (cR (cR (cR (cR F3_b))))))) (fun f w => F3_s7 R w) (kxB 0 ((fun f w => F3_s7 R w)) noX) f w :=
  fun f w h => F3_s8_e R _ _ f w (loop1_ok (P := Try.prog) (dc := F3_dc) (kr := (resK Try.prog [.tmp 2] R)) (pan := panK R) (cI (cI (cR (cL (cR (cR (cR (cR F3_b)))))))) (kn := (fun f w => F3_s7 R w)) (kx := (kxB 0 ((fun f w => F3_s7 R w)) noX)) (s0 := 13) (fun rec8 v13 w => F3_s9 R rec8 (f 3) (f 11) (f 12) v13 w) f (fun rec8 f' w' hf h' => F3_s8b_e R _ _ f' w' ((F3_s9_ok R rec8) f' w' (by simp only [hf 3 (by kernel_rfl), hf 11 (by kernel_rfl), hf 12 (by kernel_rfl)]; exact h'))) w h)
noncomputable def F3_s6_c : Code := (.seq (cR (cL (cR (cR (cR (cR F3_b)))))) F3_s7_c)
theorem F3_s6_e (R : Ending → World → Prop) (K : Fr → World → Prop) (X : Nat → Fr → World → Prop) (f : Fr) (w : World) (h : wpE Try.prog F3_dc (resK Try.prog [.tmp 2] R) (panK R) (cI (cR (cL (cR (cR (cR (cR F3_b))))))) K (kxB 0 K X) f w) : wpE Try.prog F3_dc (resK Try.prog [.tmp 2] R) (panK R) (cR (cL (cR (cR (cR (cR F3_b)))))) K X f w := Eq.mp (by kernel_rfl) h
theorem F3_s6_ok (R : Ending → World → Prop) : ∀ f w, ((fun f w => F3_s8 R (f 3) (f 11) (f 12) (f 13) w)) f w → wpE Try.prog F3_dc (resK Try.prog [.tmp 2] R) (panK R) F3_s6_c (resK Try.prog [.tmp 2] R) noX f w :=
  fun f w h => cut (cR (cL (cR (cR (cR (cR F3_b)))))) F3_s7_c (K := (fun f w => F3_s7 R w)) (F3_s7_ok R) f w (F3_s6_e R _ _ f w ((F3_s8_ok R) f w h))
def F3_s5_t (R : Ending → World → Prop) (K : Value → Value → Value → Value → World → Prop) (v0 : Value) (v3 : Value) (w : World) : Prop :=
  un Try.prog R (builtin Go.Builtin.len #[22] 3 #[false] #[v0]) w (fun v12 w => -- law.go:85
  K v3 v0 v12 (Go.Value.int Go.IntKind.i64 0) w)
theorem F3_s5_st (R : Ending → World → Prop) (K : Value → Value → Value → Value → World → Prop) (X : Nat → Fr → World → Prop) (f : Fr) (w : World) (h : F3_s5_t R K (f 0) (f 3) w) : wpE Try.prog F3_dc (resK Try.prog [.tmp 2] R) (panK R) (cL (cL (cR (cR (cR (cR F3_b)))))) (fun f w => K (f 3) (f 11) (f 12) (f 13) w) X f w := Eq.mp (by kernel_rfl) h
def F3_s5 (R : Ending → World → Prop) (v0 : Value) (v3 : Value) (w : World) : Prop :=
  F3_s5_t R (F3_s8 R) v0 v3 w
noncomputable def F3_s5_c : Code := (.seq (cL (cL (cR (cR (cR (cR F3_b)))))) F3_s6_c)
theorem F3_s5_ok (R : Ending → World → Prop) : ∀ f w, ((fun f w => F3_s5 R (f 0) (f 3) w)) f w → wpE Try.prog F3_dc (resK Try.prog [.tmp 2] R) (panK R) F3_s5_c (resK Try.prog [.tmp 2] R) noX f w :=
  fun f w h => cut (cL (cL (cR (cR (cR (cR F3_b)))))) F3_s6_c (K := (fun f w => F3_s8 R (f 3) (f 11) (f 12) (f 13) w)) (F3_s6_ok R) f w (F3_s5_st R (F3_s8 R) _ f w h)
def F3_s20_t (R : Ending → World → Prop) (w : World) : Prop :=
  R (.returned (Go.Value.bool false)) w
theorem F3_s20_st (R : Ending → World → Prop) (X : Nat → Fr → World → Prop) (f : Fr) (w : World) (h : F3_s20_t R w) : wpE Try.prog F3_dc (resK Try.prog [.tmp 2] R) (panK R) (cL (cT (cR (cL (cR (cR (cR F3_b))))))) (resK Try.prog [.tmp 2] R) X f w := Eq.mp (by kernel_rfl) h
def F3_s20 (R : Ending → World → Prop) (w : World) : Prop :=
  F3_s20_t R w
noncomputable def F3_s20_c : Code := (.seq (cL (cT (cR (cL (cR (cR (cR F3_b))))))) .ret)
theorem F3_s20_ok (R : Ending → World → Prop) : ∀ f w, ((fun f w => F3_s20 R w)) f w → wpE Try.prog F3_dc (resK Try.prog [.tmp 2] R) (panK R) F3_s20_c (fun f w => F3_s5 R (f 0) (f 3) w) noX f w :=
  fun f w h => cut (cL (cT (cR (cL (cR (cR (cR F3_b))))))) .ret (K := (resK Try.prog [.tmp 2] R)) (fun f w h => ret_ok h) f w (F3_s20_st R _ f w h)
def F3_s4 (R : Ending → World → Prop) (v0 : Value) (v3 : Value) (v10 : Value) (w : World) : Prop :=
  Bc v10
    (F3_s20 R w)
    (F3_s5 R v0 v3 w)
noncomputable def F3_s4_c : Code := (.seq (cR (cL (cR (cR (cR F3_b))))) F3_s5_c)
theorem F3_s4_e (R : Ending → World → Prop) (K : Fr → World → Prop) (X : Nat → Fr → World → Prop) (f : Fr) (w : World) (h : Bc (f 10) (wpE Try.prog F3_dc (resK Try.prog [.tmp 2] R) (panK R) F3_s20_c K X f w) (wpE Try.prog F3_dc (resK Try.prog [.tmp 2] R) (panK R) .skip K X f w)) : (wpE Try.prog F3_dc (resK Try.prog [.tmp 2] R) (panK R) (cR (cL (cR (cR (cR F3_b))))) K X f w) := Eq.mp (by kernel_rfl) h
theorem F3_s4_ok (R : Ending → World → Prop) : ∀ f w, ((fun f w => F3_s4 R (f 0) (f 3) (f 10) w)) f w → wpE Try.prog F3_dc (resK Try.prog [.tmp 2] R) (panK R) F3_s4_c (resK Try.prog [.tmp 2] R) noX f w :=
  fun f w h => cut (cR (cL (cR (cR (cR F3_b))))) F3_s5_c (K := (fun f w => F3_s5 R (f 0) (f 3) w)) (F3_s5_ok R) f w (F3_s4_e R _ _ f w (Bc_imp (x' := (wpE Try.prog F3_dc (resK Try.prog [.tmp 2] R) (panK R) F3_s20_c (fun f w => F3_s5 R (f 0) (f 3) w) noX f w)) (y' := (wpE Try.prog F3_dc (resK Try.prog [.tmp 2] R) (panK R) .skip (fun f w => F3_s5 R (f 0) (f 3) w) noX f w)) ((F3_s20_ok R) f w) ((fun f w h => skip_ok h) f w) h))
def F3_s3_t (R : Ending → World → Prop) (K : Value → Value → Value → World → Prop) (v0 : Value) (w : World) : Prop :=
  un Try.prog R (callFunc 9 #[]) w (fun v8 w => -- law.go:81
  uv Try.prog R (binS Go.BinOp.eql 24 (.tmp 9) (.const (Go.Value.pointer none)) v8 (Go.Value.pointer none)) w (fun v10 w => -- law.go:82
  K v0 v8 v10 w))
theorem F3_s3_st (R : Ending → World → Prop) (K : Value → Value → Value → World → Prop) (X : Nat → Fr → World → Prop) (f : Fr) (w : World) (h : F3_s3_t R K (f 0) w) : wpE Try.prog F3_dc (resK Try.prog [.tmp 2] R) (panK R) (.seq (cL (cR (cR F3_b))) (cL (cL (cR (cR (cR F3_b)))))) (fun f w => K (f 0) (f 3) (f 10) w) X f w := Eq.mp (by kernel_rfl) h
def F3_s3 (R : Ending → World → Prop) (v0 : Value) (w : World) : Prop :=
  F3_s3_t R (F3_s4 R) v0 w
noncomputable def F3_s3_c : Code := (.seq (.seq (cL (cR (cR F3_b))) (cL (cL (cR (cR (cR F3_b)))))) F3_s4_c)
theorem F3_s3_ok (R : Ending → World → Prop) : ∀ f w, ((fun f w => F3_s3 R (f 0) w)) f w → wpE Try.prog F3_dc (resK Try.prog [.tmp 2] R) (panK R) F3_s3_c (resK Try.prog [.tmp 2] R) noX f w :=
  fun f w h => cut (.seq (cL (cR (cR F3_b))) (cL (cL (cR (cR (cR F3_b)))))) F3_s4_c (K := (fun f w => F3_s4 R (f 0) (f 3) (f 10) w)) (F3_s4_ok R) f w (F3_s3_st R (F3_s4 R) _ f w h)
def F3_s21_t (R : Ending → World → Prop) (w : World) : Prop :=
  R (.returned (Go.Value.bool false)) w
theorem F3_s21_st (R : Ending → World → Prop) (X : Nat → Fr → World → Prop) (f : Fr) (w : World) (h : F3_s21_t R w) : wpE Try.prog F3_dc (resK Try.prog [.tmp 2] R) (panK R) (cL (cT (cR (cL (cR F3_b))))) (resK Try.prog [.tmp 2] R) X f w := Eq.mp (by kernel_rfl) h
def F3_s21 (R : Ending → World → Prop) (w : World) : Prop :=
  F3_s21_t R w
noncomputable def F3_s21_c : Code := (.seq (cL (cT (cR (cL (cR F3_b))))) .ret)
theorem F3_s21_ok (R : Ending → World → Prop) : ∀ f w, ((fun f w => F3_s21 R w)) f w → wpE Try.prog F3_dc (resK Try.prog [.tmp 2] R) (panK R) F3_s21_c (fun f w => F3_s3 R (f 0) w) noX f w :=
  fun f w h => cut (cL (cT (cR (cL (cR F3_b))))) .ret (K := (resK Try.prog [.tmp 2] R)) (fun f w h => ret_ok h) f w (F3_s21_st R _ f w h)
def F3_s2 (R : Ending → World → Prop) (v0 : Value) (v7 : Value) (w : World) : Prop :=
  Bc v7
    (F3_s21 R w)
    (F3_s3 R v0 w)
noncomputable def F3_s2_c : Code := (.seq (cR (cL (cR F3_b))) F3_s3_c)
theorem F3_s2_e (R : Ending → World → Prop) (K : Fr → World → Prop) (X : Nat → Fr → World → Prop) (f : Fr) (w : World) (h : Bc (f 7) (wpE Try.prog F3_dc (resK Try.prog [.tmp 2] R) (panK R) F3_s21_c K X f w) (wpE Try.prog F3_dc (resK Try.prog [.tmp 2] R) (panK R) .skip K X f w)) : (wpE Try.prog F3_dc (resK Try.prog [.tmp 2] R) (panK R) (cR (cL (cR F3_b))) K X f w) := Eq.mp (by kernel_rfl) h
theorem F3_s2_ok (R : Ending → World → Prop) : ∀ f w, ((fun f w => F3_s2 R (f 0) (f 7) w)) f w → wpE Try.prog F3_dc (resK Try.prog [.tmp 2] R) (panK R) F3_s2_c (resK Try.prog [.tmp 2] R) noX f w :=
  fun f w h => cut (cR (cL (cR F3_b))) F3_s3_c (K := (fun f w => F3_s3 R (f 0) w)) (F3_s3_ok R) f w (F3_s2_e R _ _ f w (Bc_imp (x' := (wpE Try.prog F3_dc (resK Try.prog [.tmp 2] R) (panK R) F3_s21_c (fun f w => F3_s3 R (f 0) w) noX f w)) (y' := (wpE Try.prog F3_dc (resK Try.prog [.tmp 2] R) (panK R) .skip (fun f w => F3_s3 R (f 0) w) noX f w)) ((F3_s21_ok R) f w) ((fun f w h => skip_ok h) f w) h))
def F3_s1_t (R : Ending → World → Prop) (K : Value → Value → World → Prop) (v0 : Value) (w : World) : Prop :=
  un Try.prog R (callFunc 8 #[]) w (fun v6 w => -- law.go:78
  uv Try.prog R (Op.unary Go.UnOp.not v6) w (fun v7 w => -- law.go:78
  K v0 v7 w))
theorem F3_s1_st (R : Ending → World → Prop) (K : Value → Value → World → Prop) (X : Nat → Fr → World → Prop) (f : Fr) (w : World) (h : F3_s1_t R K (f 0) w) : wpE Try.prog F3_dc (resK Try.prog [.tmp 2] R) (panK R) (.seq (cL F3_b) (cL (cL (cR F3_b)))) (fun f w => K (f 0) (f 7) w) X f w := Eq.mp (by kernel_rfl) h
def F3_s1 (R : Ending → World → Prop) (v0 : Value) (w : World) : Prop :=
  F3_s1_t R (F3_s2 R) v0 w
noncomputable def F3_s1_c : Code := (.seq (.seq (cL F3_b) (cL (cL (cR F3_b)))) F3_s2_c)
theorem F3_s1_ok (R : Ending → World → Prop) : ∀ f w, ((fun f w => F3_s1 R (f 0) w)) f w → wpE Try.prog F3_dc (resK Try.prog [.tmp 2] R) (panK R) F3_s1_c (resK Try.prog [.tmp 2] R) noX f w :=
  fun f w h => cut (.seq (cL F3_b) (cL (cL (cR F3_b)))) F3_s2_c (K := (fun f w => F3_s2 R (f 0) (f 7) w)) (F3_s2_ok R) f w (F3_s1_st R (F3_s2 R) _ f w h)
theorem F3_all_e (R : Ending → World → Prop) (K : Fr → World → Prop) (X : Nat → Fr → World → Prop) (f : Fr) (w : World) (h : wpE Try.prog F3_dc (resK Try.prog [.tmp 2] R) (panK R) F3_s1_c K X f w) : wpE Try.prog F3_dc (resK Try.prog [.tmp 2] R) (panK R) F3_b K X f w := Eq.mp (by kernel_rfl) h
theorem F3_calls (R : Ending → World → Prop) (v0 : Value) (w : World) (h : F3_s1 R v0 w) : Calls Try.prog 3 #[v0] w R :=
  calls_of_wpE (dc := F3_dc) (args := [v0]) hmixed Try.func3 (c := F3_b) rfl (rs := [.tmp 2]) rfl (by kernel_rfl) (Nat.le_of_ble_eq_true (by kernel_rfl)) (F3_all_e R _ _ _ w ((F3_s1_ok R) (initFr [v0]) w h))

end Go.Proofs.Ytpghlemcgjogpaa
