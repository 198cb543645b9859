import Derived.Test.YtpghlemcgjogpaaProg
import Derived.Test.YtpghlemcgjogpaaSx
import Derived.Test.YtpghlemcgjogpaaT
set_option linter.unusedVariables false
set_option maxRecDepth 100000
set_option maxHeartbeats 400000
namespace Go.Proofs.Ytpghlemcgjogpaa
open Go.Sx
/-! ### hasp/haspref10.Clean -/
noncomputable def F12_b : Code := bodyOf Try.f12
def F12_dc : Nat → List (Nat × Bool)
  | 7 => [(0, true), (1, true), (2, true), (3, true), (4, true), (5, true), (6, true), (7, true), (8, true), (9, true), (10, true), (11, true), (12, true), (13, true), (14, true), (15, true), (16, true), (17, true), (18, true), (19, true), (20, true), (21, true), (22, true), (23, true), (24, true), (25, true), (26, true), (27, true), (28, true), (29, true), (30, true), (31, true), (32, true), (33, true), (34, false), (35, true), (36, true), (37, true)]
  | _ => []
def F12_s3_t (R : Ending → World → Prop) (w : World) : Prop :=
  R (.returned (Go.Value.bool true)) w
theorem F12_s3_st (R : Ending → World → Prop) (X : Nat → Fr → World → Prop) (f : Fr) (w : World) (h : F12_s3_t R w) : wpE Try.prog F12_dc (resK Try.prog [.tmp 2] R) (panK R) (cL (cR (cR F12_b))) (resK Try.prog [.tmp 2] R) X f w := Eq.mp (by kernel_rfl) h
def F12_s3 (R : Ending → World → Prop) (w : World) : Prop :=
  F12_s3_t R w
noncomputable def F12_s3_c : Code := (.seq (cL (cR (cR F12_b))) .ret)
theorem F12_s3_ok (R : Ending → World → Prop) : ∀ f w, ((fun f w => F12_s3 R w)) f w → wpE Try.prog F12_dc (resK Try.prog [.tmp 2] R) (panK R) F12_s3_c (resK Try.prog [.tmp 2] R) noX f w :=
  fun f w h => cut (cL (cR (cR F12_b))) .ret (K := (resK Try.prog [.tmp 2] R)) (fun f w h => ret_ok h) f w (F12_s3_st R _ f w h)
def F12_s8_t (R : Ending → World → Prop) (K : Value → World → Prop) (v0 : Value) (v3 : Value) (w : World) : Prop :=
  uv Try.prog R (binS Go.BinOp.add 3 (.tmp 9) (.const (Go.Value.int Go.IntKind.i64 1)) v3 (Go.Value.int Go.IntKind.i64 1)) w (fun v10 w => -- ref.go:218
  K v10 w)
theorem F12_s8_st (R : Ending → World → Prop) (K : Value → World → Prop) (X : Nat → Fr → World → Prop) (f : Fr) (w : World) (h : F12_s8_t R K (f 0) (f 3) w) : wpE Try.prog F12_dc (resK Try.prog [.tmp 2] R) (panK R) (cR (cR (cI (cI (cR (cL (cR F12_b))))))) (fun f w => K (f 3) w) X f w := Eq.mp (by kernel_rfl) h
def F12_s8 (R : Ending → World → Prop) (rec4 : Value → World → Prop) (v0 : Value) (v3 : Value) (w : World) : Prop :=
  F12_s8_t R (rec4) v0 v3 w
noncomputable def F12_s8_c : Code := (.seq (cR (cR (cI (cI (cR (cL (cR F12_b))))))) .skip)
theorem F12_s8_ok (R : Ending → World → Prop) (rec4 : Value → World → Prop) : ∀ f w, ((fun f w => F12_s8 R rec4 (f 0) (f 3) w)) f w → wpE Try.prog F12_dc (resK Try.prog [.tmp 2] R) (panK R) F12_s8_c (fun f w => rec4 (f 3) w) (kxB 0 ((fun f w => F12_s3 R w)) noX) f w :=
  fun f w h => cut (cR (cR (cI (cI (cR (cL (cR F12_b))))))) .skip (K := (fun f w => rec4 (f 3) w)) (fun f w h => skip_ok h) f w (F12_s8_st R (rec4) _ f w h)
def F12_s15_t (R : Ending → World → Prop) (K : Value → World → Prop) (v0 : Value) (v3 : Value) (v4 : Value) (w : World) : Prop :=
  uv Try.prog R (binS Go.BinOp.add 3 (.tmp 14) (.const (Go.Value.int Go.IntKind.i64 1)) v4 (Go.Value.int Go.IntKind.i64 1)) w (fun v15 w => -- ref.go:219
  K v15 w)
theorem F12_s15_st (R : Ending → World → Prop) (K : Value → World → Prop) (X : Nat → Fr → World → Prop) (f : Fr) (w : World) (h : F12_s15_t R K (f 0) (f 3) (f 4) w) : wpE Try.prog F12_dc (resK Try.prog [.tmp 2] R) (panK R) (cR (cR (cI (cI (cR (cI (cL (cR (cI (cI (cR (cL (cR F12_b))))))))))))) (fun f w => K (f 4) w) X f w := Eq.mp (by kernel_rfl) h
def F12_s15 (R : Ending → World → Prop) (rec4 : Value → World → Prop) (rec11 : Value → World → Prop) (v0 : Value) (v3 : Value) (v4 : Value) (w : World) : Prop :=
  F12_s15_t R (rec11) v0 v3 v4 w
noncomputable def F12_s15_c : Code := (.seq (cR (cR (cI (cI (cR (cI (cL (cR (cI (cI (cR (cL (cR F12_b))))))))))))) .skip)
theorem F12_s15_ok (R : Ending → World → Prop) (rec4 : Value → World → Prop) (rec11 : Value → World → Prop) : ∀ f w, ((fun f w => F12_s15 R rec4 rec11 (f 0) (f 3) (f 4) w)) f w → wpE Try.prog F12_dc (resK Try.prog [.tmp 2] R) (panK R) F12_s15_c (fun f w => rec11 (f 4) w) (kxB 2 ((fun f w => F12_s8 R rec4 (f 0) (f 3) w)) (kxB 1 ((fun f w => F12_s8 R rec4 (f 0) (f 3) w)) (kxB 0 ((fun f w => F12_s3 R w)) noX))) f w :=
  fun f w h => cut (cR (cR (cI (cI (cR (cI (cL (cR (cI (cI (cR (cL (cR F12_b))))))))))))) .skip (K := (fun f w => rec11 (f 4) w)) (fun f w h => skip_ok h) f w (F12_s15_st R (rec11) _ f w h)
def F12_s18_t (R : Ending → World → Prop) (w : World) : Prop :=
  R (.returned (Go.Value.bool false)) w
theorem F12_s18_st (R : Ending → World → Prop) (X : Nat → Fr → World → Prop) (f : Fr) (w : World) (h : F12_s18_t R w) : wpE Try.prog F12_dc (resK Try.prog [.tmp 2] R) (panK R) (cL (cT (cR (cI (cL (cR (cI (cI (cR (cI (cL (cR (cI (cI (cR (cL (cR F12_b))))))))))))))))) (resK Try.prog [.tmp 2] R) X f w := Eq.mp (by kernel_rfl) h
def F12_s18 (R : Ending → World → Prop) (rec4 : Value → World → Prop) (rec11 : Value → World → Prop) (w : World) : Prop :=
  F12_s18_t R w
noncomputable def F12_s18_c : Code := (.seq (cL (cT (cR (cI (cL (cR (cI (cI (cR (cI (cL (cR (cI (cI (cR (cL (cR F12_b))))))))))))))))) .ret)
theorem F12_s18_ok (R : Ending → World → Prop) (rec4 : Value → World → Prop) (rec11 : Value → World → Prop) : ∀ f w, ((fun f w => F12_s18 R rec4 rec11 w)) f w → wpE Try.prog F12_dc (resK Try.prog [.tmp 2] R) (panK R) F12_s18_c (fun f w => F12_s15 R rec4 rec11 (f 0) (f 3) (f 4) w) (kxB 3 ((fun f w => F12_s15 R rec4 rec11 (f 0) (f 3) (f 4) w)) (kxB 2 ((fun f w => F12_s8 R rec4 (f 0) (f 3) w)) (kxB 1 ((fun f w => F12_s8 R rec4 (f 0) (f 3) w)) (kxB 0 ((fun f w => F12_s3 R w)) noX)))) f w :=
  fun f w h => cut (cL (cT (cR (cI (cL (cR (cI (cI (cR (cI (cL (cR (cI (cI (cR (cL (cR F12_b))))))))))))))))) .ret (K := (resK Try.prog [.tmp 2] R)) (fun f w h => ret_ok h) f w (F12_s18_st R _ f w h)
def F12_s17 (R : Ending → World → Prop) (rec4 : Value → World → Prop) (rec11 : Value → World → Prop) (v0 : Value) (v3 : Value) (v4 : Value) (v53 : Value) (w : World) : Prop :=
  Bc v53
    (F12_s18 R rec4 rec11 w)
    (F12_s15 R rec4 rec11 v0 v3 v4 w)
noncomputable def F12_s17_c : Code := (.seq (cR (cI (cL (cR (cI (cI (cR (cI (cL (cR (cI (cI (cR (cL (cR F12_b))))))))))))))) .skip)
theorem F12_s17_e (R : Ending → World → Prop) (K : Fr → World → Prop) (X : Nat → Fr → World → Prop) (f : Fr) (w : World) (h : Bc (f 53) (wpE Try.prog F12_dc (resK Try.prog [.tmp 2] R) (panK R) F12_s18_c K X f w) (wpE Try.prog F12_dc (resK Try.prog [.tmp 2] R) (panK R) .skip K X f w)) : (wpE Try.prog F12_dc (resK Try.prog [.tmp 2] R) (panK R) (cR (cI (cL (cR (cI (cI (cR (cI (cL (cR (cI (cI (cR (cL (cR F12_b))))))))))))))) K X f w) := Eq.mp (by kernel_rfl) h
theorem F12_s17_ok (R : Ending → World → Prop) (rec4 : Value → World → Prop) (rec11 : Value → World → Prop) : ∀ f w, ((fun f w => F12_s17 R rec4 rec11 (f 0) (f 3) (f 4) (f 53) w)) f w → wpE Try.prog F12_dc (resK Try.prog [.tmp 2] R) (panK R) F12_s17_c (fun f w => F12_s15 R rec4 rec11 (f 0) (f 3) (f 4) w) (kxB 3 ((fun f w => F12_s15 R rec4 rec11 (f 0) (f 3) (f 4) w)) (kxB 2 ((fun f w => F12_s8 R rec4 (f 0) (f 3) w)) (kxB 1 ((fun f w => F12_s8 R rec4 (f 0) (f 3) w)) (kxB 0 ((fun f w => F12_s3 R w)) noX)))) f w :=
  fun f w h => cut (cR (cI (cL (cR (cI (cI (cR (cI (cL (cR (cI (cI (cR (cL (cR F12_b))))))))))))))) .skip (K := (fun f w => F12_s15 R rec4 rec11 (f 0) (f 3) (f 4) w)) (fun f w h => skip_ok h) f w (F12_s17_e R _ _ f w (Bc_imp (x' := (wpE Try.prog F12_dc (resK Try.prog [.tmp 2] R) (panK R) F12_s18_c (fun f w => F12_s15 R rec4 rec11 (f 0) (f 3) (f 4) w) (kxB 3 ((fun f w => F12_s15 R rec4 rec11 (f 0) (f 3) (f 4) w)) (kxB 2 ((fun f w => F12_s8 R rec4 (f 0) (f 3) w)) (kxB 1 ((fun f w => F12_s8 R rec4 (f 0) (f 3) w)) (kxB 0 ((fun f w => F12_s3 R w)) noX)))) f w)) (y' := (wpE Try.prog F12_dc (resK Try.prog [.tmp 2] R) (panK R) .skip (fun f w => F12_s15 R rec4 rec11 (f 0) (f 3) (f 4) w) (kxB 3 ((fun f w => F12_s15 R rec4 rec11 (f 0) (f 3) (f 4) w)) (kxB 2 ((fun f w => F12_s8 R rec4 (f 0) (f 3) w)) (kxB 1 ((fun f w => F12_s8 R rec4 (f 0) (f 3) w)) (kxB 0 ((fun f w => F12_s3 R w)) noX)))) f w)) ((F12_s18_ok R rec4 rec11) f w) ((fun f w h => skip_ok h) f w) h))
def F12_s16_t (R : Ending → World → Prop) (K : Value → Value → Value → Value → World → Prop) (v0 : Value) (v3 : Value) (v4 : Value) (w : World) : Prop :=
  Dr (fun S w => -- ref.go:220
  HV Try.prog S (Instr.indexAt 32 v0 v3) (fun v18 => -- ref.go:220
  HV Try.prog (fun _ => True) (Instr.fieldAt 37 v18 1) (fun v19 => -- ref.go:220
  HV Try.prog S (Instr.loadAt 9 v19) (fun v20 => -- ref.go:220
  HV Try.prog S (Instr.indexAt 32 v0 v4) (fun v23 => -- ref.go:220
  HV Try.prog (fun _ => True) (Instr.fieldAt 37 v23 1) (fun v24 => -- ref.go:220
  HV Try.prog S (Instr.loadAt 9 v24) (fun v25 => -- ref.go:220
  HV Try.prog S (binS Go.BinOp.eql 9 (.tmp 20) (.tmp 25) v20 v25) (fun v26 => -- ref.go:220
  GH v26 true (fun k => k v0) (fun v28 => -- ref.go:220
  GH v26 true (fun k => k v3) (fun v29 => -- ref.go:220
  GH v26 true (fun k => HV Try.prog S (Instr.indexAt 32 v28 v29) k) (fun v30 => -- ref.go:220
  GH v26 true (fun k => HV Try.prog (fun _ => True) (Instr.fieldAt 37 v30 0) k) (fun v31 => -- ref.go:220
  GH v26 true (fun k => HV Try.prog S (Instr.loadAt 3 v31) k) (fun v32 => -- ref.go:220
  GH v26 true (fun k => k v0) (fun v33 => -- ref.go:220
  GH v26 true (fun k => k v4) (fun v34 => -- ref.go:220
  GH v26 true (fun k => HV Try.prog S (Instr.indexAt 32 v33 v34) k) (fun v35 => -- ref.go:220
  GH v26 true (fun k => HV Try.prog (fun _ => True) (Instr.fieldAt 37 v35 0) k) (fun v36 => -- ref.go:220
  GH v26 true (fun k => HV Try.prog S (Instr.loadAt 3 v36) k) (fun v37 => -- ref.go:220
  GH v26 true (fun k => HV Try.prog S (binS Go.BinOp.eql 3 (.tmp 32) (.tmp 37) v32 v37) k) (fun v38 => -- ref.go:220
  GH v26 true (fun k => k v38) (fun v39 => -- ref.go:220
  GH v39 false (fun k => k v0) (fun v40 => -- ref.go:220
  GH v39 false (fun k => k v3) (fun v41 => -- ref.go:220
  GH v39 false (fun k => HV Try.prog S (Instr.indexAt 32 v40 v41) k) (fun v42 => -- ref.go:220
  GH v39 false (fun k => HV Try.prog (fun _ => True) (Instr.fieldAt 37 v42 2) k) (fun v43 => -- ref.go:220
  GH v39 false (fun k => HV Try.prog S (Instr.loadAt 3 v43) k) (fun v44 => -- ref.go:220
  GH v39 false (fun k => k v0) (fun v45 => -- ref.go:220
  GH v39 false (fun k => k v4) (fun v46 => -- ref.go:220
  GH v39 false (fun k => HV Try.prog S (Instr.indexAt 32 v45 v46) k) (fun v47 => -- ref.go:220
  GH v39 false (fun k => HV Try.prog (fun _ => True) (Instr.fieldAt 37 v47 2) k) (fun v48 => -- ref.go:220
  GH v39 false (fun k => HV Try.prog S (Instr.loadAt 3 v48) k) (fun v49 => -- ref.go:220
  Gk v39 false (fun k => un Try.prog R (callFunc 33 #[v44, v49]) w k) w (fun v50 w => -- ref.go:220
  S w ∧ (
  GH v39 false (fun k => HV Try.prog S (Op.unary Go.UnOp.not v50) k) (fun v51 => -- ref.go:220
  GH v26 true (fun k => HV Try.prog S (pickS v39 (Go.Value.bool true) v51) k) (fun v52 => -- ref.go:220
  HV Try.prog S (pickS v26 v52 (Go.Value.bool false)) (fun v53 => -- ref.go:220
  K v0 v3 v4 v53 w))))))))))))))))))))))))))))))))))) w
theorem F12_s16_st (R : Ending → World → Prop) (K : Value → Value → Value → Value → World → Prop) (X : Nat → Fr → World → Prop) (f : Fr) (w : World) (h : F12_s16_t R K (f 0) (f 3) (f 4) w) : wpE Try.prog F12_dc (resK Try.prog [.tmp 2] R) (panK R) (cL (cI (cL (cR (cI (cI (cR (cI (cL (cR (cI (cI (cR (cL (cR F12_b))))))))))))))) (fun f w => K (f 0) (f 3) (f 4) (f 53) w) X f w := Eq.mp (by kernel_rfl) h
def F12_s16 (R : Ending → World → Prop) (rec4 : Value → World → Prop) (rec11 : Value → World → Prop) (v0 : Value) (v3 : Value) (v4 : Value) (w : World) : Prop :=
  F12_s16_t R (F12_s17 R rec4 rec11) v0 v3 v4 w
noncomputable def F12_s16_c : Code := (.seq (cL (cI (cL (cR (cI (cI (cR (cI (cL (cR (cI (cI (cR (cL (cR F12_b))))))))))))))) F12_s17_c)
theorem F12_s16_ok (R : Ending → World → Prop) (rec4 : Value → World → Prop) (rec11 : Value → World → Prop) : ∀ f w, ((fun f w => F12_s16 R rec4 rec11 (f 0) (f 3) (f 4) w)) f w → wpE Try.prog F12_dc (resK Try.prog [.tmp 2] R) (panK R) F12_s16_c (fun f w => F12_s15 R rec4 rec11 (f 0) (f 3) (f 4) w) (kxB 3 ((fun f w => F12_s15 R rec4 rec11 (f 0) (f 3) (f 4) w)) (kxB 2 ((fun f w => F12_s8 R rec4 (f 0) (f 3) w)) (kxB 1 ((fun f w => F12_s8 R rec4 (f 0) (f 3) w)) (kxB 0 ((fun f w => F12_s3 R w)) noX)))) f w :=
  fun f w h => cut (cL (cI (cL (cR (cI (cI (cR (cI (cL (cR (cI (cI (cR (cL (cR F12_b))))))))))))))) F12_s17_c (K := (fun f w => F12_s17 R rec4 rec11 (f 0) (f 3) (f 4) (f 53) w)) (F12_s17_ok R rec4 rec11) f w (F12_s16_st R (F12_s17 R rec4 rec11) _ f w h)
noncomputable def F12_s14_c : Code := (.seq (cL (cR (cI (cI (cR (cI (cL (cR (cI (cI (cR (cL (cR F12_b))))))))))))) F12_s15_c)
theorem F12_s14_e (R : Ending → World → Prop) (K : Fr → World → Prop) (X : Nat → Fr → World → Prop) (f : Fr) (w : World) (h : wpE Try.prog F12_dc (resK Try.prog [.tmp 2] R) (panK R) F12_s16_c K (kxB 3 K X) f w) : wpE Try.prog F12_dc (resK Try.prog [.tmp 2] R) (panK R) (cL (cR (cI (cI (cR (cI (cL (cR (cI (cI (cR (cL (cR F12_b))))))))))))) K X f w := Eq.mp (by kernel_rfl) h
theorem F12_s14_ok (R : Ending → World → Prop) (rec4 : Value → World → Prop) (rec11 : Value → World → Prop) : ∀ f w, ((fun f w => F12_s16 R rec4 rec11 (f 0) (f 3) (f 4) w)) f w → wpE Try.prog F12_dc (resK Try.prog [.tmp 2] R) (panK R) F12_s14_c (fun f w => rec11 (f 4) w) (kxB 2 ((fun f w => F12_s8 R rec4 (f 0) (f 3) w)) (kxB 1 ((fun f w => F12_s8 R rec4 (f 0) (f 3) w)) (kxB 0 ((fun f w => F12_s3 R w)) noX))) f w :=
  fun f w h => cut (cL (cR (cI (cI (cR (cI (cL (cR (cI (cI (cR (cL (cR F12_b))))))))))))) F12_s15_c (K := (fun f w => F12_s15 R rec4 rec11 (f 0) (f 3) (f 4) w)) (F12_s15_ok R rec4 rec11) f w (F12_s14_e R _ _ f w ((F12_s16_ok R rec4 rec11) f w h))
def F12_s13 (R : Ending → World → Prop) (rec4 : Value → World → Prop) (rec11 : Value → World → Prop) (v0 : Value) (v3 : Value) (v4 : Value) (v13 : Value) (w : World) : Prop :=
  Bc v13
    (F12_s16 R rec4 rec11 v0 v3 v4 w)
    (F12_s8 R rec4 v0 v3 w)
noncomputable def F12_s13_c : Code := (.seq (cR (cL (cI (cI (cR (cI (cL (cR (cI (cI (cR (cL (cR F12_b))))))))))))) F12_s14_c)
theorem F12_s13_e (R : Ending → World → Prop) (K : Fr → World → Prop) (X : Nat → Fr → World → Prop) (f : Fr) (w : World) (h : Bc (f 13) (wpE Try.prog F12_dc (resK Try.prog [.tmp 2] R) (panK R) .skip K X f w) (wpE Try.prog F12_dc (resK Try.prog [.tmp 2] R) (panK R) (.exit 2) K X f w)) : (wpE Try.prog F12_dc (resK Try.prog [.tmp 2] R) (panK R) (cR (cL (cI (cI (cR (cI (cL (cR (cI (cI (cR (cL (cR F12_b))))))))))))) K X f w) := Eq.mp (by kernel_rfl) h
theorem F12_s13_ok (R : Ending → World → Prop) (rec4 : Value → World → Prop) (rec11 : Value → World → Prop) : ∀ f w, ((fun f w => F12_s13 R rec4 rec11 (f 0) (f 3) (f 4) (f 13) w)) f w → wpE Try.prog F12_dc (resK Try.prog [.tmp 2] R) (panK R) F12_s13_c (fun f w => rec11 (f 4) w) (kxB 2 ((fun f w => F12_s8 R rec4 (f 0) (f 3) w)) (kxB 1 ((fun f w => F12_s8 R rec4 (f 0) (f 3) w)) (kxB 0 ((fun f w => F12_s3 R w)) noX))) f w :=
  fun f w h => cut (cR (cL (cI (cI (cR (cI (cL (cR (cI (cI (cR (cL (cR F12_b))))))))))))) F12_s14_c (K := (fun f w => F12_s16 R rec4 rec11 (f 0) (f 3) (f 4) w)) (F12_s14_ok R rec4 rec11) f w (F12_s13_e R _ _ f w (Bc_imp (x' := (wpE Try.prog F12_dc (resK Try.prog [.tmp 2] R) (panK R) .skip (fun f w => F12_s16 R rec4 rec11 (f 0) (f 3) (f 4) w) (kxB 2 ((fun f w => F12_s8 R rec4 (f 0) (f 3) w)) (kxB 1 ((fun f w => F12_s8 R rec4 (f 0) (f 3) w)) (kxB 0 ((fun f w => F12_s3 R w)) noX))) f w)) (y' := (wpE Try.prog F12_dc (resK Try.prog [.tmp 2] R) (panK R) (.exit 2) (fun f w => F12_s16 R rec4 rec11 (f 0) (f 3) (f 4) w) (kxB 2 ((fun f w => F12_s8 R rec4 (f 0) (f 3) w)) (kxB 1 ((fun f w => F12_s8 R rec4 (f 0) (f 3) w)) (kxB 0 ((fun f w => F12_s3 R w)) noX))) f w)) ((fun f w h => skip_ok h) f w) ((fun f w h => exit_hit h) f w) h))
def F12_s12_t (R : Ending → World → Prop) (K : Value → Value → Value → Value → World → Prop) (v0 : Value) (v3 : Value) (v4 : Value) (w : World) : Prop :=
  uv Try.prog R (binS Go.BinOp.lss 3 (.tmp 11) (.tmp 12) v4 v3) w (fun v13 w => -- ref.go:219
  K v0 v3 v4 v13 w)
theorem F12_s12_st (R : Ending → World → Prop) (K : Value → Value → Value → Value → World → Prop) (X : Nat → Fr → World → Prop) (f : Fr) (w : World) (h : F12_s12_t R K (f 0) (f 3) (f 4) w) : wpE Try.prog F12_dc (resK Try.prog [.tmp 2] R) (panK R) (cL (cL (cI (cI (cR (cI (cL (cR (cI (cI (cR (cL (cR F12_b))))))))))))) (fun f w => K (f 0) (f 3) (f 4) (f 13) w) X f w := Eq.mp (by kernel_rfl) h
def F12_s12 (R : Ending → World → Prop) (rec4 : Value → World → Prop) (rec11 : Value → World → Prop) (v0 : Value) (v3 : Value) (v4 : Value) (w : World) : Prop :=
  F12_s12_t R (F12_s13 R rec4 rec11) v0 v3 v4 w
noncomputable def F12_s12_c : Code := (.seq (cL (cL (cI (cI (cR (cI (cL (cR (cI (cI (cR (cL (cR F12_b))))))))))))) F12_s13_c)
theorem F12_s12_ok (R : Ending → World → Prop) (rec4 : Value → World → Prop) (rec11 : Value → World → Prop) : ∀ f w, ((fun f w => F12_s12 R rec4 rec11 (f 0) (f 3) (f 4) w)) f w → wpE Try.prog F12_dc (resK Try.prog [.tmp 2] R) (panK R) F12_s12_c (fun f w => rec11 (f 4) w) (kxB 2 ((fun f w => F12_s8 R rec4 (f 0) (f 3) w)) (kxB 1 ((fun f w => F12_s8 R rec4 (f 0) (f 3) w)) (kxB 0 ((fun f w => F12_s3 R w)) noX))) f w :=
  fun f w h => cut (cL (cL (cI (cI (cR (cI (cL (cR (cI (cI (cR (cL (cR F12_b))))))))))))) F12_s13_c (K := (fun f w => F12_s13 R rec4 rec11 (f 0) (f 3) (f 4) (f 13) w)) (F12_s13_ok R rec4 rec11) f w (F12_s12_st R (F12_s13 R rec4 rec11) _ f w h)
def F12_s11 (R : Ending → World → Prop) (rec4 : Value → World → Prop) (v0 : Value) (v3 : Value) (v4 : Value) (w : World) : Prop :=
  Lp1 (fun rec11 v4 w => F12_s12 R rec4 rec11 v0 v3 v4 w) v4 w
theorem F12_s11_e (R : Ending → World → Prop) (K : Fr → World → Prop) (X : Nat → Fr → World → Prop) (f : Fr) (w : World) (h : wpE Try.prog F12_dc (resK Try.prog [.tmp 2] R) (panK R) (.loop (cI (cI (cR (cI (cL (cR (cI (cI (cR (cL (cR F12_b)))))))))))) K X f w) : wpE Try.prog F12_dc (resK Try.prog [.tmp 2] R) (panK R) (cI (cR (cI (cL (cR (cI (cI (cR (cL (cR F12_b)))))))))) K X f w := Eq.mp (by kernel_rfl) h
theorem F12_s11b_e (R : Ending → World → Prop) (K : Fr → World → Prop) (X : Nat → Fr → World → Prop) (f : Fr) (w : World) (h : wpE Try.prog F12_dc (resK Try.prog [.tmp 2] R) (panK R) F12_s12_c K X f w) : wpE Try.prog F12_dc (resK Try.prog [.tmp 2] R) (panK R) (cI (cI (cR (cI (cL (cR (cI (cI (cR (cL (cR F12_b))))))))))) K X f w := Eq.mp (by kernel_rfl) h
theorem F12_s11_ok (R : Ending → World → Prop) (rec4 : Value → World → Prop) : ∀ f w, ((fun f w => F12_s11 R rec4 (f 0) (f 3) (f 4) w)) f w → wpE Try.prog F12_dc (resK Try.prog [.tmp 2] R) (panK R) (cI (cR (cI (cL (cR (cI (cI (cR (cL (cR F12_b)))))))))) (fun f w => F12_s8 R rec4 (f 0) (f 3) w) (kxB 2 ((fun f w => F12_s8 R rec4 (f 0) (f 3) w)) (kxB 1 ((fun f w => F12_s8 R rec4 (f 0) (f 3) w)) (kxB 0 ((fun f w => F12_s3 R w)) noX))) f w :=
  fun f w h => F12_s11_e R _ _ f w (loop1_ok (P := Try.prog) (dc := F12_dc) (kr := (resK Try.prog [.tmp 2] R)) (pan := panK R) (cI (cI (cR (cI (cL (cR (cI (cI (cR (cL (cR F12_b))))))))))) (kn := (fun f w => F12_s8 R rec4 (f 0) (f 3) w)) (kx := (kxB 2 ((fun f w => F12_s8 R rec4 (f 0) (f 3) w)) (kxB 1 ((fun f w => F12_s8 R rec4 (f 0) (f 3) w)) (kxB 0 ((fun f w => F12_s3 R w)) noX)))) (s0 := 4) (fun rec11 v4 w => F12_s12 R rec4 rec11 (f 0) (f 3) v4 w) f (fun rec11 f' w' hf h' => F12_s11b_e R _ _ f' w' ((F12_s12_ok R rec4 rec11) f' w' (by simp only [hf 0 (by kernel_rfl), hf 3 (by kernel_rfl)]; exact h'))) w h)
noncomputable def F12_s10_c : Code := (.seq (cR (cI (cL (cR (cI (cI (cR (cL (cR F12_b))))))))) .skip)
theorem F12_s10_e (R : Ending → World → Prop) (K : Fr → World → Prop) (X : Nat → Fr → World → Prop) (f : Fr) (w : World) (h : wpE Try.prog F12_dc (resK Try.prog [.tmp 2] R) (panK R) (cI (cR (cI (cL (cR (cI (cI (cR (cL (cR F12_b)))))))))) K (kxB 2 K X) f w) : wpE Try.prog F12_dc (resK Try.prog [.tmp 2] R) (panK R) (cR (cI (cL (cR (cI (cI (cR (cL (cR F12_b))))))))) K X f w := Eq.mp (by kernel_rfl) h
theorem F12_s10_ok (R : Ending → World → Prop) (rec4 : Value → World → Prop) : ∀ f w, ((fun f w => F12_s11 R rec4 (f 0) (f 3) (f 4) w)) f w → wpE Try.prog F12_dc (resK Try.prog [.tmp 2] R) (panK R) F12_s10_c (fun f w => F12_s8 R rec4 (f 0) (f 3) w) (kxB 1 ((fun f w => F12_s8 R rec4 (f 0) (f 3) w)) (kxB 0 ((fun f w => F12_s3 R w)) noX)) f w :=
  fun f w h => cut (cR (cI (cL (cR (cI (cI (cR (cL (cR F12_b))))))))) .skip (K := (fun f w => F12_s8 R rec4 (f 0) (f 3) w)) (fun f w h => skip_ok h) f w (F12_s10_e R _ _ f w ((F12_s11_ok R rec4) f w h))
def F12_s9_t (R : Ending → World → Prop) (K : Value → Value → Value → World → Prop) (v0 : Value) (v3 : Value) (w : World) : Prop :=
  K v0 v3 (Go.Value.int Go.IntKind.i64 0) w
theorem F12_s9_st (R : Ending → World → Prop) (K : Value → Value → Value → World → Prop) (X : Nat → Fr → World → Prop) (f : Fr) (w : World) (h : F12_s9_t R K (f 0) (f 3) w) : wpE Try.prog F12_dc (resK Try.prog [.tmp 2] R) (panK R) (cL (cI (cL (cR (cI (cI (cR (cL (cR F12_b))))))))) (fun f w => K (f 0) (f 3) (f 4) w) X f w := Eq.mp (by kernel_rfl) h
def F12_s9 (R : Ending → World → Prop) (rec4 : Value → World → Prop) (v0 : Value) (v3 : Value) (w : World) : Prop :=
  F12_s9_t R (F12_s11 R rec4) v0 v3 w
noncomputable def F12_s9_c : Code := (.seq (cL (cI (cL (cR (cI (cI (cR (cL (cR F12_b))))))))) F12_s10_c)
theorem F12_s9_ok (R : Ending → World → Prop) (rec4 : Value → World → Prop) : ∀ f w, ((fun f w => F12_s9 R rec4 (f 0) (f 3) w)) f w → wpE Try.prog F12_dc (resK Try.prog [.tmp 2] R) (panK R) F12_s9_c (fun f w => F12_s8 R rec4 (f 0) (f 3) w) (kxB 1 ((fun f w => F12_s8 R rec4 (f 0) (f 3) w)) (kxB 0 ((fun f w => F12_s3 R w)) noX)) f w :=
  fun f w h => cut (cL (cI (cL (cR (cI (cI (cR (cL (cR F12_b))))))))) F12_s10_c (K := (fun f w => F12_s11 R rec4 (f 0) (f 3) (f 4) w)) (F12_s10_ok R rec4) f w (F12_s9_st R (F12_s11 R rec4) _ f w h)
noncomputable def F12_s7_c : Code := (.seq (cL (cR (cI (cI (cR (cL (cR F12_b))))))) F12_s8_c)
theorem F12_s7_e (R : Ending → World → Prop) (K : Fr → World → Prop) (X : Nat → Fr → World → Prop) (f : Fr) (w : World) (h : wpE Try.prog F12_dc (resK Try.prog [.tmp 2] R) (panK R) F12_s9_c K (kxB 1 K X) f w) : wpE Try.prog F12_dc (resK Try.prog [.tmp 2] R) (panK R) (cL (cR (cI (cI (cR (cL (cR F12_b))))))) K X f w := Eq.mp (by kernel_rfl) h
theorem F12_s7_ok (R : Ending → World → Prop) (rec4 : Value → World → Prop) : ∀ f w, ((fun f w => F12_s9 R rec4 (f 0) (f 3) w)) f w → wpE Try.prog F12_dc (resK Try.prog [.tmp 2] R) (panK R) F12_s7_c (fun f w => rec4 (f 3) w) (kxB 0 ((fun f w => F12_s3 R w)) noX) f w :=
  fun f w h => cut (cL (cR (cI (cI (cR (cL (cR F12_b))))))) F12_s8_c (K := (fun f w => F12_s8 R rec4 (f 0) (f 3) w)) (F12_s8_ok R rec4) f w (F12_s7_e R _ _ f w ((F12_s9_ok R rec4) f w h))
def F12_s6 (R : Ending → World → Prop) (rec4 : Value → World → Prop) (v0 : Value) (v3 : Value) (v8 : Value) (w : World) : Prop :=
  Bc v8
    (F12_s9 R rec4 v0 v3 w)
    (F12_s3 R w)
noncomputable def F12_s6_c : Code := (.seq (cR (cL (cI (cI (cR (cL (cR F12_b))))))) F12_s7_c)
theorem F12_s6_e (R : Ending → World → Prop) (K : Fr → World → Prop) (X : Nat → Fr → World → Prop) (f : Fr) (w : World) (h : Bc (f 8) (wpE Try.prog F12_dc (resK Try.prog [.tmp 2] R) (panK R) .skip K X f w) (wpE Try.prog F12_dc (resK Try.prog [.tmp 2] R) (panK R) (.exit 0) K X f w)) : (wpE Try.prog F12_dc (resK Try.prog [.tmp 2] R) (panK R) (cR (cL (cI (cI (cR (cL (cR F12_b))))))) K X f w) := Eq.mp (by kernel_rfl) h
theorem F12_s6_ok (R : Ending → World → Prop) (rec4 : Value → World → Prop) : ∀ f w, ((fun f w => F12_s6 R rec4 (f 0) (f 3) (f 8) w)) f w → wpE Try.prog F12_dc (resK Try.prog [.tmp 2] R) (panK R) F12_s6_c (fun f w => rec4 (f 3) w) (kxB 0 ((fun f w => F12_s3 R w)) noX) f w :=
  fun f w h => cut (cR (cL (cI (cI (cR (cL (cR F12_b))))))) F12_s7_c (K := (fun f w => F12_s9 R rec4 (f 0) (f 3) w)) (F12_s7_ok R rec4) f w (F12_s6_e R _ _ f w (Bc_imp (x' := (wpE Try.prog F12_dc (resK Try.prog [.tmp 2] R) (panK R) .skip (fun f w => F12_s9 R rec4 (f 0) (f 3) w) (kxB 0 ((fun f w => F12_s3 R w)) noX) f w)) (y' := (wpE Try.prog F12_dc (resK Try.prog [.tmp 2] R) (panK R) (.exit 0) (fun f w => F12_s9 R rec4 (f 0) (f 3) w) (kxB 0 ((fun f w => F12_s3 R w)) noX) f w)) ((fun f w h => skip_ok h) f w) ((fun f w h => exit_hit h) f w) h))
def F12_s5_t (R : Ending → World → Prop) (K : Value → Value → Value → World → Prop) (v0 : Value) (v3 : Value) (w : World) : Prop :=
  un Try.prog R (builtin Go.Builtin.len #[32] 3 #[false] #[v0]) w (fun v7 w => -- ref.go:218
  uv Try.prog R (binS Go.BinOp.lss 3 (.tmp 5) (.tmp 7) v3 v7) w (fun v8 w => -- ref.go:218
  K v0 v3 v8 w))
theorem F12_s5_st (R : Ending → World → Prop) (K : Value → Value → Value → World → Prop) (X : Nat → Fr → World → Prop) (f : Fr) (w : World) (h : F12_s5_t R K (f 0) (f 3) w) : wpE Try.prog F12_dc (resK Try.prog [.tmp 2] R) (panK R) (cL (cL (cI (cI (cR (cL (cR F12_b))))))) (fun f w => K (f 0) (f 3) (f 8) w) X f w := Eq.mp (by kernel_rfl) h
def F12_s5 (R : Ending → World → Prop) (rec4 : Value → World → Prop) (v0 : Value) (v3 : Value) (w : World) : Prop :=
  F12_s5_t R (F12_s6 R rec4) v0 v3 w
noncomputable def F12_s5_c : Code := (.seq (cL (cL (cI (cI (cR (cL (cR F12_b))))))) F12_s6_c)
theorem F12_s5_ok (R : Ending → World → Prop) (rec4 : Value → World → Prop) : ∀ f w, ((fun f w => F12_s5 R rec4 (f 0) (f 3) w)) f w → wpE Try.prog F12_dc (resK Try.prog [.tmp 2] R) (panK R) F12_s5_c (fun f w => rec4 (f 3) w) (kxB 0 ((fun f w => F12_s3 R w)) noX) f w :=
  fun f w h => cut (cL (cL (cI (cI (cR (cL (cR F12_b))))))) F12_s6_c (K := (fun f w => F12_s6 R rec4 (f 0) (f 3) (f 8) w)) (F12_s6_ok R rec4) f w (F12_s5_st R (F12_s6 R rec4) _ f w h)
def F12_s4 (R : Ending → World → Prop) (v0 : Value) (v3 : Value) (w : World) : Prop :=
  Lp1 (fun rec4 v3 w => F12_s5 R rec4 v0 v3 w) v3 w
theorem F12_s4_e (R : Ending → World → Prop) (K : Fr → World → Prop) (X : Nat → Fr → World → Prop) (f : Fr) (w : World) (h : wpE Try.prog F12_dc (resK Try.prog [.tmp 2] R) (panK R) (.loop (cI (cI (cR (cL (cR F12_b)))))) K X f w) : wpE Try.prog F12_dc (resK Try.prog [.tmp 2] R) (panK R) (cI (cR (cL (cR F12_b)))) K X f w := Eq.mp (by kernel_rfl) h
theorem F12_s4b_e (R : Ending → World → Prop) (K : Fr → World → Prop) (X : Nat → Fr → World → Prop) (f : Fr) (w : World) (h : wpE Try.prog F12_dc (resK Try.prog [.tmp 2] R) (panK R) F12_s5_c K X f w) : wpE Try.prog F12_dc (resK Try.prog [.tmp 2] R) (panK R) (cI (cI (cR (cL (cR F12_b))))) K X f w := Eq.mp (by kernel_rfl) h
theorem F12_s4_ok (R : Ending → World → Prop) : ∀ f w, ((fun f w => F12_s4 R (f 0) (f 3) w)) f w → wpE Try.prog F12_dc (resK Try.prog [.tmp 2] R) (panK R) (cI (cR (cL (cR F12_b)))) (fun f w => F12_s3 R w) (kxB 0 ((fun f w => F12_s3 R w)) noX) f w :=
  fun f w h => F12_s4_e R _ _ f w (loop1_ok (P := Try.prog) (dc := F12_dc) (kr := (resK Try.prog [.tmp 2] R)) (pan := panK R) (cI (cI (cR (cL (cR F12_b))))) (kn := (fun f w => F12_s3 R w)) (kx := (kxB 0 ((fun f w => F12_s3 R w)) noX)) (s0 := 3) (fun rec4 v3 w => F12_s5 R rec4 (f 0) v3 w) f (fun rec4 f' w' hf h' => F12_s4b_e R _ _ f' w' ((F12_s5_ok R rec4) f' w' (by simp only [hf 0 (by kernel_rfl)]; exact h'))) w h)
noncomputable def F12_s2_c : Code := (.seq (cR (cL (cR F12_b))) F12_s3_c)
theorem F12_s2_e (R : Ending → World → Prop) (K : Fr → World → Prop) (X : Nat → Fr → World → Prop) (f : Fr) (w : World) (h : wpE Try.prog F12_dc (resK Try.prog [.tmp 2] R) (panK R) (cI (cR (cL (cR F12_b)))) K (kxB 0 K X) f w) : wpE Try.prog F12_dc (resK Try.prog [.tmp 2] R) (panK R) (cR (cL (cR F12_b))) K X f w := Eq.mp (by kernel_rfl) h
theorem F12_s2_ok (R : Ending → World → Prop) : ∀ f w, ((fun f w => F12_s4 R (f 0) (f 3) w)) f w → wpE Try.prog F12_dc (resK Try.prog [.tmp 2] R) (panK R) F12_s2_c (resK Try.prog [.tmp 2] R) noX f w :=
  fun f w h => cut (cR (cL (cR F12_b))) F12_s3_c (K := (fun f w => F12_s3 R w)) (F12_s3_ok R) f w (F12_s2_e R _ _ f w ((F12_s4_ok R) f w h))
def F12_s1_t (R : Ending → World → Prop) (K : Value → Value → World → Prop) (v0 : Value) (w : World) : Prop :=
  K v0 (Go.Value.int Go.IntKind.i64 0) w
theorem F12_s1_st (R : Ending → World → Prop) (K : Value → Value → World → Prop) (X : Nat → Fr → World → Prop) (f : Fr) (w : World) (h : F12_s1_t R K (f 0) w) : wpE Try.prog F12_dc (resK Try.prog [.tmp 2] R) (panK R) (.seq (cL F12_b) (cL (cL (cR F12_b)))) (fun f w => K (f 0) (f 3) w) X f w := Eq.mp (by kernel_rfl) h
def F12_s1 (R : Ending → World → Prop) (v0 : Value) (w : World) : Prop :=
  F12_s1_t R (F12_s4 R) v0 w
noncomputable def F12_s1_c : Code := (.seq (.seq (cL F12_b) (cL (cL (cR F12_b)))) F12_s2_c)
theorem F12_s1_ok (R : Ending → World → Prop) : ∀ f w, ((fun f w => F12_s1 R (f 0) w)) f w → wpE Try.prog F12_dc (resK Try.prog [.tmp 2] R) (panK R) F12_s1_c (resK Try.prog [.tmp 2] R) noX f w :=
  fun f w h => cut (.seq (cL F12_b) (cL (cL (cR F12_b)))) F12_s2_c (K := (fun f w => F12_s4 R (f 0) (f 3) w)) (F12_s2_ok R) f w (F12_s1_st R (F12_s4 R) _ f w h)
theorem F12_all_e (R : Ending → World → Prop) (K : Fr → World → Prop) (X : Nat → Fr → World → Prop) (f : Fr) (w : World) (h : wpE Try.prog F12_dc (resK Try.prog [.tmp 2] R) (panK R) F12_s1_c K X f w) : wpE Try.prog F12_dc (resK Try.prog [.tmp 2] R) (panK R) F12_b K X f w := Eq.mp (by kernel_rfl) h
theorem F12_calls (R : Ending → World → Prop) (v0 : Value) (w : World) (h : F12_s1 R v0 w) : Calls Try.prog 12 #[v0] w R :=
  calls_of_wpE (dc := F12_dc) (args := [v0]) hmixed Try.func12 (c := F12_b) rfl (rs := [.tmp 2]) rfl (by kernel_rfl) (Nat.le_of_ble_eq_true (by kernel_rfl)) (F12_all_e R _ _ _ w ((F12_s1_ok R) (initFr [v0]) w h))

/-! ### hasp/haspref10.SameLocks -/
noncomputable def F18_b : Code := bodyOf Try.f18
def F18_dc : Nat → List (Nat × Bool)
  | 6 => [(0, true), (1, true), (2, true), (3, true), (4, true), (5, true), (6, true), (7, true), (8, true)]
  | _ => []
def F18_s5_t (R : Ending → World → Prop) (w : World) : Prop :=
  R (.returned (Go.Value.bool true)) w
theorem F18_s5_st (R : Ending → World → Prop) (X : Nat → Fr → World → Prop) (f : Fr) (w : World) (h : F18_s5_t R w) : wpE Try.prog F18_dc (resK Try.prog [.tmp 4] R) (panK R) (cL (cR (cR (cR F18_b)))) (resK Try.prog [.tmp 4] R) X f w := Eq.mp (by kernel_rfl) h
def F18_s5 (R : Ending → World → Prop) (w : World) : Prop :=
  F18_s5_t R w
noncomputable def F18_s5_c : Code := (.seq (cL (cR (cR (cR F18_b)))) .ret)
theorem F18_s5_ok (R : Ending → World → Prop) : ∀ f w, ((fun f w => F18_s5 R w)) f w → wpE Try.prog F18_dc (resK Try.prog [.tmp 4] R) (panK R) F18_s5_c (resK Try.prog [.tmp 4] R) noX f w :=
  fun f w h => cut (cL (cR (cR (cR F18_b)))) .ret (K := (resK Try.prog [.tmp 4] R)) (fun f w h => ret_ok h) f w (F18_s5_st R _ f w h)
def F18_s10_t (R : Ending → World → Prop) (K : Value → World → Prop) (v0 : Value) (v1 : Value) (v5 : Value) (w : World) : Prop :=
  uv Try.prog R (binS Go.BinOp.add 3 (.tmp 15) (.const (Go.Value.int Go.IntKind.i64 1)) v5 (Go.Value.int Go.IntKind.i64 1)) w (fun v16 w => -- ref.go:195
  K v16 w)
theorem F18_s10_st (R : Ending → World → Prop) (K : Value → World → Prop) (X : Nat → Fr → World → Prop) (f : Fr) (w : World) (h : F18_s10_t R K (f 0) (f 1) (f 5) w) : wpE Try.prog F18_dc (resK Try.prog [.tmp 4] R) (panK R) (cR (cR (cI (cI (cR (cL (cR (cR F18_b)))))))) (fun f w => K (f 5) w) X f w := Eq.mp (by kernel_rfl) h
def F18_s10 (R : Ending → World → Prop) (rec6 : Value → World → Prop) (v0 : Value) (v1 : Value) (v5 : Value) (w : World) : Prop :=
  F18_s10_t R (rec6) v0 v1 v5 w
noncomputable def F18_s10_c : Code := (.seq (cR (cR (cI (cI (cR (cL (cR (cR F18_b)))))))) .skip)
theorem F18_s10_ok (R : Ending → World → Prop) (rec6 : Value → World → Prop) : ∀ f w, ((fun f w => F18_s10 R rec6 (f 0) (f 1) (f 5) w)) f w → wpE Try.prog F18_dc (resK Try.prog [.tmp 4] R) (panK R) F18_s10_c (fun f w => rec6 (f 5) w) (kxB 0 ((fun f w => F18_s5 R w)) noX) f w :=
  fun f w h => cut (cR (cR (cI (cI (cR (cL (cR (cR F18_b)))))))) .skip (K := (fun f w => rec6 (f 5) w)) (fun f w h => skip_ok h) f w (F18_s10_st R (rec6) _ f w h)
def F18_s13_t (R : Ending → World → Prop) (w : World) : Prop :=
  R (.returned (Go.Value.bool false)) w
theorem F18_s13_st (R : Ending → World → Prop) (X : Nat → Fr → World → Prop) (f : Fr) (w : World) (h : F18_s13_t R w) : wpE Try.prog F18_dc (resK Try.prog [.tmp 4] R) (panK R) (cL (cT (cR (cI (cL (cR (cI (cI (cR (cL (cR (cR F18_b)))))))))))) (resK Try.prog [.tmp 4] R) X f w := Eq.mp (by kernel_rfl) h
def F18_s13 (R : Ending → World → Prop) (rec6 : Value → World → Prop) (w : World) : Prop :=
  F18_s13_t R w
noncomputable def F18_s13_c : Code := (.seq (cL (cT (cR (cI (cL (cR (cI (cI (cR (cL (cR (cR F18_b)))))))))))) .ret)
theorem F18_s13_ok (R : Ending → World → Prop) (rec6 : Value → World → Prop) : ∀ f w, ((fun f w => F18_s13 R rec6 w)) f w → wpE Try.prog F18_dc (resK Try.prog [.tmp 4] R) (panK R) F18_s13_c (fun f w => F18_s10 R rec6 (f 0) (f 1) (f 5) w) (kxB 1 ((fun f w => F18_s10 R rec6 (f 0) (f 1) (f 5) w)) (kxB 0 ((fun f w => F18_s5 R w)) noX)) f w :=
  fun f w h => cut (cL (cT (cR (cI (cL (cR (cI (cI (cR (cL (cR (cR F18_b)))))))))))) .ret (K := (resK Try.prog [.tmp 4] R)) (fun f w h => ret_ok h) f w (F18_s13_st R _ f w h)
def F18_s12 (R : Ending → World → Prop) (rec6 : Value → World → Prop) (v0 : Value) (v1 : Value) (v5 : Value) (v25 : Value) (w : World) : Prop :=
  Bc v25
    (F18_s13 R rec6 w)
    (F18_s10 R rec6 v0 v1 v5 w)
noncomputable def F18_s12_c : Code := (.seq (cR (cI (cL (cR (cI (cI (cR (cL (cR (cR F18_b)))))))))) .skip)
theorem F18_s12_e (R : Ending → World → Prop) (K : Fr → World → Prop) (X : Nat → Fr → World → Prop) (f : Fr) (w : World) (h : Bc (f 25) (wpE Try.prog F18_dc (resK Try.prog [.tmp 4] R) (panK R) F18_s13_c K X f w) (wpE Try.prog F18_dc (resK Try.prog [.tmp 4] R) (panK R) .skip K X f w)) : (wpE Try.prog F18_dc (resK Try.prog [.tmp 4] R) (panK R) (cR (cI (cL (cR (cI (cI (cR (cL (cR (cR F18_b)))))))))) K X f w) := Eq.mp (by kernel_rfl) h
theorem F18_s12_ok (R : Ending → World → Prop) (rec6 : Value → World → Prop) : ∀ f w, ((fun f w => F18_s12 R rec6 (f 0) (f 1) (f 5) (f 25) w)) f w → wpE Try.prog F18_dc (resK Try.prog [.tmp 4] R) (panK R) F18_s12_c (fun f w => F18_s10 R rec6 (f 0) (f 1) (f 5) w) (kxB 1 ((fun f w => F18_s10 R rec6 (f 0) (f 1) (f 5) w)) (kxB 0 ((fun f w => F18_s5 R w)) noX)) f w :=
  fun f w h => cut (cR (cI (cL (cR (cI (cI (cR (cL (cR (cR F18_b)))))))))) .skip (K := (fun f w => F18_s10 R rec6 (f 0) (f 1) (f 5) w)) (fun f w h => skip_ok h) f w (F18_s12_e R _ _ f w (Bc_imp (x' := (wpE Try.prog F18_dc (resK Try.prog [.tmp 4] R) (panK R) F18_s13_c (fun f w => F18_s10 R rec6 (f 0) (f 1) (f 5) w) (kxB 1 ((fun f w => F18_s10 R rec6 (f 0) (f 1) (f 5) w)) (kxB 0 ((fun f w => F18_s5 R w)) noX)) f w)) (y' := (wpE Try.prog F18_dc (resK Try.prog [.tmp 4] R) (panK R) .skip (fun f w => F18_s10 R rec6 (f 0) (f 1) (f 5) w) (kxB 1 ((fun f w => F18_s10 R rec6 (f 0) (f 1) (f 5) w)) (kxB 0 ((fun f w => F18_s5 R w)) noX)) f w)) ((F18_s13_ok R rec6) f w) ((fun f w h => skip_ok h) f w) h))
def F18_s11_t (R : Ending → World → Prop) (K : Value → Value → Value → Value → World → Prop) (v0 : Value) (v1 : Value) (v5 : Value) (w : World) : Prop :=
  Dr (fun S w => -- ref.go:196
  HV Try.prog S (Instr.indexAt 32 v0 v5) (fun v19 => -- ref.go:196
  HV Try.prog S (Instr.loadAt 37 v19) (fun v20 => -- ref.go:196
  HV Try.prog S (Instr.indexAt 32 v1 v5) (fun v23 => -- ref.go:196
  HV Try.prog S (Instr.loadAt 37 v23) (fun v24 => -- ref.go:196
  HV Try.prog S (binS Go.BinOp.neq 37 (.tmp 20) (.tmp 24) v20 v24) (fun v25 => -- ref.go:196
  K v0 v1 v5 v25 w)))))) w
theorem F18_s11_st (R : Ending → World → Prop) (K : Value → Value → Value → Value → World → Prop) (X : Nat → Fr → World → Prop) (f : Fr) (w : World) (h : F18_s11_t R K (f 0) (f 1) (f 5) w) : wpE Try.prog F18_dc (resK Try.prog [.tmp 4] R) (panK R) (cL (cI (cL (cR (cI (cI (cR (cL (cR (cR F18_b)))))))))) (fun f w => K (f 0) (f 1) (f 5) (f 25) w) X f w := Eq.mp (by kernel_rfl) h
def F18_s11 (R : Ending → World → Prop) (rec6 : Value → World → Prop) (v0 : Value) (v1 : Value) (v5 : Value) (w : World) : Prop :=
  F18_s11_t R (F18_s12 R rec6) v0 v1 v5 w
noncomputable def F18_s11_c : Code := (.seq (cL (cI (cL (cR (cI (cI (cR (cL (cR (cR F18_b)))))))))) F18_s12_c)
theorem F18_s11_ok (R : Ending → World → Prop) (rec6 : Value → World → Prop) : ∀ f w, ((fun f w => F18_s11 R rec6 (f 0) (f 1) (f 5) w)) f w → wpE Try.prog F18_dc (resK Try.prog [.tmp 4] R) (panK R) F18_s11_c (fun f w => F18_s10 R rec6 (f 0) (f 1) (f 5) w) (kxB 1 ((fun f w => F18_s10 R rec6 (f 0) (f 1) (f 5) w)) (kxB 0 ((fun f w => F18_s5 R w)) noX)) f w :=
  fun f w h => cut (cL (cI (cL (cR (cI (cI (cR (cL (cR (cR F18_b)))))))))) F18_s12_c (K := (fun f w => F18_s12 R rec6 (f 0) (f 1) (f 5) (f 25) w)) (F18_s12_ok R rec6) f w (F18_s11_st R (F18_s12 R rec6) _ f w h)
noncomputable def F18_s9_c : Code := (.seq (cL (cR (cI (cI (cR (cL (cR (cR F18_b)))))))) F18_s10_c)
theorem F18_s9_e (R : Ending → World → Prop) (K : Fr → World → Prop) (X : Nat → Fr → World → Prop) (f : Fr) (w : World) (h : wpE Try.prog F18_dc (resK Try.prog [.tmp 4] R) (panK R) F18_s11_c K (kxB 1 K X) f w) : wpE Try.prog F18_dc (resK Try.prog [.tmp 4] R) (panK R) (cL (cR (cI (cI (cR (cL (cR (cR F18_b)))))))) K X f w := Eq.mp (by kernel_rfl) h
theorem F18_s9_ok (R : Ending → World → Prop) (rec6 : Value → World → Prop) : ∀ f w, ((fun f w => F18_s11 R rec6 (f 0) (f 1) (f 5) w)) f w → wpE Try.prog F18_dc (resK Try.prog [.tmp 4] R) (panK R) F18_s9_c (fun f w => rec6 (f 5) w) (kxB 0 ((fun f w => F18_s5 R w)) noX) f w :=
  fun f w h => cut (cL (cR (cI (cI (cR (cL (cR (cR F18_b)))))))) F18_s10_c (K := (fun f w => F18_s10 R rec6 (f 0) (f 1) (f 5) w)) (F18_s10_ok R rec6) f w (F18_s9_e R _ _ f w ((F18_s11_ok R rec6) f w h))
def F18_s8 (R : Ending → World → Prop) (rec6 : Value → World → Prop) (v0 : Value) (v1 : Value) (v5 : Value) (v14 : Value) (w : World) : Prop :=
  Bc v14
    (F18_s11 R rec6 v0 v1 v5 w)
    (F18_s5 R w)
noncomputable def F18_s8_c : Code := (.seq (cR (cL (cI (cI (cR (cL (cR (cR F18_b)))))))) F18_s9_c)
theorem F18_s8_e (R : Ending → World → Prop) (K : Fr → World → Prop) (X : Nat → Fr → World → Prop) (f : Fr) (w : World) (h : Bc (f 14) (wpE Try.prog F18_dc (resK Try.prog [.tmp 4] R) (panK R) .skip K X f w) (wpE Try.prog F18_dc (resK Try.prog [.tmp 4] R) (panK R) (.exit 0) K X f w)) : (wpE Try.prog F18_dc (resK Try.prog [.tmp 4] R) (panK R) (cR (cL (cI (cI (cR (cL (cR (cR F18_b)))))))) K X f w) := Eq.mp (by kernel_rfl) h
theorem F18_s8_ok (R : Ending → World → Prop) (rec6 : Value → World → Prop) : ∀ f w, ((fun f w => F18_s8 R rec6 (f 0) (f 1) (f 5) (f 14) w)) f w → wpE Try.prog F18_dc (resK Try.prog [.tmp 4] R) (panK R) F18_s8_c (fun f w => rec6 (f 5) w) (kxB 0 ((fun f w => F18_s5 R w)) noX) f w :=
  fun f w h => cut (cR (cL (cI (cI (cR (cL (cR (cR F18_b)))))))) F18_s9_c (K := (fun f w => F18_s11 R rec6 (f 0) (f 1) (f 5) w)) (F18_s9_ok R rec6) f w (F18_s8_e R _ _ f w (Bc_imp (x' := (wpE Try.prog F18_dc (resK Try.prog [.tmp 4] R) (panK R) .skip (fun f w => F18_s11 R rec6 (f 0) (f 1) (f 5) w) (kxB 0 ((fun f w => F18_s5 R w)) noX) f w)) (y' := (wpE Try.prog F18_dc (resK Try.prog [.tmp 4] R) (panK R) (.exit 0) (fun f w => F18_s11 R rec6 (f 0) (f 1) (f 5) w) (kxB 0 ((fun f w => F18_s5 R w)) noX) f w)) ((fun f w h => skip_ok h) f w) ((fun f w h => exit_hit h) f w) h))
def F18_s7_t (R : Ending → World → Prop) (K : Value → Value → Value → Value → World → Prop) (v0 : Value) (v1 : Value) (v5 : Value) (w : World) : Prop :=
  un Try.prog R (builtin Go.Builtin.len #[32] 3 #[false] #[v0]) w (fun v13 w => -- ref.go:195
  uv Try.prog R (binS Go.BinOp.lss 3 (.tmp 11) (.tmp 13) v5 v13) w (fun v14 w => -- ref.go:195
  K v0 v1 v5 v14 w))
theorem F18_s7_st (R : Ending → World → Prop) (K : Value → Value → Value → Value → World → Prop) (X : Nat → Fr → World → Prop) (f : Fr) (w : World) (h : F18_s7_t R K (f 0) (f 1) (f 5) w) : wpE Try.prog F18_dc (resK Try.prog [.tmp 4] R) (panK R) (cL (cL (cI (cI (cR (cL (cR (cR F18_b)))))))) (fun f w => K (f 0) (f 1) (f 5) (f 14) w) X f w := Eq.mp (by kernel_rfl) h
def F18_s7 (R : Ending → World → Prop) (rec6 : Value → World → Prop) (v0 : Value) (v1 : Value) (v5 : Value) (w : World) : Prop :=
  F18_s7_t R (F18_s8 R rec6) v0 v1 v5 w
noncomputable def F18_s7_c : Code := (.seq (cL (cL (cI (cI (cR (cL (cR (cR F18_b)))))))) F18_s8_c)
theorem F18_s7_ok (R : Ending → World → Prop) (rec6 : Value → World → Prop) : ∀ f w, ((fun f w => F18_s7 R rec6 (f 0) (f 1) (f 5) w)) f w → wpE Try.prog F18_dc (resK Try.prog [.tmp 4] R) (panK R) F18_s7_c (fun f w => rec6 (f 5) w) (kxB 0 ((fun f w => F18_s5 R w)) noX) f w :=
  fun f w h => cut (cL (cL (cI (cI (cR (cL (cR (cR F18_b)))))))) F18_s8_c (K := (fun f w => F18_s8 R rec6 (f 0) (f 1) (f 5) (f 14) w)) (F18_s8_ok R rec6) f w (F18_s7_st R (F18_s8 R rec6) _ f w h)
def F18_s6 (R : Ending → World → Prop) (v0 : Value) (v1 : Value) (v5 : Value) (w : World) : Prop :=
  Lp1 (fun rec6 v5 w => F18_s7 R rec6 v0 v1 v5 w) v5 w
theorem F18_s6_e (R : Ending → World → Prop) (K : Fr → World → Prop) (X : Nat → Fr → World → Prop) (f : Fr) (w : World) (h : wpE Try.prog F18_dc (resK Try.prog [.tmp 4] R) (panK R) (.loop (cI (cI (cR (cL (cR (cR F18_b))))))) K X f w) : wpE Try.prog F18_dc (resK Try.prog [.tmp 4] R) (panK R) (cI (cR (cL (cR (cR F18_b))))) K X f w := Eq.mp (by kernel_rfl) h
theorem F18_s6b_e (R : Ending → World → Prop) (K : Fr → World → Prop) (X : Nat → Fr → World → Prop) (f : Fr) (w : World) (h : wpE Try.prog F18_dc (resK Try.prog [.tmp 4] R) (panK R) F18_s7_c K X f w) : wpE Try.prog F18_dc (resK Try.prog [.tmp 4] R) (panK R) (cI (cI (cR (cL (cR (cR F18_b)))))) K X f w := Eq.mp (by kernel_rfl) h
theorem F18_s6_ok (R : Ending → World → Prop) : ∀ f w, ((fun f w => F18_s6 R (f 0) (f 1) (f 5) w)) f w → wpE Try.prog F18_dc (resK Try.prog [.tmp 4] R) (panK R) (cI (cR (cL (cR (cR F18_b))))) (fun f w => F18_s5 R w) (kxB 0 ((fun f w => F18_s5 R w)) noX) f w :=
  fun f w h => F18_s6_e R _ _ f w (loop1_ok (P := Try.prog) (dc := F18_dc) (kr := (resK Try.prog [.tmp 4] R)) (pan := panK R) (cI (cI (cR (cL (cR (cR F18_b)))))) (kn := (fun f w => F18_s5 R w)) (kx := (kxB 0 ((fun f w => F18_s5 R w)) noX)) (s0 := 5) (fun rec6 v5 w => F18_s7 R rec6 (f 0) (f 1) v5 w) f (fun rec6 f' w' hf h' => F18_s6b_e R _ _ f' w' ((F18_s7_ok R rec6) f' w' (by simp only [hf 0 (by kernel_rfl), hf 1 (by kernel_rfl)]; exact h'))) w h)
noncomputable def F18_s4_c : Code := (.seq (cR (cL (cR (cR F18_b)))) F18_s5_c)
theorem F18_s4_e (R : Ending → World → Prop) (K : Fr → World → Prop) (X : Nat → Fr → World → Prop) (f : Fr) (w : World) (h : wpE Try.prog F18_dc (resK Try.prog [.tmp 4] R) (panK R) (cI (cR (cL (cR (cR F18_b))))) K (kxB 0 K X) f w) : wpE Try.prog F18_dc (resK Try.prog [.tmp 4] R) (panK R) (cR (cL (cR (cR F18_b)))) K X f w := Eq.mp (by kernel_rfl) h
theorem F18_s4_ok (R : Ending → World → Prop) : ∀ f w, ((fun f w => F18_s6 R (f 0) (f 1) (f 5) w)) f w → wpE Try.prog F18_dc (resK Try.prog [.tmp 4] R) (panK R) F18_s4_c (resK Try.prog [.tmp 4] R) noX f w :=
  fun f w h => cut (cR (cL (cR (cR F18_b)))) F18_s5_c (K := (fun f w => F18_s5 R w)) (F18_s5_ok R) f w (F18_s4_e R _ _ f w ((F18_s6_ok R) f w h))
def F18_s3_t (R : Ending → World → Prop) (K : Value → Value → Value → World → Prop) (v0 : Value) (v1 : Value) (w : World) : Prop :=
  K v0 v1 (Go.Value.int Go.IntKind.i64 0) w
theorem F18_s3_st (R : Ending → World → Prop) (K : Value → Value → Value → World → Prop) (X : Nat → Fr → World → Prop) (f : Fr) (w : World) (h : F18_s3_t R K (f 0) (f 1) w) : wpE Try.prog F18_dc (resK Try.prog [.tmp 4] R) (panK R) (cL (cL (cR (cR F18_b)))) (fun f w => K (f 0) (f 1) (f 5) w) X f w := Eq.mp (by kernel_rfl) h
def F18_s3 (R : Ending → World → Prop) (v0 : Value) (v1 : Value) (w : World) : Prop :=
  F18_s3_t R (F18_s6 R) v0 v1 w
noncomputable def F18_s3_c : Code := (.seq (cL (cL (cR (cR F18_b)))) F18_s4_c)
theorem F18_s3_ok (R : Ending → World → Prop) : ∀ f w, ((fun f w => F18_s3 R (f 0) (f 1) w)) f w → wpE Try.prog F18_dc (resK Try.prog [.tmp 4] R) (panK R) F18_s3_c (resK Try.prog [.tmp 4] R) noX f w :=
  fun f w h => cut (cL (cL (cR (cR F18_b)))) F18_s4_c (K := (fun f w => F18_s6 R (f 0) (f 1) (f 5) w)) (F18_s4_ok R) f w (F18_s3_st R (F18_s6 R) _ f w h)
def F18_s14_t (R : Ending → World → Prop) (w : World) : Prop :=
  R (.returned (Go.Value.bool false)) w
theorem F18_s14_st (R : Ending → World → Prop) (X : Nat → Fr → World → Prop) (f : Fr) (w : World) (h : F18_s14_t R w) : wpE Try.prog F18_dc (resK Try.prog [.tmp 4] R) (panK R) (cL (cT (cR (cL (cR F18_b))))) (resK Try.prog [.tmp 4] R) X f w := Eq.mp (by kernel_rfl) h
def F18_s14 (R : Ending → World → Prop) (w : World) : Prop :=
  F18_s14_t R w
noncomputable def F18_s14_c : Code := (.seq (cL (cT (cR (cL (cR F18_b))))) .ret)
theorem F18_s14_ok (R : Ending → World → Prop) : ∀ f w, ((fun f w => F18_s14 R w)) f w → wpE Try.prog F18_dc (resK Try.prog [.tmp 4] R) (panK R) F18_s14_c (fun f w => F18_s3 R (f 0) (f 1) w) noX f w :=
  fun f w h => cut (cL (cT (cR (cL (cR F18_b))))) .ret (K := (resK Try.prog [.tmp 4] R)) (fun f w h => ret_ok h) f w (F18_s14_st R _ f w h)
def F18_s2 (R : Ending → World → Prop) (v0 : Value) (v1 : Value) (v10 : Value) (w : World) : Prop :=
  Bc v10
    (F18_s14 R w)
    (F18_s3 R v0 v1 w)
noncomputable def F18_s2_c : Code := (.seq (cR (cL (cR F18_b))) F18_s3_c)
theorem F18_s2_e (R : Ending → World → Prop) (K : Fr → World → Prop) (X : Nat → Fr → World → Prop) (f : Fr) (w : World) (h : Bc (f 10) (wpE Try.prog F18_dc (resK Try.prog [.tmp 4] R) (panK R) F18_s14_c K X f w) (wpE Try.prog F18_dc (resK Try.prog [.tmp 4] R) (panK R) .skip K X f w)) : (wpE Try.prog F18_dc (resK Try.prog [.tmp 4] R) (panK R) (cR (cL (cR F18_b))) K X f w) := Eq.mp (by kernel_rfl) h
theorem F18_s2_ok (R : Ending → World → Prop) : ∀ f w, ((fun f w => F18_s2 R (f 0) (f 1) (f 10) w)) f w → wpE Try.prog F18_dc (resK Try.prog [.tmp 4] R) (panK R) F18_s2_c (resK Try.prog [.tmp 4] R) noX f w :=
  fun f w h => cut (cR (cL (cR F18_b))) F18_s3_c (K := (fun f w => F18_s3 R (f 0) (f 1) w)) (F18_s3_ok R) f w (F18_s2_e R _ _ f w (Bc_imp (x' := (wpE Try.prog F18_dc (resK Try.prog [.tmp 4] R) (panK R) F18_s14_c (fun f w => F18_s3 R (f 0) (f 1) w) noX f w)) (y' := (wpE Try.prog F18_dc (resK Try.prog [.tmp 4] R) (panK R) .skip (fun f w => F18_s3 R (f 0) (f 1) w) noX f w)) ((F18_s14_ok R) f w) ((fun f w h => skip_ok h) f w) h))
def F18_s1_t (R : Ending → World → Prop) (K : Value → Value → Value → World → Prop) (v0 : Value) (v1 : Value) (w : World) : Prop :=
  un Try.prog R (builtin Go.Builtin.len #[32] 3 #[false] #[v0]) w (fun v7 w => -- ref.go:192
  un Try.prog R (builtin Go.Builtin.len #[32] 3 #[false] #[v1]) w (fun v9 w => -- ref.go:192
  uv Try.prog R (binS Go.BinOp.neq 3 (.tmp 7) (.tmp 9) v7 v9) w (fun v10 w => -- ref.go:192
  K v0 v1 v10 w)))
theorem F18_s1_st (R : Ending → World → Prop) (K : Value → Value → Value → World → Prop) (X : Nat → Fr → World → Prop) (f : Fr) (w : World) (h : F18_s1_t R K (f 0) (f 1) w) : wpE Try.prog F18_dc (resK Try.prog [.tmp 4] R) (panK R) (.seq (cL F18_b) (cL (cL (cR F18_b)))) (fun f w => K (f 0) (f 1) (f 10) w) X f w := Eq.mp (by kernel_rfl) h
def F18_s1 (R : Ending → World → Prop) (v0 : Value) (v1 : Value) (w : World) : Prop :=
  F18_s1_t R (F18_s2 R) v0 v1 w
noncomputable def F18_s1_c : Code := (.seq (.seq (cL F18_b) (cL (cL (cR F18_b)))) F18_s2_c)
theorem F18_s1_ok (R : Ending → World → Prop) : ∀ f w, ((fun f w => F18_s1 R (f 0) (f 1) w)) f w → wpE Try.prog F18_dc (resK Try.prog [.tmp 4] R) (panK R) F18_s1_c (resK Try.prog [.tmp 4] R) noX f w :=
  fun f w h => cut (.seq (cL F18_b) (cL (cL (cR F18_b)))) F18_s2_c (K := (fun f w => F18_s2 R (f 0) (f 1) (f 10) w)) (F18_s2_ok R) f w (F18_s1_st R (F18_s2 R) _ f w h)
theorem F18_all_e (R : Ending → World → Prop) (K : Fr → World → Prop) (X : Nat → Fr → World → Prop) (f : Fr) (w : World) (h : wpE Try.prog F18_dc (resK Try.prog [.tmp 4] R) (panK R) F18_s1_c K X f w) : wpE Try.prog F18_dc (resK Try.prog [.tmp 4] R) (panK R) F18_b K X f w := Eq.mp (by kernel_rfl) h
theorem F18_calls (R : Ending → World → Prop) (v0 : Value) (v1 : Value) (w : World) (h : F18_s1 R v0 v1 w) : Calls Try.prog 18 #[v0, v1] w R :=
  calls_of_wpE (dc := F18_dc) (args := [v0, v1]) hmixed Try.func18 (c := F18_b) rfl (rs := [.tmp 4]) rfl (by kernel_rfl) (Nat.le_of_ble_eq_true (by kernel_rfl)) (F18_all_e R _ _ _ w ((F18_s1_ok R) (initFr [v0, v1]) w h))

/-! ### hasp/haspref10.SameEdges -/
noncomputable def F19_b : Code := bodyOf Try.f19
def F19_dc : Nat → List (Nat × Bool)
  | 6 => [(0, true), (1, true), (2, true), (3, true), (4, true), (5, true), (6, true), (7, true), (8, true)]
  | _ => []
def F19_s5_t (R : Ending → World → Prop) (w : World) : Prop :=
  R (.returned (Go.Value.bool true)) w
theorem F19_s5_st (R : Ending → World → Prop) (X : Nat → Fr → World → Prop) (f : Fr) (w : World) (h : F19_s5_t R w) : wpE Try.prog F19_dc (resK Try.prog [.tmp 4] R) (panK R) (cL (cR (cR (cR F19_b)))) (resK Try.prog [.tmp 4] R) X f w := Eq.mp (by kernel_rfl) h
def F19_s5 (R : Ending → World → Prop) (w : World) : Prop :=
  F19_s5_t R w
noncomputable def F19_s5_c : Code := (.seq (cL (cR (cR (cR F19_b)))) .ret)
theorem F19_s5_ok (R : Ending → World → Prop) : ∀ f w, ((fun f w => F19_s5 R w)) f w → wpE Try.prog F19_dc (resK Try.prog [.tmp 4] R) (panK R) F19_s5_c (resK Try.prog [.tmp 4] R) noX f w :=
  fun f w h => cut (cL (cR (cR (cR F19_b)))) .ret (K := (resK Try.prog [.tmp 4] R)) (fun f w h => ret_ok h) f w (F19_s5_st R _ f w h)
def F19_s10_t (R : Ending → World → Prop) (K : Value → World → Prop) (v0 : Value) (v1 : Value) (v5 : Value) (w : World) : Prop :=
  uv Try.prog R (binS Go.BinOp.add 3 (.tmp 15) (.const (Go.Value.int Go.IntKind.i64 1)) v5 (Go.Value.int Go.IntKind.i64 1)) w (fun v16 w => -- ref.go:208
  K v16 w)
theorem F19_s10_st (R : Ending → World → Prop) (K : Value → World → Prop) (X : Nat → Fr → World → Prop) (f : Fr) (w : World) (h : F19_s10_t R K (f 0) (f 1) (f 5) w) : wpE Try.prog F19_dc (resK Try.prog [.tmp 4] R) (panK R) (cR (cR (cI (cI (cR (cL (cR (cR F19_b)))))))) (fun f w => K (f 5) w) X f w := Eq.mp (by kernel_rfl) h
def F19_s10 (R : Ending → World → Prop) (rec6 : Value → World → Prop) (v0 : Value) (v1 : Value) (v5 : Value) (w : World) : Prop :=
  F19_s10_t R (rec6) v0 v1 v5 w
noncomputable def F19_s10_c : Code := (.seq (cR (cR (cI (cI (cR (cL (cR (cR F19_b)))))))) .skip)
theorem F19_s10_ok (R : Ending → World → Prop) (rec6 : Value → World → Prop) : ∀ f w, ((fun f w => F19_s10 R rec6 (f 0) (f 1) (f 5) w)) f w → wpE Try.prog F19_dc (resK Try.prog [.tmp 4] R) (panK R) F19_s10_c (fun f w => rec6 (f 5) w) (kxB 0 ((fun f w => F19_s5 R w)) noX) f w :=
  fun f w h => cut (cR (cR (cI (cI (cR (cL (cR (cR F19_b)))))))) .skip (K := (fun f w => rec6 (f 5) w)) (fun f w h => skip_ok h) f w (F19_s10_st R (rec6) _ f w h)
def F19_s13_t (R : Ending → World → Prop) (w : World) : Prop :=
  R (.returned (Go.Value.bool false)) w
theorem F19_s13_st (R : Ending → World → Prop) (X : Nat → Fr → World → Prop) (f : Fr) (w : World) (h : F19_s13_t R w) : wpE Try.prog F19_dc (resK Try.prog [.tmp 4] R) (panK R) (cL (cT (cR (cI (cL (cR (cI (cI (cR (cL (cR (cR F19_b)))))))))))) (resK Try.prog [.tmp 4] R) X f w := Eq.mp (by kernel_rfl) h
def F19_s13 (R : Ending → World → Prop) (rec6 : Value → World → Prop) (w : World) : Prop :=
  F19_s13_t R w
noncomputable def F19_s13_c : Code := (.seq (cL (cT (cR (cI (cL (cR (cI (cI (cR (cL (cR (cR F19_b)))))))))))) .ret)
theorem F19_s13_ok (R : Ending → World → Prop) (rec6 : Value → World → Prop) : ∀ f w, ((fun f w => F19_s13 R rec6 w)) f w → wpE Try.prog F19_dc (resK Try.prog [.tmp 4] R) (panK R) F19_s13_c (fun f w => F19_s10 R rec6 (f 0) (f 1) (f 5) w) (kxB 1 ((fun f w => F19_s10 R rec6 (f 0) (f 1) (f 5) w)) (kxB 0 ((fun f w => F19_s5 R w)) noX)) f w :=
  fun f w h => cut (cL (cT (cR (cI (cL (cR (cI (cI (cR (cL (cR (cR F19_b)))))))))))) .ret (K := (resK Try.prog [.tmp 4] R)) (fun f w h => ret_ok h) f w (F19_s13_st R _ f w h)
def F19_s12 (R : Ending → World → Prop) (rec6 : Value → World → Prop) (v0 : Value) (v1 : Value) (v5 : Value) (v25 : Value) (w : World) : Prop :=
  Bc v25
    (F19_s13 R rec6 w)
    (F19_s10 R rec6 v0 v1 v5 w)
noncomputable def F19_s12_c : Code := (.seq (cR (cI (cL (cR (cI (cI (cR (cL (cR (cR F19_b)))))))))) .skip)
theorem F19_s12_e (R : Ending → World → Prop) (K : Fr → World → Prop) (X : Nat → Fr → World → Prop) (f : Fr) (w : World) (h : Bc (f 25) (wpE Try.prog F19_dc (resK Try.prog [.tmp 4] R) (panK R) F19_s13_c K X f w) (wpE Try.prog F19_dc (resK Try.prog [.tmp 4] R) (panK R) .skip K X f w)) : (wpE Try.prog F19_dc (resK Try.prog [.tmp 4] R) (panK R) (cR (cI (cL (cR (cI (cI (cR (cL (cR (cR F19_b)))))))))) K X f w) := Eq.mp (by kernel_rfl) h
theorem F19_s12_ok (R : Ending → World → Prop) (rec6 : Value → World → Prop) : ∀ f w, ((fun f w => F19_s12 R rec6 (f 0) (f 1) (f 5) (f 25) w)) f w → wpE Try.prog F19_dc (resK Try.prog [.tmp 4] R) (panK R) F19_s12_c (fun f w => F19_s10 R rec6 (f 0) (f 1) (f 5) w) (kxB 1 ((fun f w => F19_s10 R rec6 (f 0) (f 1) (f 5) w)) (kxB 0 ((fun f w => F19_s5 R w)) noX)) f w :=
  fun f w h => cut (cR (cI (cL (cR (cI (cI (cR (cL (cR (cR F19_b)))))))))) .skip (K := (fun f w => F19_s10 R rec6 (f 0) (f 1) (f 5) w)) (fun f w h => skip_ok h) f w (F19_s12_e R _ _ f w (Bc_imp (x' := (wpE Try.prog F19_dc (resK Try.prog [.tmp 4] R) (panK R) F19_s13_c (fun f w => F19_s10 R rec6 (f 0) (f 1) (f 5) w) (kxB 1 ((fun f w => F19_s10 R rec6 (f 0) (f 1) (f 5) w)) (kxB 0 ((fun f w => F19_s5 R w)) noX)) f w)) (y' := (wpE Try.prog F19_dc (resK Try.prog [.tmp 4] R) (panK R) .skip (fun f w => F19_s10 R rec6 (f 0) (f 1) (f 5) w) (kxB 1 ((fun f w => F19_s10 R rec6 (f 0) (f 1) (f 5) w)) (kxB 0 ((fun f w => F19_s5 R w)) noX)) f w)) ((F19_s13_ok R rec6) f w) ((fun f w h => skip_ok h) f w) h))
def F19_s11_t (R : Ending → World → Prop) (K : Value → Value → Value → Value → World → Prop) (v0 : Value) (v1 : Value) (v5 : Value) (w : World) : Prop :=
  Dr (fun S w => -- ref.go:209
  HV Try.prog S (Instr.indexAt 38 v0 v5) (fun v19 => -- ref.go:209
  HV Try.prog S (Instr.loadAt 81 v19) (fun v20 => -- ref.go:209
  HV Try.prog S (Instr.indexAt 38 v1 v5) (fun v23 => -- ref.go:209
  HV Try.prog S (Instr.loadAt 81 v23) (fun v24 => -- ref.go:209
  HV Try.prog S (binS Go.BinOp.neq 81 (.tmp 20) (.tmp 24) v20 v24) (fun v25 => -- ref.go:209
  K v0 v1 v5 v25 w)))))) w
theorem F19_s11_st (R : Ending → World → Prop) (K : Value → Value → Value → Value → World → Prop) (X : Nat → Fr → World → Prop) (f : Fr) (w : World) (h : F19_s11_t R K (f 0) (f 1) (f 5) w) : wpE Try.prog F19_dc (resK Try.prog [.tmp 4] R) (panK R) (cL (cI (cL (cR (cI (cI (cR (cL (cR (cR F19_b)))))))))) (fun f w => K (f 0) (f 1) (f 5) (f 25) w) X f w := Eq.mp (by kernel_rfl) h
def F19_s11 (R : Ending → World → Prop) (rec6 : Value → World → Prop) (v0 : Value) (v1 : Value) (v5 : Value) (w : World) : Prop :=
  F19_s11_t R (F19_s12 R rec6) v0 v1 v5 w
noncomputable def F19_s11_c : Code := (.seq (cL (cI (cL (cR (cI (cI (cR (cL (cR (cR F19_b)))))))))) F19_s12_c)
theorem F19_s11_ok (R : Ending → World → Prop) (rec6 : Value → World → Prop) : ∀ f w, ((fun f w => F19_s11 R rec6 (f 0) (f 1) (f 5) w)) f w → wpE Try.prog F19_dc (resK Try.prog [.tmp 4] R) (panK R) F19_s11_c (fun f w => F19_s10 R rec6 (f 0) (f 1) (f 5) w) (kxB 1 ((fun f w => F19_s10 R rec6 (f 0) (f 1) (f 5) w)) (kxB 0 ((fun f w => F19_s5 R w)) noX)) f w :=
  fun f w h => cut (cL (cI (cL (cR (cI (cI (cR (cL (cR (cR F19_b)))))))))) F19_s12_c (K := (fun f w => F19_s12 R rec6 (f 0) (f 1) (f 5) (f 25) w)) (F19_s12_ok R rec6) f w (F19_s11_st R (F19_s12 R rec6) _ f w h)
noncomputable def F19_s9_c : Code := (.seq (cL (cR (cI (cI (cR (cL (cR (cR F19_b)))))))) F19_s10_c)
theorem F19_s9_e (R : Ending → World → Prop) (K : Fr → World → Prop) (X : Nat → Fr → World → Prop) (f : Fr) (w : World) (h : wpE Try.prog F19_dc (resK Try.prog [.tmp 4] R) (panK R) F19_s11_c K (kxB 1 K X) f w) : wpE Try.prog F19_dc (resK Try.prog [.tmp 4] R) (panK R) (cL (cR (cI (cI (cR (cL (cR (cR F19_b)))))))) K X f w := Eq.mp (by kernel_rfl) h
theorem F19_s9_ok (R : Ending → World → Prop) (rec6 : Value → World → Prop) : ∀ f w, ((fun f w => F19_s11 R rec6 (f 0) (f 1) (f 5) w)) f w → wpE Try.prog F19_dc (resK Try.prog [.tmp 4] R) (panK R) F19_s9_c (fun f w => rec6 (f 5) w) (kxB 0 ((fun f w => F19_s5 R w)) noX) f w :=
  fun f w h => cut (cL (cR (cI (cI (cR (cL (cR (cR F19_b)))))))) F19_s10_c (K := (fun f w => F19_s10 R rec6 (f 0) (f 1) (f 5) w)) (F19_s10_ok R rec6) f w (F19_s9_e R _ _ f w ((F19_s11_ok R rec6) f w h))
def F19_s8 (R : Ending → World → Prop) (rec6 : Value → World → Prop) (v0 : Value) (v1 : Value) (v5 : Value) (v14 : Value) (w : World) : Prop :=
  Bc v14
    (F19_s11 R rec6 v0 v1 v5 w)
    (F19_s5 R w)
noncomputable def F19_s8_c : Code := (.seq (cR (cL (cI (cI (cR (cL (cR (cR F19_b)))))))) F19_s9_c)
theorem F19_s8_e (R : Ending → World → Prop) (K : Fr → World → Prop) (X : Nat → Fr → World → Prop) (f : Fr) (w : World) (h : Bc (f 14) (wpE Try.prog F19_dc (resK Try.prog [.tmp 4] R) (panK R) .skip K X f w) (wpE Try.prog F19_dc (resK Try.prog [.tmp 4] R) (panK R) (.exit 0) K X f w)) : (wpE Try.prog F19_dc (resK Try.prog [.tmp 4] R) (panK R) (cR (cL (cI (cI (cR (cL (cR (cR F19_b)))))))) K X f w) := Eq.mp (by kernel_rfl) h
theorem F19_s8_ok (R : Ending → World → Prop) (rec6 : Value → World → Prop) : ∀ f w, ((fun f w => F19_s8 R rec6 (f 0) (f 1) (f 5) (f 14) w)) f w → wpE Try.prog F19_dc (resK Try.prog [.tmp 4] R) (panK R) F19_s8_c (fun f w => rec6 (f 5) w) (kxB 0 ((fun f w => F19_s5 R w)) noX) f w :=
  fun f w h => cut (cR (cL (cI (cI (cR (cL (cR (cR F19_b)))))))) F19_s9_c (K := (fun f w => F19_s11 R rec6 (f 0) (f 1) (f 5) w)) (F19_s9_ok R rec6) f w (F19_s8_e R _ _ f w (Bc_imp (x' := (wpE Try.prog F19_dc (resK Try.prog [.tmp 4] R) (panK R) .skip (fun f w => F19_s11 R rec6 (f 0) (f 1) (f 5) w) (kxB 0 ((fun f w => F19_s5 R w)) noX) f w)) (y' := (wpE Try.prog F19_dc (resK Try.prog [.tmp 4] R) (panK R) (.exit 0) (fun f w => F19_s11 R rec6 (f 0) (f 1) (f 5) w) (kxB 0 ((fun f w => F19_s5 R w)) noX) f w)) ((fun f w h => skip_ok h) f w) ((fun f w h => exit_hit h) f w) h))
def F19_s7_t (R : Ending → World → Prop) (K : Value → Value → Value → Value → World → Prop) (v0 : Value) (v1 : Value) (v5 : Value) (w : World) : Prop :=
  un Try.prog R (builtin Go.Builtin.len #[38] 3 #[false] #[v0]) w (fun v13 w => -- ref.go:208
  uv Try.prog R (binS Go.BinOp.lss 3 (.tmp 11) (.tmp 13) v5 v13) w (fun v14 w => -- ref.go:208
  K v0 v1 v5 v14 w))
theorem F19_s7_st (R : Ending → World → Prop) (K : Value → Value → Value → Value → World → Prop) (X : Nat → Fr → World → Prop) (f : Fr) (w : World) (h : F19_s7_t R K (f 0) (f 1) (f 5) w) : wpE Try.prog F19_dc (resK Try.prog [.tmp 4] R) (panK R) (cL (cL (cI (cI (cR (cL (cR (cR F19_b)))))))) (fun f w => K (f 0) (f 1) (f 5) (f 14) w) X f w := Eq.mp (by kernel_rfl) h
def F19_s7 (R : Ending → World → Prop) (rec6 : Value → World → Prop) (v0 : Value) (v1 : Value) (v5 : Value) (w : World) : Prop :=
  F19_s7_t R (F19_s8 R rec6) v0 v1 v5 w
noncomputable def F19_s7_c : Code := (.seq (cL (cL (cI (cI (cR (cL (cR (cR F19_b)))))))) F19_s8_c)
theorem F19_s7_ok (R : Ending → World → Prop) (rec6 : Value → World → Prop) : ∀ f w, ((fun f w => F19_s7 R rec6 (f 0) (f 1) (f 5) w)) f w → wpE Try.prog F19_dc (resK Try.prog [.tmp 4] R) (panK R) F19_s7_c (fun f w => rec6 (f 5) w) (kxB 0 ((fun f w => F19_s5 R w)) noX) f w :=
  fun f w h => cut (cL (cL (cI (cI (cR (cL (cR (cR F19_b)))))))) F19_s8_c (K := (fun f w => F19_s8 R rec6 (f 0) (f 1) (f 5) (f 14) w)) (F19_s8_ok R rec6) f w (F19_s7_st R (F19_s8 R rec6) _ f w h)
def F19_s6 (R : Ending → World → Prop) (v0 : Value) (v1 : Value) (v5 : Value) (w : World) : Prop :=
  Lp1 (fun rec6 v5 w => F19_s7 R rec6 v0 v1 v5 w) v5 w
theorem F19_s6_e (R : Ending → World → Prop) (K : Fr → World → Prop) (X : Nat → Fr → World → Prop) (f : Fr) (w : World) (h : wpE Try.prog F19_dc (resK Try.prog [.tmp 4] R) (panK R) (.loop (cI (cI (cR (cL (cR (cR F19_b))))))) K X f w) : wpE Try.prog F19_dc (resK Try.prog [.tmp 4] R) (panK R) (cI (cR (cL (cR (cR F19_b))))) K X f w := Eq.mp (by kernel_rfl) h
theorem F19_s6b_e (R : Ending → World → Prop) (K : Fr → World → Prop) (X : Nat → Fr → World → Prop) (f : Fr) (w : World) (h : wpE Try.prog F19_dc (resK Try.prog [.tmp 4] R) (panK R) F19_s7_c K X f w) : wpE Try.prog F19_dc (resK Try.prog [.tmp 4] R) (panK R) (cI (cI (cR (cL (cR (cR F19_b)))))) K X f w := Eq.mp (by kernel_rfl) h
theorem F19_s6_ok (R : Ending → World → Prop) : ∀ f w, ((fun f w => F19_s6 R (f 0) (f 1) (f 5) w)) f w → wpE Try.prog F19_dc (resK Try.prog [.tmp 4] R) (panK R) (cI (cR (cL (cR (cR F19_b))))) (fun f w => F19_s5 R w) (kxB 0 ((fun f w => F19_s5 R w)) noX) f w :=
  fun f w h => F19_s6_e R _ _ f w (loop1_ok (P := Try.prog) (dc := F19_dc) (kr := (resK Try.prog [.tmp 4] R)) (pan := panK R) (cI (cI (cR (cL (cR (cR F19_b)))))) (kn := (fun f w => F19_s5 R w)) (kx := (kxB 0 ((fun f w => F19_s5 R w)) noX)) (s0 := 5) (fun rec6 v5 w => F19_s7 R rec6 (f 0) (f 1) v5 w) f (fun rec6 f' w' hf h' => F19_s6b_e R _ _ f' w' ((F19_s7_ok R rec6) f' w' (by simp only [hf 0 (by kernel_rfl), hf 1 (by kernel_rfl)]; exact h'))) w h)
noncomputable def F19_s4_c : Code := (.seq (cR (cL (cR (cR F19_b)))) F19_s5_c)
theorem F19_s4_e (R : Ending → World → Prop) (K : Fr → World → Prop) (X : Nat → Fr → World → Prop) (f : Fr) (w : World) (h : wpE Try.prog F19_dc (resK Try.prog [.tmp 4] R) (panK R) (cI (cR (cL (cR (cR F19_b))))) K (kxB 0 K X) f w) : wpE Try.prog F19_dc (resK Try.prog [.tmp 4] R) (panK R) (cR (cL (cR (cR F19_b)))) K X f w := Eq.mp (by kernel_rfl) h
theorem F19_s4_ok (R : Ending → World → Prop) : ∀ f w, ((fun f w => F19_s6 R (f 0) (f 1) (f 5) w)) f w → wpE Try.prog F19_dc (resK Try.prog [.tmp 4] R) (panK R) F19_s4_c (resK Try.prog [.tmp 4] R) noX f w :=
  fun f w h => cut (cR (cL (cR (cR F19_b)))) F19_s5_c (K := (fun f w => F19_s5 R w)) (F19_s5_ok R) f w (F19_s4_e R _ _ f w ((F19_s6_ok R) f w h))
def F19_s3_t (R : Ending → World → Prop) (K : Value → Value → Value → World → Prop) (v0 : Value) (v1 : Value) (w : World) : Prop :=
  K v0 v1 (Go.Value.int Go.IntKind.i64 0) w
theorem F19_s3_st (R : Ending → World → Prop) (K : Value → Value → Value → World → Prop) (X : Nat → Fr → World → Prop) (f : Fr) (w : World) (h : F19_s3_t R K (f 0) (f 1) w) : wpE Try.prog F19_dc (resK Try.prog [.tmp 4] R) (panK R) (cL (cL (cR (cR F19_b)))) (fun f w => K (f 0) (f 1) (f 5) w) X f w := Eq.mp (by kernel_rfl) h
def F19_s3 (R : Ending → World → Prop) (v0 : Value) (v1 : Value) (w : World) : Prop :=
  F19_s3_t R (F19_s6 R) v0 v1 w
noncomputable def F19_s3_c : Code := (.seq (cL (cL (cR (cR F19_b)))) F19_s4_c)
theorem F19_s3_ok (R : Ending → World → Prop) : ∀ f w, ((fun f w => F19_s3 R (f 0) (f 1) w)) f w → wpE Try.prog F19_dc (resK Try.prog [.tmp 4] R) (panK R) F19_s3_c (resK Try.prog [.tmp 4] R) noX f w :=
  fun f w h => cut (cL (cL (cR (cR F19_b)))) F19_s4_c (K := (fun f w => F19_s6 R (f 0) (f 1) (f 5) w)) (F19_s4_ok R) f w (F19_s3_st R (F19_s6 R) _ f w h)
def F19_s14_t (R : Ending → World → Prop) (w : World) : Prop :=
  R (.returned (Go.Value.bool false)) w
theorem F19_s14_st (R : Ending → World → Prop) (X : Nat → Fr → World → Prop) (f : Fr) (w : World) (h : F19_s14_t R w) : wpE Try.prog F19_dc (resK Try.prog [.tmp 4] R) (panK R) (cL (cT (cR (cL (cR F19_b))))) (resK Try.prog [.tmp 4] R) X f w := Eq.mp (by kernel_rfl) h
def F19_s14 (R : Ending → World → Prop) (w : World) : Prop :=
  F19_s14_t R w
noncomputable def F19_s14_c : Code := (.seq (cL (cT (cR (cL (cR F19_b))))) .ret)
theorem F19_s14_ok (R : Ending → World → Prop) : ∀ f w, ((fun f w => F19_s14 R w)) f w → wpE Try.prog F19_dc (resK Try.prog [.tmp 4] R) (panK R) F19_s14_c (fun f w => F19_s3 R (f 0) (f 1) w) noX f w :=
  fun f w h => cut (cL (cT (cR (cL (cR F19_b))))) .ret (K := (resK Try.prog [.tmp 4] R)) (fun f w h => ret_ok h) f w (F19_s14_st R _ f w h)
def F19_s2 (R : Ending → World → Prop) (v0 : Value) (v1 : Value) (v10 : Value) (w : World) : Prop :=
  Bc v10
    (F19_s14 R w)
    (F19_s3 R v0 v1 w)
noncomputable def F19_s2_c : Code := (.seq (cR (cL (cR F19_b))) F19_s3_c)
theorem F19_s2_e (R : Ending → World → Prop) (K : Fr → World → Prop) (X : Nat → Fr → World → Prop) (f : Fr) (w : World) (h : Bc (f 10) (wpE Try.prog F19_dc (resK Try.prog [.tmp 4] R) (panK R) F19_s14_c K X f w) (wpE Try.prog F19_dc (resK Try.prog [.tmp 4] R) (panK R) .skip K X f w)) : (wpE Try.prog F19_dc (resK Try.prog [.tmp 4] R) (panK R) (cR (cL (cR F19_b))) K X f w) := Eq.mp (by kernel_rfl) h
theorem F19_s2_ok (R : Ending → World → Prop) : ∀ f w, ((fun f w => F19_s2 R (f 0) (f 1) (f 10) w)) f w → wpE Try.prog F19_dc (resK Try.prog [.tmp 4] R) (panK R) F19_s2_c (resK Try.prog [.tmp 4] R) noX f w :=
  fun f w h => cut (cR (cL (cR F19_b))) F19_s3_c (K := (fun f w => F19_s3 R (f 0) (f 1) w)) (F19_s3_ok R) f w (F19_s2_e R _ _ f w (Bc_imp (x' := (wpE Try.prog F19_dc (resK Try.prog [.tmp 4] R) (panK R) F19_s14_c (fun f w => F19_s3 R (f 0) (f 1) w) noX f w)) (y' := (wpE Try.prog F19_dc (resK Try.prog [.tmp 4] R) (panK R) .skip (fun f w => F19_s3 R (f 0) (f 1) w) noX f w)) ((F19_s14_ok R) f w) ((fun f w h => skip_ok h) f w) h))
def F19_s1_t (R : Ending → World → Prop) (K : Value → Value → Value → World → Prop) (v0 : Value) (v1 : Value) (w : World) : Prop :=
  un Try.prog R (builtin Go.Builtin.len #[38] 3 #[false] #[v0]) w (fun v7 w => -- ref.go:205
  un Try.prog R (builtin Go.Builtin.len #[38] 3 #[false] #[v1]) w (fun v9 w => -- ref.go:205
  uv Try.prog R (binS Go.BinOp.neq 3 (.tmp 7) (.tmp 9) v7 v9) w (fun v10 w => -- ref.go:205
  K v0 v1 v10 w)))
theorem F19_s1_st (R : Ending → World → Prop) (K : Value → Value → Value → World → Prop) (X : Nat → Fr → World → Prop) (f : Fr) (w : World) (h : F19_s1_t R K (f 0) (f 1) w) : wpE Try.prog F19_dc (resK Try.prog [.tmp 4] R) (panK R) (.seq (cL F19_b) (cL (cL (cR F19_b)))) (fun f w => K (f 0) (f 1) (f 10) w) X f w := Eq.mp (by kernel_rfl) h
def F19_s1 (R : Ending → World → Prop) (v0 : Value) (v1 : Value) (w : World) : Prop :=
  F19_s1_t R (F19_s2 R) v0 v1 w
noncomputable def F19_s1_c : Code := (.seq (.seq (cL F19_b) (cL (cL (cR F19_b)))) F19_s2_c)
theorem F19_s1_ok (R : Ending → World → Prop) : ∀ f w, ((fun f w => F19_s1 R (f 0) (f 1) w)) f w → wpE Try.prog F19_dc (resK Try.prog [.tmp 4] R) (panK R) F19_s1_c (resK Try.prog [.tmp 4] R) noX f w :=
  fun f w h => cut (.seq (cL F19_b) (cL (cL (cR F19_b)))) F19_s2_c (K := (fun f w => F19_s2 R (f 0) (f 1) (f 10) w)) (F19_s2_ok R) f w (F19_s1_st R (F19_s2 R) _ f w h)
theorem F19_all_e (R : Ending → World → Prop) (K : Fr → World → Prop) (X : Nat → Fr → World → Prop) (f : Fr) (w : World) (h : wpE Try.prog F19_dc (resK Try.prog [.tmp 4] R) (panK R) F19_s1_c K X f w) : wpE Try.prog F19_dc (resK Try.prog [.tmp 4] R) (panK R) F19_b K X f w := Eq.mp (by kernel_rfl) h
theorem F19_calls (R : Ending → World → Prop) (v0 : Value) (v1 : Value) (w : World) (h : F19_s1 R v0 v1 w) : Calls Try.prog 19 #[v0, v1] w R :=
  calls_of_wpE (dc := F19_dc) (args := [v0, v1]) hmixed Try.func19 (c := F19_b) rfl (rs := [.tmp 4]) rfl (by kernel_rfl) (Nat.le_of_ble_eq_true (by kernel_rfl)) (F19_all_e R _ _ _ w ((F19_s1_ok R) (initFr [v0, v1]) w h))

end Go.Proofs.Ytpghlemcgjogpaa
