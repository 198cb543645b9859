import Derived.Test.YtpghlemcgjogpaaProg
import Derived.Test.YtpghlemcgjogpaaSx
import Derived.Test.YtpghlemcgjogpaaT
set_option linter.unusedVariables false
set_option maxRecDepth 100000
set_option maxHeartbeats 400000
namespace Go.Proofs.Ytpghlemcgjogpaa
open Go.Sx
/-! ### slices.IndexFunc[[]hasp/locks.wish,hasp/locks.wish] -/
noncomputable def F25_b : Code := bodyOf Try.f25
def F25_dc : Nat → List (Nat × Bool)
  | _ => []
def F25_s3_t (R : Ending → World → Prop) (w : World) : Prop :=
  R (.returned (Go.Value.int Go.IntKind.i64 (-1))) w
theorem F25_s3_st (R : Ending → World → Prop) (X : Nat → Fr → World → Prop) (f : Fr) (w : World) (h : F25_s3_t R w) : wpE Try.prog F25_dc (resK Try.prog [.tmp 4] R) (panK R) (cL (cR (cR F25_b))) (resK Try.prog [.tmp 4] R) X f w := Eq.mp (by kernel_rfl) h
def F25_s3 (R : Ending → World → Prop) (w : World) : Prop :=
  F25_s3_t R w
noncomputable def F25_s3_c : Code := (.seq (cL (cR (cR F25_b))) .ret)
theorem F25_s3_ok (R : Ending → World → Prop) : ∀ f w, ((fun f w => F25_s3 R w)) f w → wpE Try.prog F25_dc (resK Try.prog [.tmp 4] R) (panK R) F25_s3_c (resK Try.prog [.tmp 4] R) noX f w :=
  fun f w h => cut (cL (cR (cR F25_b))) .ret (K := (resK Try.prog [.tmp 4] R)) (fun f w h => ret_ok h) f w (F25_s3_st R _ f w h)
def F25_s8_t (R : Ending → World → Prop) (K : Value → World → Prop) (v0 : Value) (v1 : Value) (v7 : Value) (v8 : Value) (w : World) : Prop :=
  uv Try.prog R (binS Go.BinOp.add 3 (.tmp 8) (.const (Go.Value.int Go.IntKind.i64 1)) v8 (Go.Value.int Go.IntKind.i64 1)) w (fun v18 w => -- slices.go:108
  K v18 w)
theorem F25_s8_st (R : Ending → World → Prop) (K : Value → World → Prop) (X : Nat → Fr → World → Prop) (f : Fr) (w : World) (h : F25_s8_t R K (f 0) (f 1) (f 7) (f 8) w) : wpE Try.prog F25_dc (resK Try.prog [.tmp 4] R) (panK R) (cR (cR (cR (cI (cI (cR (cL (cR F25_b)))))))) (fun f w => K (f 8) w) X f w := Eq.mp (by kernel_rfl) h
def F25_s8 (R : Ending → World → Prop) (rec4 : Value → World → Prop) (v0 : Value) (v1 : Value) (v7 : Value) (v8 : Value) (w : World) : Prop :=
  F25_s8_t R (rec4) v0 v1 v7 v8 w
noncomputable def F25_s8_c : Code := (.seq (cR (cR (cR (cI (cI (cR (cL (cR F25_b)))))))) .skip)
theorem F25_s8_ok (R : Ending → World → Prop) (rec4 : Value → World → Prop) : ∀ f w, ((fun f w => F25_s8 R rec4 (f 0) (f 1) (f 7) (f 8) w)) f w → wpE Try.prog F25_dc (resK Try.prog [.tmp 4] R) (panK R) F25_s8_c (fun f w => rec4 (f 8) w) (kxB 0 ((fun f w => F25_s3 R w)) noX) f w :=
  fun f w h => cut (cR (cR (cR (cI (cI (cR (cL (cR F25_b)))))))) .skip (K := (fun f w => rec4 (f 8) w)) (fun f w h => skip_ok h) f w (F25_s8_st R (rec4) _ f w h)
def F25_s11_t (R : Ending → World → Prop) (v5 : Value) (w : World) : Prop :=
  R (.returned v5) w
theorem F25_s11_st (R : Ending → World → Prop) (X : Nat → Fr → World → Prop) (f : Fr) (w : World) (h : F25_s11_t R (f 5) w) : wpE Try.prog F25_dc (resK Try.prog [.tmp 4] R) (panK R) (cL (cT (cR (cR (cI (cL (cR (cR (cI (cI (cR (cL (cR F25_b))))))))))))) (resK Try.prog [.tmp 4] R) X f w := Eq.mp (by kernel_rfl) h
def F25_s11 (R : Ending → World → Prop) (rec4 : Value → World → Prop) (v5 : Value) (w : World) : Prop :=
  F25_s11_t R v5 w
noncomputable def F25_s11_c : Code := (.seq (cL (cT (cR (cR (cI (cL (cR (cR (cI (cI (cR (cL (cR F25_b))))))))))))) .ret)
theorem F25_s11_ok (R : Ending → World → Prop) (rec4 : Value → World → Prop) : ∀ f w, ((fun f w => F25_s11 R rec4 (f 5) w)) f w → wpE Try.prog F25_dc (resK Try.prog [.tmp 4] R) (panK R) F25_s11_c (fun f w => F25_s8 R rec4 (f 0) (f 1) (f 7) (f 8) w) (kxB 1 ((fun f w => F25_s8 R rec4 (f 0) (f 1) (f 7) (f 8) w)) (kxB 0 ((fun f w => F25_s3 R w)) noX)) f w :=
  fun f w h => cut (cL (cT (cR (cR (cI (cL (cR (cR (cI (cI (cR (cL (cR F25_b))))))))))))) .ret (K := (resK Try.prog [.tmp 4] R)) (fun f w h => ret_ok h) f w (F25_s11_st R _ f w h)
def F25_s10 (R : Ending → World → Prop) (rec4 : Value → World → Prop) (v0 : Value) (v1 : Value) (v5 : Value) (v7 : Value) (v8 : Value) (v16 : Value) (w : World) : Prop :=
  Bc v16
    (F25_s11 R rec4 v5 w)
    (F25_s8 R rec4 v0 v1 v7 v8 w)
noncomputable def F25_s10_c : Code := (.seq (cR (cR (cI (cL (cR (cR (cI (cI (cR (cL (cR F25_b))))))))))) .skip)
theorem F25_s10_e (R : Ending → World → Prop) (K : Fr → World → Prop) (X : Nat → Fr → World → Prop) (f : Fr) (w : World) (h : Bc (f 16) (wpE Try.prog F25_dc (resK Try.prog [.tmp 4] R) (panK R) F25_s11_c K X f w) (wpE Try.prog F25_dc (resK Try.prog [.tmp 4] R) (panK R) .skip K X f w)) : (wpE Try.prog F25_dc (resK Try.prog [.tmp 4] R) (panK R) (cR (cR (cI (cL (cR (cR (cI (cI (cR (cL (cR F25_b))))))))))) K X f w) := Eq.mp (by kernel_rfl) h
theorem F25_s10_ok (R : Ending → World → Prop) (rec4 : Value → World → Prop) : ∀ f w, ((fun f w => F25_s10 R rec4 (f 0) (f 1) (f 5) (f 7) (f 8) (f 16) w)) f w → wpE Try.prog F25_dc (resK Try.prog [.tmp 4] R) (panK R) F25_s10_c (fun f w => F25_s8 R rec4 (f 0) (f 1) (f 7) (f 8) w) (kxB 1 ((fun f w => F25_s8 R rec4 (f 0) (f 1) (f 7) (f 8) w)) (kxB 0 ((fun f w => F25_s3 R w)) noX)) f w :=
  fun f w h => cut (cR (cR (cI (cL (cR (cR (cI (cI (cR (cL (cR F25_b))))))))))) .skip (K := (fun f w => F25_s8 R rec4 (f 0) (f 1) (f 7) (f 8) w)) (fun f w h => skip_ok h) f w (F25_s10_e R _ _ f w (Bc_imp (x' := (wpE Try.prog F25_dc (resK Try.prog [.tmp 4] R) (panK R) F25_s11_c (fun f w => F25_s8 R rec4 (f 0) (f 1) (f 7) (f 8) w) (kxB 1 ((fun f w => F25_s8 R rec4 (f 0) (f 1) (f 7) (f 8) w)) (kxB 0 ((fun f w => F25_s3 R w)) noX)) f w)) (y' := (wpE Try.prog F25_dc (resK Try.prog [.tmp 4] R) (panK R) .skip (fun f w => F25_s8 R rec4 (f 0) (f 1) (f 7) (f 8) w) (kxB 1 ((fun f w => F25_s8 R rec4 (f 0) (f 1) (f 7) (f 8) w)) (kxB 0 ((fun f w => F25_s3 R w)) noX)) f w)) ((F25_s11_ok R rec4) f w) ((fun f w h => skip_ok h) f w) h))
def F25_s9_t (R : Ending → World → Prop) (K : Value → Value → Value → Value → Value → Value → World → Prop) (v0 : Value) (v1 : Value) (v7 : Value) (v8 : Value) (w : World) : Prop :=
  uv Try.prog R (Instr.indexAt 57 v0 v8) w (fun v14 w => -- slices.go:109
  uv Try.prog R (Instr.loadAt 62 v14) w (fun v15 w => -- slices.go:109
  un Try.prog R (callV v1 #[v15]) w (fun v16 w => -- slices.go:109
  K v0 v1 v8 v7 v8 v16 w)))
theorem F25_s9_st (R : Ending → World → Prop) (K : Value → Value → Value → Value → Value → Value → World → Prop) (X : Nat → Fr → World → Prop) (f : Fr) (w : World) (h : F25_s9_t R K (f 0) (f 1) (f 7) (f 8) w) : wpE Try.prog F25_dc (resK Try.prog [.tmp 4] R) (panK R) (.seq (cL (cI (cL (cR (cR (cI (cI (cR (cL (cR F25_b)))))))))) (cL (cR (cI (cL (cR (cR (cI (cI (cR (cL (cR F25_b)))))))))))) (fun f w => K (f 0) (f 1) (f 5) (f 7) (f 8) (f 16) w) X f w := Eq.mp (by kernel_rfl) h
def F25_s9 (R : Ending → World → Prop) (rec4 : Value → World → Prop) (v0 : Value) (v1 : Value) (v7 : Value) (v8 : Value) (w : World) : Prop :=
  F25_s9_t R (F25_s10 R rec4) v0 v1 v7 v8 w
noncomputable def F25_s9_c : Code := (.seq (.seq (cL (cI (cL (cR (cR (cI (cI (cR (cL (cR F25_b)))))))))) (cL (cR (cI (cL (cR (cR (cI (cI (cR (cL (cR F25_b)))))))))))) F25_s10_c)
theorem F25_s9_ok (R : Ending → World → Prop) (rec4 : Value → World → Prop) : ∀ f w, ((fun f w => F25_s9 R rec4 (f 0) (f 1) (f 7) (f 8) w)) f w → wpE Try.prog F25_dc (resK Try.prog [.tmp 4] R) (panK R) F25_s9_c (fun f w => F25_s8 R rec4 (f 0) (f 1) (f 7) (f 8) w) (kxB 1 ((fun f w => F25_s8 R rec4 (f 0) (f 1) (f 7) (f 8) w)) (kxB 0 ((fun f w => F25_s3 R w)) noX)) f w :=
  fun f w h => cut (.seq (cL (cI (cL (cR (cR (cI (cI (cR (cL (cR F25_b)))))))))) (cL (cR (cI (cL (cR (cR (cI (cI (cR (cL (cR F25_b)))))))))))) F25_s10_c (K := (fun f w => F25_s10 R rec4 (f 0) (f 1) (f 5) (f 7) (f 8) (f 16) w)) (F25_s10_ok R rec4) f w (F25_s9_st R (F25_s10 R rec4) _ f w h)
noncomputable def F25_s7_c : Code := (.seq (cL (cR (cR (cI (cI (cR (cL (cR F25_b)))))))) F25_s8_c)
theorem F25_s7_e (R : Ending → World → Prop) (K : Fr → World → Prop) (X : Nat → Fr → World → Prop) (f : Fr) (w : World) (h : wpE Try.prog F25_dc (resK Try.prog [.tmp 4] R) (panK R) F25_s9_c K (kxB 1 K X) f w) : wpE Try.prog F25_dc (resK Try.prog [.tmp 4] R) (panK R) (cL (cR (cR (cI (cI (cR (cL (cR F25_b)))))))) K X f w := Eq.mp (by kernel_rfl) h
theorem F25_s7_ok (R : Ending → World → Prop) (rec4 : Value → World → Prop) : ∀ f w, ((fun f w => F25_s9 R rec4 (f 0) (f 1) (f 7) (f 8) w)) f w → wpE Try.prog F25_dc (resK Try.prog [.tmp 4] R) (panK R) F25_s7_c (fun f w => rec4 (f 8) w) (kxB 0 ((fun f w => F25_s3 R w)) noX) f w :=
  fun f w h => cut (cL (cR (cR (cI (cI (cR (cL (cR F25_b)))))))) F25_s8_c (K := (fun f w => F25_s8 R rec4 (f 0) (f 1) (f 7) (f 8) w)) (F25_s8_ok R rec4) f w (F25_s7_e R _ _ f w ((F25_s9_ok R rec4) f w h))
def F25_s6 (R : Ending → World → Prop) (rec4 : Value → World → Prop) (v0 : Value) (v1 : Value) (v7 : Value) (v8 : Value) (v9 : Value) (w : World) : Prop :=
  Bc v9
    (F25_s9 R rec4 v0 v1 v7 v8 w)
    (F25_s3 R w)
noncomputable def F25_s6_c : Code := (.seq (cL (cR (cI (cI (cR (cL (cR F25_b))))))) F25_s7_c)
theorem F25_s6_e (R : Ending → World → Prop) (K : Fr → World → Prop) (X : Nat → Fr → World → Prop) (f : Fr) (w : World) (h : Bc (f 9) (wpE Try.prog F25_dc (resK Try.prog [.tmp 4] R) (panK R) .skip K X f w) (wpE Try.prog F25_dc (resK Try.prog [.tmp 4] R) (panK R) (.exit 0) K X f w)) : (wpE Try.prog F25_dc (resK Try.prog [.tmp 4] R) (panK R) (cL (cR (cI (cI (cR (cL (cR F25_b))))))) K X f w) := Eq.mp (by kernel_rfl) h
theorem F25_s6_ok (R : Ending → World → Prop) (rec4 : Value → World → Prop) : ∀ f w, ((fun f w => F25_s6 R rec4 (f 0) (f 1) (f 7) (f 8) (f 9) w)) f w → wpE Try.prog F25_dc (resK Try.prog [.tmp 4] R) (panK R) F25_s6_c (fun f w => rec4 (f 8) w) (kxB 0 ((fun f w => F25_s3 R w)) noX) f w :=
  fun f w h => cut (cL (cR (cI (cI (cR (cL (cR F25_b))))))) F25_s7_c (K := (fun f w => F25_s9 R rec4 (f 0) (f 1) (f 7) (f 8) w)) (F25_s7_ok R rec4) f w (F25_s6_e R _ _ f w (Bc_imp (x' := (wpE Try.prog F25_dc (resK Try.prog [.tmp 4] R) (panK R) .skip (fun f w => F25_s9 R rec4 (f 0) (f 1) (f 7) (f 8) w) (kxB 0 ((fun f w => F25_s3 R w)) noX) f w)) (y' := (wpE Try.prog F25_dc (resK Try.prog [.tmp 4] R) (panK R) (.exit 0) (fun f w => F25_s9 R rec4 (f 0) (f 1) (f 7) (f 8) w) (kxB 0 ((fun f w => F25_s3 R w)) noX) f w)) ((fun f w h => skip_ok h) f w) ((fun f w h => exit_hit h) f w) h))
def F25_s5_t (R : Ending → World → Prop) (K : Value → Value → Value → Value → Value → World → Prop) (v0 : Value) (v1 : Value) (v7 : Value) (v8 : Value) (w : World) : Prop :=
  uv Try.prog R (binS Go.BinOp.lss 3 (.tmp 8) (.tmp 7) v8 v7) w (fun v9 w => -- slices.go:108
  K v0 v1 v7 v8 v9 w)
theorem F25_s5_st (R : Ending → World → Prop) (K : Value → Value → Value → Value → Value → World → Prop) (X : Nat → Fr → World → Prop) (f : Fr) (w : World) (h : F25_s5_t R K (f 0) (f 1) (f 7) (f 8) w) : wpE Try.prog F25_dc (resK Try.prog [.tmp 4] R) (panK R) (cL (cI (cI (cR (cL (cR F25_b)))))) (fun f w => K (f 0) (f 1) (f 7) (f 8) (f 9) w) X f w := Eq.mp (by kernel_rfl) h
def F25_s5 (R : Ending → World → Prop) (rec4 : Value → World → Prop) (v0 : Value) (v1 : Value) (v7 : Value) (v8 : Value) (w : World) : Prop :=
  F25_s5_t R (F25_s6 R rec4) v0 v1 v7 v8 w
noncomputable def F25_s5_c : Code := (.seq (cL (cI (cI (cR (cL (cR F25_b)))))) F25_s6_c)
theorem F25_s5_ok (R : Ending → World → Prop) (rec4 : Value → World → Prop) : ∀ f w, ((fun f w => F25_s5 R rec4 (f 0) (f 1) (f 7) (f 8) w)) f w → wpE Try.prog F25_dc (resK Try.prog [.tmp 4] R) (panK R) F25_s5_c (fun f w => rec4 (f 8) w) (kxB 0 ((fun f w => F25_s3 R w)) noX) f w :=
  fun f w h => cut (cL (cI (cI (cR (cL (cR F25_b)))))) F25_s6_c (K := (fun f w => F25_s6 R rec4 (f 0) (f 1) (f 7) (f 8) (f 9) w)) (F25_s6_ok R rec4) f w (F25_s5_st R (F25_s6 R rec4) _ f w h)
def F25_s4 (R : Ending → World → Prop) (v0 : Value) (v1 : Value) (v7 : Value) (v8 : Value) (w : World) : Prop :=
  Lp1 (fun rec4 v8 w => F25_s5 R rec4 v0 v1 v7 v8 w) v8 w
theorem F25_s4_e (R : Ending → World → Prop) (K : Fr → World → Prop) (X : Nat → Fr → World → Prop) (f : Fr) (w : World) (h : wpE Try.prog F25_dc (resK Try.prog [.tmp 4] R) (panK R) (.loop (cI (cI (cR (cL (cR F25_b)))))) K X f w) : wpE Try.prog F25_dc (resK Try.prog [.tmp 4] R) (panK R) (cI (cR (cL (cR F25_b)))) K X f w := Eq.mp (by kernel_rfl) h
theorem F25_s4b_e (R : Ending → World → Prop) (K : Fr → World → Prop) (X : Nat → Fr → World → Prop) (f : Fr) (w : World) (h : wpE Try.prog F25_dc (resK Try.prog [.tmp 4] R) (panK R) F25_s5_c K X f w) : wpE Try.prog F25_dc (resK Try.prog [.tmp 4] R) (panK R) (cI (cI (cR (cL (cR F25_b))))) K X f w := Eq.mp (by kernel_rfl) h
theorem F25_s4_ok (R : Ending → World → Prop) : ∀ f w, ((fun f w => F25_s4 R (f 0) (f 1) (f 7) (f 8) w)) f w → wpE Try.prog F25_dc (resK Try.prog [.tmp 4] R) (panK R) (cI (cR (cL (cR F25_b)))) (fun f w => F25_s3 R w) (kxB 0 ((fun f w => F25_s3 R w)) noX) f w :=
  fun f w h => F25_s4_e R _ _ f w (loop1_ok (P := Try.prog) (dc := F25_dc) (kr := (resK Try.prog [.tmp 4] R)) (pan := panK R) (cI (cI (cR (cL (cR F25_b))))) (kn := (fun f w => F25_s3 R w)) (kx := (kxB 0 ((fun f w => F25_s3 R w)) noX)) (s0 := 8) (fun rec4 v8 w => F25_s5 R rec4 (f 0) (f 1) (f 7) v8 w) f (fun rec4 f' w' hf h' => F25_s4b_e R _ _ f' w' ((F25_s5_ok R rec4) f' w' (by simp only [hf 0 (by kernel_rfl), hf 1 (by kernel_rfl), hf 7 (by kernel_rfl)]; exact h'))) w h)
noncomputable def F25_s2_c : Code := (.seq (cR (cL (cR F25_b))) F25_s3_c)
theorem F25_s2_e (R : Ending → World → Prop) (K : Fr → World → Prop) (X : Nat → Fr → World → Prop) (f : Fr) (w : World) (h : wpE Try.prog F25_dc (resK Try.prog [.tmp 4] R) (panK R) (cI (cR (cL (cR F25_b)))) K (kxB 0 K X) f w) : wpE Try.prog F25_dc (resK Try.prog [.tmp 4] R) (panK R) (cR (cL (cR F25_b))) K X f w := Eq.mp (by kernel_rfl) h
theorem F25_s2_ok (R : Ending → World → Prop) : ∀ f w, ((fun f w => F25_s4 R (f 0) (f 1) (f 7) (f 8) w)) f w → wpE Try.prog F25_dc (resK Try.prog [.tmp 4] R) (panK R) F25_s2_c (resK Try.prog [.tmp 4] R) noX f w :=
  fun f w h => cut (cR (cL (cR F25_b))) F25_s3_c (K := (fun f w => F25_s3 R w)) (F25_s3_ok R) f w (F25_s2_e R _ _ f w ((F25_s4_ok R) f w h))
def F25_s1_t (R : Ending → World → Prop) (K : Value → Value → Value → Value → World → Prop) (v0 : Value) (v1 : Value) (w : World) : Prop :=
  un Try.prog R (builtin Go.Builtin.len #[57] 3 #[false] #[v0]) w (fun v7 w => -- slices.go:108
  K v0 v1 v7 (Go.Value.int Go.IntKind.i64 0) w)
theorem F25_s1_st (R : Ending → World → Prop) (K : Value → Value → Value → Value → World → Prop) (X : Nat → Fr → World → Prop) (f : Fr) (w : World) (h : F25_s1_t R K (f 0) (f 1) w) : wpE Try.prog F25_dc (resK Try.prog [.tmp 4] R) (panK R) (.seq (cL F25_b) (cL (cL (cR F25_b)))) (fun f w => K (f 0) (f 1) (f 7) (f 8) w) X f w := Eq.mp (by kernel_rfl) h
def F25_s1 (R : Ending → World → Prop) (v0 : Value) (v1 : Value) (w : World) : Prop :=
  F25_s1_t R (F25_s4 R) v0 v1 w
noncomputable def F25_s1_c : Code := (.seq (.seq (cL F25_b) (cL (cL (cR F25_b)))) F25_s2_c)
theorem F25_s1_ok (R : Ending → World → Prop) : ∀ f w, ((fun f w => F25_s1 R (f 0) (f 1) w)) f w → wpE Try.prog F25_dc (resK Try.prog [.tmp 4] R) (panK R) F25_s1_c (resK Try.prog [.tmp 4] R) noX f w :=
  fun f w h => cut (.seq (cL F25_b) (cL (cL (cR F25_b)))) F25_s2_c (K := (fun f w => F25_s4 R (f 0) (f 1) (f 7) (f 8) w)) (F25_s2_ok R) f w (F25_s1_st R (F25_s4 R) _ f w h)
theorem F25_all_e (R : Ending → World → Prop) (K : Fr → World → Prop) (X : Nat → Fr → World → Prop) (f : Fr) (w : World) (h : wpE Try.prog F25_dc (resK Try.prog [.tmp 4] R) (panK R) F25_s1_c K X f w) : wpE Try.prog F25_dc (resK Try.prog [.tmp 4] R) (panK R) F25_b K X f w := Eq.mp (by kernel_rfl) h
theorem F25_calls (R : Ending → World → Prop) (v0 : Value) (v1 : Value) (w : World) (h : F25_s1 R v0 v1 w) : Calls Try.prog 25 #[v0, v1] w R :=
  calls_of_wpE (dc := F25_dc) (args := [v0, v1]) hmixed Try.func25 (c := F25_b) rfl (rs := [.tmp 4]) rfl (by kernel_rfl) (Nat.le_of_ble_eq_true (by kernel_rfl)) (F25_all_e R _ _ _ w ((F25_s1_ok R) (initFr [v0, v1]) w h))

/-! ### slices.Insert[[]hasp/locks.wish,hasp/locks.wish] -/
noncomputable def F27_b : Code := bodyOf Try.f27
def F27_dc : Nat → List (Nat × Bool)
  | 15 => [(0, true), (1, true), (2, true), (3, true), (4, true), (5, true), (6, true), (7, true), (8, false)]
  | 11 => [(0, true), (1, true), (2, true), (3, true), (4, true), (5, true), (6, true), (7, true), (8, false)]
  | _ => []
def F27_s9_t (R : Ending → World → Prop) (v0 : Value) (v1 : Value) (v2 : Value) (v7 : Value) (v8 : Value) (w : World) : Prop :=
  uv Try.prog R (Instr.sliceAt 57 v0 (some v8) none none) w (fun v86 w => -- slices.go:200
  un Try.prog R (builtin Go.Builtin.copy #[57, 57] 3 #[false, false] #[v86, v2]) w (fun v88 w => -- slices.go:200
  uv Try.prog R (Instr.sliceAt 57 v0 (some v1) none none) w (fun v91 w => -- slices.go:207
  un Try.prog R (callFunc 48 #[v91, v7]) w (fun v93 w => -- slices.go:207
  R (.returned v0) w))))
theorem F27_s9_st (R : Ending → World → Prop) (X : Nat → Fr → World → Prop) (f : Fr) (w : World) (h : F27_s9_t R (f 0) (f 1) (f 2) (f 7) (f 8) w) : wpE Try.prog F27_dc (resK Try.prog [.tmp 6] R) (panK R) (.seq (cL (cR (cR (cR (cR (cR (cR (cR (cR (cR F27_b)))))))))) (.seq (cL (cR (cR (cR (cR (cR (cR (cR (cR (cR (cR F27_b))))))))))) (cL (cR (cR (cR (cR (cR (cR (cR (cR (cR (cR (cR F27_b)))))))))))))) (resK Try.prog [.tmp 6] R) X f w := Eq.mp (by kernel_rfl) h
def F27_s9 (R : Ending → World → Prop) (v0 : Value) (v1 : Value) (v2 : Value) (v7 : Value) (v8 : Value) (w : World) : Prop :=
  F27_s9_t R v0 v1 v2 v7 v8 w
noncomputable def F27_s9_c : Code := (.seq (.seq (cL (cR (cR (cR (cR (cR (cR (cR (cR (cR F27_b)))))))))) (.seq (cL (cR (cR (cR (cR (cR (cR (cR (cR (cR (cR F27_b))))))))))) (cL (cR (cR (cR (cR (cR (cR (cR (cR (cR (cR (cR F27_b)))))))))))))) .ret)
theorem F27_s9_ok (R : Ending → World → Prop) : ∀ f w, ((fun f w => F27_s9 R (f 0) (f 1) (f 2) (f 7) (f 8) w)) f w → wpE Try.prog F27_dc (resK Try.prog [.tmp 6] R) (panK R) F27_s9_c (resK Try.prog [.tmp 6] R) noX f w :=
  fun f w h => cut (.seq (cL (cR (cR (cR (cR (cR (cR (cR (cR (cR F27_b)))))))))) (.seq (cL (cR (cR (cR (cR (cR (cR (cR (cR (cR (cR F27_b))))))))))) (cL (cR (cR (cR (cR (cR (cR (cR (cR (cR (cR (cR F27_b)))))))))))))) .ret (K := (resK Try.prog [.tmp 6] R)) (fun f w h => ret_ok h) f w (F27_s9_st R _ f w h)
def F27_s10_t (R : Ending → World → Prop) (v0 : Value) (v1 : Value) (v2 : Value) (v7 : Value) (w : World) : Prop :=
  Dr (fun S w => -- slices.go:178
  HV Try.prog S (binS Go.BinOp.add 3 (.tmp 70) (.tmp 71) v1 v7) (fun v72 => -- slices.go:178
  HV Try.prog S (Instr.sliceAt 57 v0 (some v72) none none) (fun v73 => -- slices.go:178
  HV Try.prog S (Instr.sliceAt 57 v0 (some v1) none none) (fun v76 => -- slices.go:178
  un Try.prog R (builtin Go.Builtin.copy #[57, 57] 3 #[false, false] #[v73, v76]) w (fun v77 w => -- slices.go:178
  uv Try.prog R (Instr.sliceAt 57 v0 (some v1) none none) w (fun v80 w => -- slices.go:186
  un Try.prog R (builtin Go.Builtin.copy #[57, 57] 3 #[false, false] #[v80, v2]) w (fun v82 w => -- slices.go:186
  R (.returned v0) w))))))) w
theorem F27_s10_st (R : Ending → World → Prop) (X : Nat → Fr → World → Prop) (f : Fr) (w : World) (h : F27_s10_t R (f 0) (f 1) (f 2) (f 7) w) : wpE Try.prog F27_dc (resK Try.prog [.tmp 6] R) (panK R) (.seq (cL (cT (cR (cL (cR (cR (cR (cR (cR (cR (cR (cR F27_b)))))))))))) (.seq (cL (cR (cT (cR (cL (cR (cR (cR (cR (cR (cR (cR (cR F27_b))))))))))))) (cL (cR (cR (cT (cR (cL (cR (cR (cR (cR (cR (cR (cR (cR F27_b)))))))))))))))) (resK Try.prog [.tmp 6] R) X f w := Eq.mp (by kernel_rfl) h
def F27_s10 (R : Ending → World → Prop) (v0 : Value) (v1 : Value) (v2 : Value) (v7 : Value) (w : World) : Prop :=
  F27_s10_t R v0 v1 v2 v7 w
noncomputable def F27_s10_c : Code := (.seq (.seq (cL (cT (cR (cL (cR (cR (cR (cR (cR (cR (cR (cR F27_b)))))))))))) (.seq (cL (cR (cT (cR (cL (cR (cR (cR (cR (cR (cR (cR (cR F27_b))))))))))))) (cL (cR (cR (cT (cR (cL (cR (cR (cR (cR (cR (cR (cR (cR F27_b)))))))))))))))) .ret)
theorem F27_s10_ok (R : Ending → World → Prop) : ∀ f w, ((fun f w => F27_s10 R (f 0) (f 1) (f 2) (f 7) w)) f w → wpE Try.prog F27_dc (resK Try.prog [.tmp 6] R) (panK R) F27_s10_c (fun f w => F27_s9 R (f 0) (f 1) (f 2) (f 7) (f 8) w) noX f w :=
  fun f w h => cut (.seq (cL (cT (cR (cL (cR (cR (cR (cR (cR (cR (cR (cR F27_b)))))))))))) (.seq (cL (cR (cT (cR (cL (cR (cR (cR (cR (cR (cR (cR (cR F27_b))))))))))))) (cL (cR (cR (cT (cR (cL (cR (cR (cR (cR (cR (cR (cR (cR F27_b)))))))))))))))) .ret (K := (resK Try.prog [.tmp 6] R)) (fun f w h => ret_ok h) f w (F27_s10_st R _ f w h)
def F27_s8 (R : Ending → World → Prop) (v0 : Value) (v1 : Value) (v2 : Value) (v7 : Value) (v8 : Value) (v68 : Value) (w : World) : Prop :=
  Bc v68
    (F27_s10 R v0 v1 v2 v7 w)
    (F27_s9 R v0 v1 v2 v7 v8 w)
noncomputable def F27_s8_c : Code := (.seq (cR (cL (cR (cR (cR (cR (cR (cR (cR (cR F27_b)))))))))) F27_s9_c)
theorem F27_s8_e (R : Ending → World → Prop) (K : Fr → World → Prop) (X : Nat → Fr → World → Prop) (f : Fr) (w : World) (h : Bc (f 68) (wpE Try.prog F27_dc (resK Try.prog [.tmp 6] R) (panK R) F27_s10_c K X f w) (wpE Try.prog F27_dc (resK Try.prog [.tmp 6] R) (panK R) .skip K X f w)) : (wpE Try.prog F27_dc (resK Try.prog [.tmp 6] R) (panK R) (cR (cL (cR (cR (cR (cR (cR (cR (cR (cR F27_b)))))))))) K X f w) := Eq.mp (by kernel_rfl) h
theorem F27_s8_ok (R : Ending → World → Prop) : ∀ f w, ((fun f w => F27_s8 R (f 0) (f 1) (f 2) (f 7) (f 8) (f 68) w)) f w → wpE Try.prog F27_dc (resK Try.prog [.tmp 6] R) (panK R) F27_s8_c (resK Try.prog [.tmp 6] R) noX f w :=
  fun f w h => cut (cR (cL (cR (cR (cR (cR (cR (cR (cR (cR F27_b)))))))))) F27_s9_c (K := (fun f w => F27_s9 R (f 0) (f 1) (f 2) (f 7) (f 8) w)) (F27_s9_ok R) f w (F27_s8_e R _ _ f w (Bc_imp (x' := (wpE Try.prog F27_dc (resK Try.prog [.tmp 6] R) (panK R) F27_s10_c (fun f w => F27_s9 R (f 0) (f 1) (f 2) (f 7) (f 8) w) noX f w)) (y' := (wpE Try.prog F27_dc (resK Try.prog [.tmp 6] R) (panK R) .skip (fun f w => F27_s9 R (f 0) (f 1) (f 2) (f 7) (f 8) w) noX f w)) ((F27_s10_ok R) f w) ((fun f w h => skip_ok h) f w) h))
def F27_s7_t (R : Ending → World → Prop) (K : Value → Value → Value → Value → Value → Value → World → Prop) (v0 : Value) (v1 : Value) (v2 : Value) (v7 : Value) (v8 : Value) (w : World) : Prop :=
  uv Try.prog R (binS Go.BinOp.add 3 (.tmp 57) (.tmp 58) v8 v7) w (fun v59 w => -- slices.go:157
  uv Try.prog R (Instr.sliceAt 57 v0 none (some v59) none) w (fun v60 w => -- slices.go:157
  uv Try.prog R (binS Go.BinOp.add 3 (.tmp 63) (.tmp 64) v1 v7) w (fun v65 w => -- slices.go:173
  uv Try.prog R (Instr.sliceAt 57 v60 (some v65) none none) w (fun v66 w => -- slices.go:173
  un Try.prog R (callFunc 47 #[v2, v66]) w (fun v67 w => -- slices.go:173
  uv Try.prog R (Op.unary Go.UnOp.not v67) w (fun v68 w => -- slices.go:173
  K v60 v1 v2 v7 v8 v68 w))))))
theorem F27_s7_st (R : Ending → World → Prop) (K : Value → Value → Value → Value → Value → Value → World → Prop) (X : Nat → Fr → World → Prop) (f : Fr) (w : World) (h : F27_s7_t R K (f 0) (f 1) (f 2) (f 7) (f 8) w) : wpE Try.prog F27_dc (resK Try.prog [.tmp 6] R) (panK R) (.seq (cL (cR (cR (cR (cR (cR (cR (cR F27_b)))))))) (cL (cL (cR (cR (cR (cR (cR (cR (cR (cR F27_b))))))))))) (fun f w => K (f 0) (f 1) (f 2) (f 7) (f 8) (f 68) w) X f w := Eq.mp (by kernel_rfl) h
def F27_s7 (R : Ending → World → Prop) (v0 : Value) (v1 : Value) (v2 : Value) (v7 : Value) (v8 : Value) (w : World) : Prop :=
  F27_s7_t R (F27_s8 R) v0 v1 v2 v7 v8 w
noncomputable def F27_s7_c : Code := (.seq (.seq (cL (cR (cR (cR (cR (cR (cR (cR F27_b)))))))) (cL (cL (cR (cR (cR (cR (cR (cR (cR (cR F27_b))))))))))) F27_s8_c)
theorem F27_s7_ok (R : Ending → World → Prop) : ∀ f w, ((fun f w => F27_s7 R (f 0) (f 1) (f 2) (f 7) (f 8) w)) f w → wpE Try.prog F27_dc (resK Try.prog [.tmp 6] R) (panK R) F27_s7_c (resK Try.prog [.tmp 6] R) noX f w :=
  fun f w h => cut (.seq (cL (cR (cR (cR (cR (cR (cR (cR F27_b)))))))) (cL (cL (cR (cR (cR (cR (cR (cR (cR (cR F27_b))))))))))) F27_s8_c (K := (fun f w => F27_s8 R (f 0) (f 1) (f 2) (f 7) (f 8) (f 68) w)) (F27_s8_ok R) f w (F27_s7_st R (F27_s8 R) _ f w h)
def F27_s11_t (R : Ending → World → Prop) (v0 : Value) (v1 : Value) (v2 : Value) (v7 : Value) (v8 : Value) (w : World) : Prop :=
  uv Try.prog R (Instr.sliceAt 57 v0 none (some v1) none) w (fun v34 w => -- slices.go:152
  uv Try.prog R (binS Go.BinOp.add 3 (.tmp 35) (.tmp 36) v8 v7) w (fun v37 w => -- slices.go:152
  uv Try.prog R (binS Go.BinOp.sub 3 (.tmp 37) (.tmp 38) v37 v1) w (fun v39 w => -- slices.go:152
  un Try.prog R (builtin Go.Builtin.append #[57, 3] 57 #[false, false] #[v34, v39]) w (fun v40 w => -- slices.go:152
  uv Try.prog R (Instr.sliceAt 57 v40 (some v1) none none) w (fun v43 w => -- slices.go:153
  un Try.prog R (builtin Go.Builtin.copy #[57, 57] 3 #[false, false] #[v43, v2]) w (fun v45 w => -- slices.go:153
  Dr (fun S w => -- slices.go:154
  HV Try.prog S (binS Go.BinOp.add 3 (.tmp 47) (.tmp 48) v1 v7) (fun v49 => -- slices.go:154
  HV Try.prog S (Instr.sliceAt 57 v40 (some v49) none none) (fun v50 => -- slices.go:154
  HV Try.prog S (Instr.sliceAt 57 v0 (some v1) none none) (fun v53 => -- slices.go:154
  un Try.prog R (builtin Go.Builtin.copy #[57, 57] 3 #[false, false] #[v50, v53]) w (fun v54 w => -- slices.go:154
  R (.returned v40) w))))) w))))))
theorem F27_s11_st (R : Ending → World → Prop) (X : Nat → Fr → World → Prop) (f : Fr) (w : World) (h : F27_s11_t R (f 0) (f 1) (f 2) (f 7) (f 8) w) : wpE Try.prog F27_dc (resK Try.prog [.tmp 6] R) (panK R) (.seq (cL (cT (cR (cL (cR (cR (cR (cR (cR (cR F27_b)))))))))) (.seq (cL (cR (cT (cR (cL (cR (cR (cR (cR (cR (cR F27_b))))))))))) (.seq (cL (cR (cR (cT (cR (cL (cR (cR (cR (cR (cR (cR F27_b)))))))))))) (cL (cR (cR (cR (cT (cR (cL (cR (cR (cR (cR (cR (cR F27_b)))))))))))))))) (resK Try.prog [.tmp 6] R) X f w := Eq.mp (by kernel_rfl) h
def F27_s11 (R : Ending → World → Prop) (v0 : Value) (v1 : Value) (v2 : Value) (v7 : Value) (v8 : Value) (w : World) : Prop :=
  F27_s11_t R v0 v1 v2 v7 v8 w
noncomputable def F27_s11_c : Code := (.seq (.seq (cL (cT (cR (cL (cR (cR (cR (cR (cR (cR F27_b)))))))))) (.seq (cL (cR (cT (cR (cL (cR (cR (cR (cR (cR (cR F27_b))))))))))) (.seq (cL (cR (cR (cT (cR (cL (cR (cR (cR (cR (cR (cR F27_b)))))))))))) (cL (cR (cR (cR (cT (cR (cL (cR (cR (cR (cR (cR (cR F27_b)))))))))))))))) .ret)
theorem F27_s11_ok (R : Ending → World → Prop) : ∀ f w, ((fun f w => F27_s11 R (f 0) (f 1) (f 2) (f 7) (f 8) w)) f w → wpE Try.prog F27_dc (resK Try.prog [.tmp 6] R) (panK R) F27_s11_c (fun f w => F27_s7 R (f 0) (f 1) (f 2) (f 7) (f 8) w) noX f w :=
  fun f w h => cut (.seq (cL (cT (cR (cL (cR (cR (cR (cR (cR (cR F27_b)))))))))) (.seq (cL (cR (cT (cR (cL (cR (cR (cR (cR (cR (cR F27_b))))))))))) (.seq (cL (cR (cR (cT (cR (cL (cR (cR (cR (cR (cR (cR F27_b)))))))))))) (cL (cR (cR (cR (cT (cR (cL (cR (cR (cR (cR (cR (cR F27_b)))))))))))))))) .ret (K := (resK Try.prog [.tmp 6] R)) (fun f w h => ret_ok h) f w (F27_s11_st R _ f w h)
def F27_s6 (R : Ending → World → Prop) (v0 : Value) (v1 : Value) (v2 : Value) (v7 : Value) (v8 : Value) (v31 : Value) (w : World) : Prop :=
  Bc v31
    (F27_s11 R v0 v1 v2 v7 v8 w)
    (F27_s7 R v0 v1 v2 v7 v8 w)
noncomputable def F27_s6_c : Code := (.seq (cR (cL (cR (cR (cR (cR (cR (cR F27_b)))))))) F27_s7_c)
theorem F27_s6_e (R : Ending → World → Prop) (K : Fr → World → Prop) (X : Nat → Fr → World → Prop) (f : Fr) (w : World) (h : Bc (f 31) (wpE Try.prog F27_dc (resK Try.prog [.tmp 6] R) (panK R) F27_s11_c K X f w) (wpE Try.prog F27_dc (resK Try.prog [.tmp 6] R) (panK R) .skip K X f w)) : (wpE Try.prog F27_dc (resK Try.prog [.tmp 6] R) (panK R) (cR (cL (cR (cR (cR (cR (cR (cR F27_b)))))))) K X f w) := Eq.mp (by kernel_rfl) h
theorem F27_s6_ok (R : Ending → World → Prop) : ∀ f w, ((fun f w => F27_s6 R (f 0) (f 1) (f 2) (f 7) (f 8) (f 31) w)) f w → wpE Try.prog F27_dc (resK Try.prog [.tmp 6] R) (panK R) F27_s6_c (resK Try.prog [.tmp 6] R) noX f w :=
  fun f w h => cut (cR (cL (cR (cR (cR (cR (cR (cR F27_b)))))))) F27_s7_c (K := (fun f w => F27_s7 R (f 0) (f 1) (f 2) (f 7) (f 8) w)) (F27_s7_ok R) f w (F27_s6_e R _ _ f w (Bc_imp (x' := (wpE Try.prog F27_dc (resK Try.prog [.tmp 6] R) (panK R) F27_s11_c (fun f w => F27_s7 R (f 0) (f 1) (f 2) (f 7) (f 8) w) noX f w)) (y' := (wpE Try.prog F27_dc (resK Try.prog [.tmp 6] R) (panK R) .skip (fun f w => F27_s7 R (f 0) (f 1) (f 2) (f 7) (f 8) w) noX f w)) ((F27_s11_ok R) f w) ((fun f w h => skip_ok h) f w) h))
def F27_s5_t (R : Ending → World → Prop) (K : Value → Value → Value → Value → Value → Value → World → Prop) (v0 : Value) (v1 : Value) (v2 : Value) (v7 : Value) (v8 : Value) (w : World) : Prop :=
  uv Try.prog R (binS Go.BinOp.add 3 (.tmp 26) (.tmp 27) v8 v7) w (fun v28 w => -- slices.go:147
  un Try.prog R (builtin Go.Builtin.cap #[57] 3 #[false] #[v0]) w (fun v30 w => -- slices.go:147
  uv Try.prog R (binS Go.BinOp.gtr 3 (.tmp 28) (.tmp 30) v28 v30) w (fun v31 w => -- slices.go:147
  K v0 v1 v2 v7 v8 v31 w)))
theorem F27_s5_st (R : Ending → World → Prop) (K : Value → Value → Value → Value → Value → Value → World → Prop) (X : Nat → Fr → World → Prop) (f : Fr) (w : World) (h : F27_s5_t R K (f 0) (f 1) (f 2) (f 7) (f 8) w) : wpE Try.prog F27_dc (resK Try.prog [.tmp 6] R) (panK R) (cL (cL (cR (cR (cR (cR (cR (cR F27_b)))))))) (fun f w => K (f 0) (f 1) (f 2) (f 7) (f 8) (f 31) w) X f w := Eq.mp (by kernel_rfl) h
def F27_s5 (R : Ending → World → Prop) (v0 : Value) (v1 : Value) (v2 : Value) (v7 : Value) (v8 : Value) (w : World) : Prop :=
  F27_s5_t R (F27_s6 R) v0 v1 v2 v7 v8 w
noncomputable def F27_s5_c : Code := (.seq (cL (cL (cR (cR (cR (cR (cR (cR F27_b)))))))) F27_s6_c)
theorem F27_s5_ok (R : Ending → World → Prop) : ∀ f w, ((fun f w => F27_s5 R (f 0) (f 1) (f 2) (f 7) (f 8) w)) f w → wpE Try.prog F27_dc (resK Try.prog [.tmp 6] R) (panK R) F27_s5_c (resK Try.prog [.tmp 6] R) noX f w :=
  fun f w h => cut (cL (cL (cR (cR (cR (cR (cR (cR F27_b)))))))) F27_s6_c (K := (fun f w => F27_s6 R (f 0) (f 1) (f 2) (f 7) (f 8) (f 31) w)) (F27_s6_ok R) f w (F27_s5_st R (F27_s6 R) _ f w h)
def F27_s12_t (R : Ending → World → Prop) (v0 : Value) (v2 : Value) (w : World) : Prop :=
  un Try.prog R (builtin Go.Builtin.append #[57, 57] 57 #[false, false] #[v0, v2]) w (fun v25 w => -- slices.go:145
  R (.returned v25) w)
theorem F27_s12_st (R : Ending → World → Prop) (X : Nat → Fr → World → Prop) (f : Fr) (w : World) (h : F27_s12_t R (f 0) (f 2) w) : wpE Try.prog F27_dc (resK Try.prog [.tmp 6] R) (panK R) (cL (cT (cR (cL (cR (cR (cR (cR (cR F27_b))))))))) (resK Try.prog [.tmp 6] R) X f w := Eq.mp (by kernel_rfl) h
def F27_s12 (R : Ending → World → Prop) (v0 : Value) (v2 : Value) (w : World) : Prop :=
  F27_s12_t R v0 v2 w
noncomputable def F27_s12_c : Code := (.seq (cL (cT (cR (cL (cR (cR (cR (cR (cR F27_b))))))))) .ret)
theorem F27_s12_ok (R : Ending → World → Prop) : ∀ f w, ((fun f w => F27_s12 R (f 0) (f 2) w)) f w → wpE Try.prog F27_dc (resK Try.prog [.tmp 6] R) (panK R) F27_s12_c (fun f w => F27_s5 R (f 0) (f 1) (f 2) (f 7) (f 8) w) noX f w :=
  fun f w h => cut (cL (cT (cR (cL (cR (cR (cR (cR (cR F27_b))))))))) .ret (K := (resK Try.prog [.tmp 6] R)) (fun f w h => ret_ok h) f w (F27_s12_st R _ f w h)
def F27_s4 (R : Ending → World → Prop) (v0 : Value) (v1 : Value) (v2 : Value) (v7 : Value) (v8 : Value) (v22 : Value) (w : World) : Prop :=
  Bc v22
    (F27_s12 R v0 v2 w)
    (F27_s5 R v0 v1 v2 v7 v8 w)
noncomputable def F27_s4_c : Code := (.seq (cR (cL (cR (cR (cR (cR (cR F27_b))))))) F27_s5_c)
theorem F27_s4_e (R : Ending → World → Prop) (K : Fr → World → Prop) (X : Nat → Fr → World → Prop) (f : Fr) (w : World) (h : Bc (f 22) (wpE Try.prog F27_dc (resK Try.prog [.tmp 6] R) (panK R) F27_s12_c K X f w) (wpE Try.prog F27_dc (resK Try.prog [.tmp 6] R) (panK R) .skip K X f w)) : (wpE Try.prog F27_dc (resK Try.prog [.tmp 6] R) (panK R) (cR (cL (cR (cR (cR (cR (cR F27_b))))))) K X f w) := Eq.mp (by kernel_rfl) h
theorem F27_s4_ok (R : Ending → World → Prop) : ∀ f w, ((fun f w => F27_s4 R (f 0) (f 1) (f 2) (f 7) (f 8) (f 22) w)) f w → wpE Try.prog F27_dc (resK Try.prog [.tmp 6] R) (panK R) F27_s4_c (resK Try.prog [.tmp 6] R) noX f w :=
  fun f w h => cut (cR (cL (cR (cR (cR (cR (cR F27_b))))))) F27_s5_c (K := (fun f w => F27_s5 R (f 0) (f 1) (f 2) (f 7) (f 8) w)) (F27_s5_ok R) f w (F27_s4_e R _ _ f w (Bc_imp (x' := (wpE Try.prog F27_dc (resK Try.prog [.tmp 6] R) (panK R) F27_s12_c (fun f w => F27_s5 R (f 0) (f 1) (f 2) (f 7) (f 8) w) noX f w)) (y' := (wpE Try.prog F27_dc (resK Try.prog [.tmp 6] R) (panK R) .skip (fun f w => F27_s5 R (f 0) (f 1) (f 2) (f 7) (f 8) w) noX f w)) ((F27_s12_ok R) f w) ((fun f w h => skip_ok h) f w) h))
def F27_s3_t (R : Ending → World → Prop) (K : Value → Value → Value → Value → Value → Value → World → Prop) (v0 : Value) (v1 : Value) (v2 : Value) (v7 : Value) (w : World) : Prop :=
  un Try.prog R (builtin Go.Builtin.len #[57] 3 #[false] #[v0]) w (fun v19 w => -- slices.go:143
  uv Try.prog R (binS Go.BinOp.eql 3 (.tmp 20) (.tmp 21) v1 v19) w (fun v22 w => -- slices.go:144
  K v0 v1 v2 v7 v19 v22 w))
theorem F27_s3_st (R : Ending → World → Prop) (K : Value → Value → Value → Value → Value → Value → World → Prop) (X : Nat → Fr → World → Prop) (f : Fr) (w : World) (h : F27_s3_t R K (f 0) (f 1) (f 2) (f 7) w) : wpE Try.prog F27_dc (resK Try.prog [.tmp 6] R) (panK R) (.seq (cL (cR (cR (cR (cR F27_b))))) (cL (cL (cR (cR (cR (cR (cR F27_b)))))))) (fun f w => K (f 0) (f 1) (f 2) (f 7) (f 8) (f 22) w) X f w := Eq.mp (by kernel_rfl) h
def F27_s3 (R : Ending → World → Prop) (v0 : Value) (v1 : Value) (v2 : Value) (v7 : Value) (w : World) : Prop :=
  F27_s3_t R (F27_s4 R) v0 v1 v2 v7 w
noncomputable def F27_s3_c : Code := (.seq (.seq (cL (cR (cR (cR (cR F27_b))))) (cL (cL (cR (cR (cR (cR (cR F27_b)))))))) F27_s4_c)
theorem F27_s3_ok (R : Ending → World → Prop) : ∀ f w, ((fun f w => F27_s3 R (f 0) (f 1) (f 2) (f 7) w)) f w → wpE Try.prog F27_dc (resK Try.prog [.tmp 6] R) (panK R) F27_s3_c (resK Try.prog [.tmp 6] R) noX f w :=
  fun f w h => cut (.seq (cL (cR (cR (cR (cR F27_b))))) (cL (cL (cR (cR (cR (cR (cR F27_b)))))))) F27_s4_c (K := (fun f w => F27_s4 R (f 0) (f 1) (f 2) (f 7) (f 8) (f 22) w)) (F27_s4_ok R) f w (F27_s3_st R (F27_s4 R) _ f w h)
def F27_s13_t (R : Ending → World → Prop) (v0 : Value) (w : World) : Prop :=
  R (.returned v0) w
theorem F27_s13_st (R : Ending → World → Prop) (X : Nat → Fr → World → Prop) (f : Fr) (w : World) (h : F27_s13_t R (f 0) w) : wpE Try.prog F27_dc (resK Try.prog [.tmp 6] R) (panK R) (cL (cT (cR (cL (cR (cR (cR F27_b))))))) (resK Try.prog [.tmp 6] R) X f w := Eq.mp (by kernel_rfl) h
def F27_s13 (R : Ending → World → Prop) (v0 : Value) (w : World) : Prop :=
  F27_s13_t R v0 w
noncomputable def F27_s13_c : Code := (.seq (cL (cT (cR (cL (cR (cR (cR F27_b))))))) .ret)
theorem F27_s13_ok (R : Ending → World → Prop) : ∀ f w, ((fun f w => F27_s13 R (f 0) w)) f w → wpE Try.prog F27_dc (resK Try.prog [.tmp 6] R) (panK R) F27_s13_c (fun f w => F27_s3 R (f 0) (f 1) (f 2) (f 7) w) noX f w :=
  fun f w h => cut (cL (cT (cR (cL (cR (cR (cR F27_b))))))) .ret (K := (resK Try.prog [.tmp 6] R)) (fun f w h => ret_ok h) f w (F27_s13_st R _ f w h)
def F27_s2 (R : Ending → World → Prop) (v0 : Value) (v1 : Value) (v2 : Value) (v7 : Value) (v16 : Value) (w : World) : Prop :=
  Bc v16
    (F27_s13 R v0 w)
    (F27_s3 R v0 v1 v2 v7 w)
noncomputable def F27_s2_c : Code := (.seq (cR (cL (cR (cR (cR F27_b))))) F27_s3_c)
theorem F27_s2_e (R : Ending → World → Prop) (K : Fr → World → Prop) (X : Nat → Fr → World → Prop) (f : Fr) (w : World) (h : Bc (f 16) (wpE Try.prog F27_dc (resK Try.prog [.tmp 6] R) (panK R) F27_s13_c K X f w) (wpE Try.prog F27_dc (resK Try.prog [.tmp 6] R) (panK R) .skip K X f w)) : (wpE Try.prog F27_dc (resK Try.prog [.tmp 6] R) (panK R) (cR (cL (cR (cR (cR F27_b))))) K X f w) := Eq.mp (by kernel_rfl) h
theorem F27_s2_ok (R : Ending → World → Prop) : ∀ f w, ((fun f w => F27_s2 R (f 0) (f 1) (f 2) (f 7) (f 16) w)) f w → wpE Try.prog F27_dc (resK Try.prog [.tmp 6] R) (panK R) F27_s2_c (resK Try.prog [.tmp 6] R) noX f w :=
  fun f w h => cut (cR (cL (cR (cR (cR F27_b))))) F27_s3_c (K := (fun f w => F27_s3 R (f 0) (f 1) (f 2) (f 7) w)) (F27_s3_ok R) f w (F27_s2_e R _ _ f w (Bc_imp (x' := (wpE Try.prog F27_dc (resK Try.prog [.tmp 6] R) (panK R) F27_s13_c (fun f w => F27_s3 R (f 0) (f 1) (f 2) (f 7) w) noX f w)) (y' := (wpE Try.prog F27_dc (resK Try.prog [.tmp 6] R) (panK R) .skip (fun f w => F27_s3 R (f 0) (f 1) (f 2) (f 7) w) noX f w)) ((F27_s13_ok R) f w) ((fun f w h => skip_ok h) f w) h))
def F27_s1_t (R : Ending → World → Prop) (K : Value → Value → Value → Value → Value → World → Prop) (v0 : Value) (v1 : Value) (v2 : Value) (w : World) : Prop :=
  uv Try.prog R (Instr.sliceAt 57 v0 (some v1) none none) w (fun v12 w => -- slices.go:137
  un Try.prog R (builtin Go.Builtin.len #[57] 3 #[false] #[v2]) w (fun v14 w => -- slices.go:139
  uv Try.prog R (binS Go.BinOp.eql 3 (.tmp 15) (.const (Go.Value.int Go.IntKind.i64 0)) v14 (Go.Value.int Go.IntKind.i64 0)) w (fun v16 w => -- slices.go:140
  K v0 v1 v2 v14 v16 w)))
theorem F27_s1_st (R : Ending → World → Prop) (K : Value → Value → Value → Value → Value → World → Prop) (X : Nat → Fr → World → Prop) (f : Fr) (w : World) (h : F27_s1_t R K (f 0) (f 1) (f 2) w) : wpE Try.prog F27_dc (resK Try.prog [.tmp 6] R) (panK R) (.seq (cL F27_b) (.seq (cL (cR F27_b)) (.seq (cL (cR (cR F27_b))) (cL (cL (cR (cR (cR F27_b)))))))) (fun f w => K (f 0) (f 1) (f 2) (f 7) (f 16) w) X f w := Eq.mp (by kernel_rfl) h
def F27_s1 (R : Ending → World → Prop) (v0 : Value) (v1 : Value) (v2 : Value) (w : World) : Prop :=
  F27_s1_t R (F27_s2 R) v0 v1 v2 w
noncomputable def F27_s1_c : Code := (.seq (.seq (cL F27_b) (.seq (cL (cR F27_b)) (.seq (cL (cR (cR F27_b))) (cL (cL (cR (cR (cR F27_b)))))))) F27_s2_c)
theorem F27_s1_ok (R : Ending → World → Prop) : ∀ f w, ((fun f w => F27_s1 R (f 0) (f 1) (f 2) w)) f w → wpE Try.prog F27_dc (resK Try.prog [.tmp 6] R) (panK R) F27_s1_c (resK Try.prog [.tmp 6] R) noX f w :=
  fun f w h => cut (.seq (cL F27_b) (.seq (cL (cR F27_b)) (.seq (cL (cR (cR F27_b))) (cL (cL (cR (cR (cR F27_b)))))))) F27_s2_c (K := (fun f w => F27_s2 R (f 0) (f 1) (f 2) (f 7) (f 16) w)) (F27_s2_ok R) f w (F27_s1_st R (F27_s2 R) _ f w h)
theorem F27_all_e (R : Ending → World → Prop) (K : Fr → World → Prop) (X : Nat → Fr → World → Prop) (f : Fr) (w : World) (h : wpE Try.prog F27_dc (resK Try.prog [.tmp 6] R) (panK R) F27_s1_c K X f w) : wpE Try.prog F27_dc (resK Try.prog [.tmp 6] R) (panK R) F27_b K X f w := Eq.mp (by kernel_rfl) h
theorem F27_calls (R : Ending → World → Prop) (v0 : Value) (v1 : Value) (v2 : Value) (w : World) (h : F27_s1 R v0 v1 v2 w) : Calls Try.prog 27 #[v0, v1, v2] w R :=
  calls_of_wpE (dc := F27_dc) (args := [v0, v1, v2]) hmixed Try.func27 (c := F27_b) rfl (rs := [.tmp 6]) rfl (by kernel_rfl) (Nat.le_of_ble_eq_true (by kernel_rfl)) (F27_all_e R _ _ _ w ((F27_s1_ok R) (initFr [v0, v1, v2]) w h))

/-! ### slices.DeleteFunc[[]hasp/locks.wish,hasp/locks.wish] -/
noncomputable def F30_b : Code := bodyOf Try.f30
def F30_dc : Nat → List (Nat × Bool)
  | _ => []
def F30_s5_t (R : Ending → World → Prop) (v0 : Value) (v5 : Value) (w : World) : Prop :=
  uv Try.prog R (Instr.sliceAt 57 v0 (some v5) none none) w (fun v38 w => -- slices.go:253
  un Try.prog R (builtin Go.Builtin.clear #[57] 0 #[false] #[v38]) w (fun _ w => -- slices.go:253
  uv Try.prog R (Instr.sliceAt 57 v0 none (some v5) none) w (fun v41 w => -- slices.go:254
  R (.returned v41) w)))
theorem F30_s5_st (R : Ending → World → Prop) (X : Nat → Fr → World → Prop) (f : Fr) (w : World) (h : F30_s5_t R (f 0) (f 5) w) : wpE Try.prog F30_dc (resK Try.prog [.tmp 4] R) (panK R) (.seq (cL (cR (cR (cR (cR F30_b))))) (cL (cR (cR (cR (cR (cR F30_b))))))) (resK Try.prog [.tmp 4] R) X f w := Eq.mp (by kernel_rfl) h
def F30_s5 (R : Ending → World → Prop) (v0 : Value) (v5 : Value) (w : World) : Prop :=
  F30_s5_t R v0 v5 w
noncomputable def F30_s5_c : Code := (.seq (.seq (cL (cR (cR (cR (cR F30_b))))) (cL (cR (cR (cR (cR (cR F30_b))))))) .ret)
theorem F30_s5_ok (R : Ending → World → Prop) : ∀ f w, ((fun f w => F30_s5 R (f 0) (f 5) w)) f w → wpE Try.prog F30_dc (resK Try.prog [.tmp 4] R) (panK R) F30_s5_c (resK Try.prog [.tmp 4] R) noX f w :=
  fun f w h => cut (.seq (cL (cR (cR (cR (cR F30_b))))) (cL (cR (cR (cR (cR (cR F30_b))))))) .ret (K := (resK Try.prog [.tmp 4] R)) (fun f w h => ret_ok h) f w (F30_s5_st R _ f w h)
def F30_s10_t (R : Ending → World → Prop) (K : Value → Value → World → Prop) (v0 : Value) (v1 : Value) (v5 : Value) (v6 : Value) (w : World) : Prop :=
  uv Try.prog R (binS Go.BinOp.add 3 (.tmp 20) (.const (Go.Value.int Go.IntKind.i64 1)) v6 (Go.Value.int Go.IntKind.i64 1)) w (fun v21 w => -- slices.go:247
  K v5 v21 w)
theorem F30_s10_st (R : Ending → World → Prop) (K : Value → Value → World → Prop) (X : Nat → Fr → World → Prop) (f : Fr) (w : World) (h : F30_s10_t R K (f 0) (f 1) (f 5) (f 6) w) : wpE Try.prog F30_dc (resK Try.prog [.tmp 4] R) (panK R) (cR (cR (cI (cI (cR (cL (cR (cR (cR F30_b))))))))) (fun f w => K (f 5) (f 6) w) X f w := Eq.mp (by kernel_rfl) h
def F30_s10 (R : Ending → World → Prop) (rec6 : Value → Value → World → Prop) (v0 : Value) (v1 : Value) (v5 : Value) (v6 : Value) (w : World) : Prop :=
  F30_s10_t R (rec6) v0 v1 v5 v6 w
noncomputable def F30_s10_c : Code := (.seq (cR (cR (cI (cI (cR (cL (cR (cR (cR F30_b))))))))) .skip)
theorem F30_s10_ok (R : Ending → World → Prop) (rec6 : Value → Value → World → Prop) : ∀ f w, ((fun f w => F30_s10 R rec6 (f 0) (f 1) (f 5) (f 6) w)) f w → wpE Try.prog F30_dc (resK Try.prog [.tmp 4] R) (panK R) F30_s10_c (fun f w => rec6 (f 5) (f 6) w) (kxB 0 ((fun f w => F30_s5 R (f 0) (f 5) w)) noX) f w :=
  fun f w h => cut (cR (cR (cI (cI (cR (cL (cR (cR (cR F30_b))))))))) .skip (K := (fun f w => rec6 (f 5) (f 6) w)) (fun f w h => skip_ok h) f w (F30_s10_st R (rec6) _ f w h)
def F30_s13_t (R : Ending → World → Prop) (K : Value → Value → Value → Value → World → Prop) (v0 : Value) (v1 : Value) (v5 : Value) (v6 : Value) (v7 : Value) (w : World) : Prop :=
  uv Try.prog R (Instr.loadAt 62 v7) w (fun v32 w => -- slices.go:249
  uv Try.prog R (Instr.indexAt 57 v0 v5) w (fun v33 w => -- slices.go:249
  uu Try.prog R (Instr.storeAt 62 v33 v32) w (fun w => -- slices.go:249
  uv Try.prog R (binS Go.BinOp.add 3 (.tmp 34) (.const (Go.Value.int Go.IntKind.i64 1)) v5 (Go.Value.int Go.IntKind.i64 1)) w (fun v35 w => -- slices.go:250
  K v0 v1 v35 v6 w))))
theorem F30_s13_st (R : Ending → World → Prop) (K : Value → Value → Value → Value → World → Prop) (X : Nat → Fr → World → Prop) (f : Fr) (w : World) (h : F30_s13_t R K (f 0) (f 1) (f 5) (f 6) (f 7) w) : wpE Try.prog F30_dc (resK Try.prog [.tmp 4] R) (panK R) (.seq (cL (cT (cR (cR (cI (cL (cR (cI (cI (cR (cL (cR (cR (cR F30_b)))))))))))))) (cR (cT (cR (cR (cI (cL (cR (cI (cI (cR (cL (cR (cR (cR F30_b))))))))))))))) (fun f w => K (f 0) (f 1) (f 5) (f 6) w) X f w := Eq.mp (by kernel_rfl) h
def F30_s13 (R : Ending → World → Prop) (rec6 : Value → Value → World → Prop) (v0 : Value) (v1 : Value) (v5 : Value) (v6 : Value) (v7 : Value) (w : World) : Prop :=
  F30_s13_t R (F30_s10 R rec6) v0 v1 v5 v6 v7 w
noncomputable def F30_s13_c : Code := (.seq (.seq (cL (cT (cR (cR (cI (cL (cR (cI (cI (cR (cL (cR (cR (cR F30_b)))))))))))))) (cR (cT (cR (cR (cI (cL (cR (cI (cI (cR (cL (cR (cR (cR F30_b))))))))))))))) .skip)
theorem F30_s13_ok (R : Ending → World → Prop) (rec6 : Value → Value → World → Prop) : ∀ f w, ((fun f w => F30_s13 R rec6 (f 0) (f 1) (f 5) (f 6) (f 7) w)) f w → wpE Try.prog F30_dc (resK Try.prog [.tmp 4] R) (panK R) F30_s13_c (fun f w => F30_s10 R rec6 (f 0) (f 1) (f 5) (f 6) w) (kxB 1 ((fun f w => F30_s10 R rec6 (f 0) (f 1) (f 5) (f 6) w)) (kxB 0 ((fun f w => F30_s5 R (f 0) (f 5) w)) noX)) f w :=
  fun f w h => cut (.seq (cL (cT (cR (cR (cI (cL (cR (cI (cI (cR (cL (cR (cR (cR F30_b)))))))))))))) (cR (cT (cR (cR (cI (cL (cR (cI (cI (cR (cL (cR (cR (cR F30_b))))))))))))))) .skip (K := (fun f w => F30_s10 R rec6 (f 0) (f 1) (f 5) (f 6) w)) (fun f w h => skip_ok h) f w (F30_s13_st R (F30_s10 R rec6) _ f w h)
def F30_s12 (R : Ending → World → Prop) (rec6 : Value → Value → World → Prop) (v0 : Value) (v1 : Value) (v5 : Value) (v6 : Value) (v7 : Value) (v29 : Value) (w : World) : Prop :=
  Bc v29
    (F30_s13 R rec6 v0 v1 v5 v6 v7 w)
    (F30_s10 R rec6 v0 v1 v5 v6 w)
noncomputable def F30_s12_c : Code := (.seq (cR (cR (cI (cL (cR (cI (cI (cR (cL (cR (cR (cR F30_b)))))))))))) .skip)
theorem F30_s12_e (R : Ending → World → Prop) (K : Fr → World → Prop) (X : Nat → Fr → World → Prop) (f : Fr) (w : World) (h : Bc (f 29) (wpE Try.prog F30_dc (resK Try.prog [.tmp 4] R) (panK R) F30_s13_c K X f w) (wpE Try.prog F30_dc (resK Try.prog [.tmp 4] R) (panK R) .skip K X f w)) : (wpE Try.prog F30_dc (resK Try.prog [.tmp 4] R) (panK R) (cR (cR (cI (cL (cR (cI (cI (cR (cL (cR (cR (cR F30_b)))))))))))) K X f w) := Eq.mp (by kernel_rfl) h
theorem F30_s12_ok (R : Ending → World → Prop) (rec6 : Value → Value → World → Prop) : ∀ f w, ((fun f w => F30_s12 R rec6 (f 0) (f 1) (f 5) (f 6) (f 7) (f 29) w)) f w → wpE Try.prog F30_dc (resK Try.prog [.tmp 4] R) (panK R) F30_s12_c (fun f w => F30_s10 R rec6 (f 0) (f 1) (f 5) (f 6) w) (kxB 1 ((fun f w => F30_s10 R rec6 (f 0) (f 1) (f 5) (f 6) w)) (kxB 0 ((fun f w => F30_s5 R (f 0) (f 5) w)) noX)) f w :=
  fun f w h => cut (cR (cR (cI (cL (cR (cI (cI (cR (cL (cR (cR (cR F30_b)))))))))))) .skip (K := (fun f w => F30_s10 R rec6 (f 0) (f 1) (f 5) (f 6) w)) (fun f w h => skip_ok h) f w (F30_s12_e R _ _ f w (Bc_imp (x' := (wpE Try.prog F30_dc (resK Try.prog [.tmp 4] R) (panK R) F30_s13_c (fun f w => F30_s10 R rec6 (f 0) (f 1) (f 5) (f 6) w) (kxB 1 ((fun f w => F30_s10 R rec6 (f 0) (f 1) (f 5) (f 6) w)) (kxB 0 ((fun f w => F30_s5 R (f 0) (f 5) w)) noX)) f w)) (y' := (wpE Try.prog F30_dc (resK Try.prog [.tmp 4] R) (panK R) .skip (fun f w => F30_s10 R rec6 (f 0) (f 1) (f 5) (f 6) w) (kxB 1 ((fun f w => F30_s10 R rec6 (f 0) (f 1) (f 5) (f 6) w)) (kxB 0 ((fun f w => F30_s5 R (f 0) (f 5) w)) noX)) f w)) ((F30_s13_ok R rec6) f w) ((fun f w h => skip_ok h) f w) h))
def F30_s11_t (R : Ending → World → Prop) (K : Value → Value → Value → Value → Value → Value → World → Prop) (v0 : Value) (v1 : Value) (v5 : Value) (v6 : Value) (w : World) : Prop :=
  uv Try.prog R (Instr.indexAt 57 v0 v6) w (fun v24 w => -- slices.go:248
  uv Try.prog R (Instr.loadAt 62 v24) w (fun v25 w => -- slices.go:248
  uv Try.prog R (Instr.alloc 62 true (.tuple #[])) w (fun v7 w => -- slices.go:248
  uu Try.prog R (Instr.storeAt 62 v7 v25) w (fun w => -- slices.go:248
  uv Try.prog R (Instr.loadAt 62 v7) w (fun v27 w => -- slices.go:248
  un Try.prog R (callV v1 #[v27]) w (fun v28 w => -- slices.go:248
  uv Try.prog R (Op.unary Go.UnOp.not v28) w (fun v29 w => -- slices.go:248
  K v0 v1 v5 v6 v7 v29 w)))))))
theorem F30_s11_st (R : Ending → World → Prop) (K : Value → Value → Value → Value → Value → Value → World → Prop) (X : Nat → Fr → World → Prop) (f : Fr) (w : World) (h : F30_s11_t R K (f 0) (f 1) (f 5) (f 6) w) : wpE Try.prog F30_dc (resK Try.prog [.tmp 4] R) (panK R) (.seq (cL (cI (cL (cR (cI (cI (cR (cL (cR (cR (cR F30_b))))))))))) (cL (cR (cI (cL (cR (cI (cI (cR (cL (cR (cR (cR F30_b))))))))))))) (fun f w => K (f 0) (f 1) (f 5) (f 6) (f 7) (f 29) w) X f w := Eq.mp (by kernel_rfl) h
def F30_s11 (R : Ending → World → Prop) (rec6 : Value → Value → World → Prop) (v0 : Value) (v1 : Value) (v5 : Value) (v6 : Value) (w : World) : Prop :=
  F30_s11_t R (F30_s12 R rec6) v0 v1 v5 v6 w
noncomputable def F30_s11_c : Code := (.seq (.seq (cL (cI (cL (cR (cI (cI (cR (cL (cR (cR (cR F30_b))))))))))) (cL (cR (cI (cL (cR (cI (cI (cR (cL (cR (cR (cR F30_b))))))))))))) F30_s12_c)
theorem F30_s11_ok (R : Ending → World → Prop) (rec6 : Value → Value → World → Prop) : ∀ f w, ((fun f w => F30_s11 R rec6 (f 0) (f 1) (f 5) (f 6) w)) f w → wpE Try.prog F30_dc (resK Try.prog [.tmp 4] R) (panK R) F30_s11_c (fun f w => F30_s10 R rec6 (f 0) (f 1) (f 5) (f 6) w) (kxB 1 ((fun f w => F30_s10 R rec6 (f 0) (f 1) (f 5) (f 6) w)) (kxB 0 ((fun f w => F30_s5 R (f 0) (f 5) w)) noX)) f w :=
  fun f w h => cut (.seq (cL (cI (cL (cR (cI (cI (cR (cL (cR (cR (cR F30_b))))))))))) (cL (cR (cI (cL (cR (cI (cI (cR (cL (cR (cR (cR F30_b))))))))))))) F30_s12_c (K := (fun f w => F30_s12 R rec6 (f 0) (f 1) (f 5) (f 6) (f 7) (f 29) w)) (F30_s12_ok R rec6) f w (F30_s11_st R (F30_s12 R rec6) _ f w h)
noncomputable def F30_s9_c : Code := (.seq (cL (cR (cI (cI (cR (cL (cR (cR (cR F30_b))))))))) F30_s10_c)
theorem F30_s9_e (R : Ending → World → Prop) (K : Fr → World → Prop) (X : Nat → Fr → World → Prop) (f : Fr) (w : World) (h : wpE Try.prog F30_dc (resK Try.prog [.tmp 4] R) (panK R) F30_s11_c K (kxB 1 K X) f w) : wpE Try.prog F30_dc (resK Try.prog [.tmp 4] R) (panK R) (cL (cR (cI (cI (cR (cL (cR (cR (cR F30_b))))))))) K X f w := Eq.mp (by kernel_rfl) h
theorem F30_s9_ok (R : Ending → World → Prop) (rec6 : Value → Value → World → Prop) : ∀ f w, ((fun f w => F30_s11 R rec6 (f 0) (f 1) (f 5) (f 6) w)) f w → wpE Try.prog F30_dc (resK Try.prog [.tmp 4] R) (panK R) F30_s9_c (fun f w => rec6 (f 5) (f 6) w) (kxB 0 ((fun f w => F30_s5 R (f 0) (f 5) w)) noX) f w :=
  fun f w h => cut (cL (cR (cI (cI (cR (cL (cR (cR (cR F30_b))))))))) F30_s10_c (K := (fun f w => F30_s10 R rec6 (f 0) (f 1) (f 5) (f 6) w)) (F30_s10_ok R rec6) f w (F30_s9_e R _ _ f w ((F30_s11_ok R rec6) f w h))
def F30_s8 (R : Ending → World → Prop) (rec6 : Value → Value → World → Prop) (v0 : Value) (v1 : Value) (v5 : Value) (v6 : Value) (v19 : Value) (w : World) : Prop :=
  Bc v19
    (F30_s11 R rec6 v0 v1 v5 v6 w)
    (F30_s5 R v0 v5 w)
noncomputable def F30_s8_c : Code := (.seq (cR (cL (cI (cI (cR (cL (cR (cR (cR F30_b))))))))) F30_s9_c)
theorem F30_s8_e (R : Ending → World → Prop) (K : Fr → World → Prop) (X : Nat → Fr → World → Prop) (f : Fr) (w : World) (h : Bc (f 19) (wpE Try.prog F30_dc (resK Try.prog [.tmp 4] R) (panK R) .skip K X f w) (wpE Try.prog F30_dc (resK Try.prog [.tmp 4] R) (panK R) (.exit 0) K X f w)) : (wpE Try.prog F30_dc (resK Try.prog [.tmp 4] R) (panK R) (cR (cL (cI (cI (cR (cL (cR (cR (cR F30_b))))))))) K X f w) := Eq.mp (by kernel_rfl) h
theorem F30_s8_ok (R : Ending → World → Prop) (rec6 : Value → Value → World → Prop) : ∀ f w, ((fun f w => F30_s8 R rec6 (f 0) (f 1) (f 5) (f 6) (f 19) w)) f w → wpE Try.prog F30_dc (resK Try.prog [.tmp 4] R) (panK R) F30_s8_c (fun f w => rec6 (f 5) (f 6) w) (kxB 0 ((fun f w => F30_s5 R (f 0) (f 5) w)) noX) f w :=
  fun f w h => cut (cR (cL (cI (cI (cR (cL (cR (cR (cR F30_b))))))))) F30_s9_c (K := (fun f w => F30_s11 R rec6 (f 0) (f 1) (f 5) (f 6) w)) (F30_s9_ok R rec6) f w (F30_s8_e R _ _ f w (Bc_imp (x' := (wpE Try.prog F30_dc (resK Try.prog [.tmp 4] R) (panK R) .skip (fun f w => F30_s11 R rec6 (f 0) (f 1) (f 5) (f 6) w) (kxB 0 ((fun f w => F30_s5 R (f 0) (f 5) w)) noX) f w)) (y' := (wpE Try.prog F30_dc (resK Try.prog [.tmp 4] R) (panK R) (.exit 0) (fun f w => F30_s11 R rec6 (f 0) (f 1) (f 5) (f 6) w) (kxB 0 ((fun f w => F30_s5 R (f 0) (f 5) w)) noX) f w)) ((fun f w h => skip_ok h) f w) ((fun f w h => exit_hit h) f w) h))
def F30_s7_t (R : Ending → World → Prop) (K : Value → Value → Value → Value → Value → World → Prop) (v0 : Value) (v1 : Value) (v5 : Value) (v6 : Value) (w : World) : Prop :=
  un Try.prog R (builtin Go.Builtin.len #[57] 3 #[false] #[v0]) w (fun v18 w => -- slices.go:247
  uv Try.prog R (binS Go.BinOp.lss 3 (.tmp 16) (.tmp 18) v6 v18) w (fun v19 w => -- slices.go:247
  K v0 v1 v5 v6 v19 w))
theorem F30_s7_st (R : Ending → World → Prop) (K : Value → Value → Value → Value → Value → World → Prop) (X : Nat → Fr → World → Prop) (f : Fr) (w : World) (h : F30_s7_t R K (f 0) (f 1) (f 5) (f 6) w) : wpE Try.prog F30_dc (resK Try.prog [.tmp 4] R) (panK R) (cL (cL (cI (cI (cR (cL (cR (cR (cR F30_b))))))))) (fun f w => K (f 0) (f 1) (f 5) (f 6) (f 19) w) X f w := Eq.mp (by kernel_rfl) h
def F30_s7 (R : Ending → World → Prop) (rec6 : Value → Value → World → Prop) (v0 : Value) (v1 : Value) (v5 : Value) (v6 : Value) (w : World) : Prop :=
  F30_s7_t R (F30_s8 R rec6) v0 v1 v5 v6 w
noncomputable def F30_s7_c : Code := (.seq (cL (cL (cI (cI (cR (cL (cR (cR (cR F30_b))))))))) F30_s8_c)
theorem F30_s7_ok (R : Ending → World → Prop) (rec6 : Value → Value → World → Prop) : ∀ f w, ((fun f w => F30_s7 R rec6 (f 0) (f 1) (f 5) (f 6) w)) f w → wpE Try.prog F30_dc (resK Try.prog [.tmp 4] R) (panK R) F30_s7_c (fun f w => rec6 (f 5) (f 6) w) (kxB 0 ((fun f w => F30_s5 R (f 0) (f 5) w)) noX) f w :=
  fun f w h => cut (cL (cL (cI (cI (cR (cL (cR (cR (cR F30_b))))))))) F30_s8_c (K := (fun f w => F30_s8 R rec6 (f 0) (f 1) (f 5) (f 6) (f 19) w)) (F30_s8_ok R rec6) f w (F30_s7_st R (F30_s8 R rec6) _ f w h)
def F30_s6 (R : Ending → World → Prop) (v0 : Value) (v1 : Value) (v5 : Value) (v6 : Value) (w : World) : Prop :=
  Lp2 (fun rec6 v5 v6 w => F30_s7 R rec6 v0 v1 v5 v6 w) v5 v6 w
theorem F30_s6_e (R : Ending → World → Prop) (K : Fr → World → Prop) (X : Nat → Fr → World → Prop) (f : Fr) (w : World) (h : wpE Try.prog F30_dc (resK Try.prog [.tmp 4] R) (panK R) (.loop (cI (cI (cR (cL (cR (cR (cR F30_b)))))))) K X f w) : wpE Try.prog F30_dc (resK Try.prog [.tmp 4] R) (panK R) (cI (cR (cL (cR (cR (cR F30_b)))))) K X f w := Eq.mp (by kernel_rfl) h
theorem F30_s6b_e (R : Ending → World → Prop) (K : Fr → World → Prop) (X : Nat → Fr → World → Prop) (f : Fr) (w : World) (h : wpE Try.prog F30_dc (resK Try.prog [.tmp 4] R) (panK R) F30_s7_c K X f w) : wpE Try.prog F30_dc (resK Try.prog [.tmp 4] R) (panK R) (cI (cI (cR (cL (cR (cR (cR F30_b))))))) K X f w := Eq.mp (by kernel_rfl) h
theorem F30_s6_ok (R : Ending → World → Prop) : ∀ f w, ((fun f w => F30_s6 R (f 0) (f 1) (f 5) (f 6) w)) f w → wpE Try.prog F30_dc (resK Try.prog [.tmp 4] R) (panK R) (cI (cR (cL (cR (cR (cR F30_b)))))) (fun f w => F30_s5 R (f 0) (f 5) w) (kxB 0 ((fun f w => F30_s5 R (f 0) (f 5) w)) noX) f w :=
  fun f w h => F30_s6_e R _ _ f w (loop2_ok (P := Try.prog) (dc := F30_dc) (kr := (resK Try.prog [.tmp 4] R)) (pan := panK R) (cI (cI (cR (cL (cR (cR (cR F30_b))))))) (kn := (fun f w => F30_s5 R (f 0) (f 5) w)) (kx := (kxB 0 ((fun f w => F30_s5 R (f 0) (f 5) w)) noX)) (s0 := 5) (s1 := 6) (fun rec6 v5 v6 w => F30_s7 R rec6 (f 0) (f 1) v5 v6 w) f (fun rec6 f' w' hf h' => F30_s6b_e R _ _ f' w' ((F30_s7_ok R rec6) f' w' (by simp only [hf 0 (by kernel_rfl), hf 1 (by kernel_rfl)]; exact h'))) w h)
noncomputable def F30_s4_c : Code := (.seq (cR (cL (cR (cR (cR F30_b))))) F30_s5_c)
theorem F30_s4_e (R : Ending → World → Prop) (K : Fr → World → Prop) (X : Nat → Fr → World → Prop) (f : Fr) (w : World) (h : wpE Try.prog F30_dc (resK Try.prog [.tmp 4] R) (panK R) (cI (cR (cL (cR (cR (cR F30_b)))))) K (kxB 0 K X) f w) : wpE Try.prog F30_dc (resK Try.prog [.tmp 4] R) (panK R) (cR (cL (cR (cR (cR F30_b))))) K X f w := Eq.mp (by kernel_rfl) h
theorem F30_s4_ok (R : Ending → World → Prop) : ∀ f w, ((fun f w => F30_s6 R (f 0) (f 1) (f 5) (f 6) w)) f w → wpE Try.prog F30_dc (resK Try.prog [.tmp 4] R) (panK R) F30_s4_c (resK Try.prog [.tmp 4] R) noX f w :=
  fun f w h => cut (cR (cL (cR (cR (cR F30_b))))) F30_s5_c (K := (fun f w => F30_s5 R (f 0) (f 5) w)) (F30_s5_ok R) f w (F30_s4_e R _ _ f w ((F30_s6_ok R) f w h))
def F30_s3_t (R : Ending → World → Prop) (K : Value → Value → Value → Value → World → Prop) (v0 : Value) (v1 : Value) (v5 : Value) (w : World) : Prop :=
  uv Try.prog R (binS Go.BinOp.add 3 (.tmp 14) (.const (Go.Value.int Go.IntKind.i64 1)) v5 (Go.Value.int Go.IntKind.i64 1)) w (fun v15 w => -- slices.go:247
  K v0 v1 v5 v15 w)
theorem F30_s3_st (R : Ending → World → Prop) (K : Value → Value → Value → Value → World → Prop) (X : Nat → Fr → World → Prop) (f : Fr) (w : World) (h : F30_s3_t R K (f 0) (f 1) (f 5) w) : wpE Try.prog F30_dc (resK Try.prog [.tmp 4] R) (panK R) (cL (cL (cR (cR (cR F30_b))))) (fun f w => K (f 0) (f 1) (f 5) (f 6) w) X f w := Eq.mp (by kernel_rfl) h
def F30_s3 (R : Ending → World → Prop) (v0 : Value) (v1 : Value) (v5 : Value) (w : World) : Prop :=
  F30_s3_t R (F30_s6 R) v0 v1 v5 w
noncomputable def F30_s3_c : Code := (.seq (cL (cL (cR (cR (cR F30_b))))) F30_s4_c)
theorem F30_s3_ok (R : Ending → World → Prop) : ∀ f w, ((fun f w => F30_s3 R (f 0) (f 1) (f 5) w)) f w → wpE Try.prog F30_dc (resK Try.prog [.tmp 4] R) (panK R) F30_s3_c (resK Try.prog [.tmp 4] R) noX f w :=
  fun f w h => cut (cL (cL (cR (cR (cR F30_b))))) F30_s4_c (K := (fun f w => F30_s6 R (f 0) (f 1) (f 5) (f 6) w)) (F30_s4_ok R) f w (F30_s3_st R (F30_s6 R) _ f w h)
def F30_s14_t (R : Ending → World → Prop) (v0 : Value) (w : World) : Prop :=
  R (.returned v0) w
theorem F30_s14_st (R : Ending → World → Prop) (X : Nat → Fr → World → Prop) (f : Fr) (w : World) (h : F30_s14_t R (f 0) w) : wpE Try.prog F30_dc (resK Try.prog [.tmp 4] R) (panK R) (cL (cT (cR (cL (cR (cR F30_b)))))) (resK Try.prog [.tmp 4] R) X f w := Eq.mp (by kernel_rfl) h
def F30_s14 (R : Ending → World → Prop) (v0 : Value) (w : World) : Prop :=
  F30_s14_t R v0 w
noncomputable def F30_s14_c : Code := (.seq (cL (cT (cR (cL (cR (cR F30_b)))))) .ret)
theorem F30_s14_ok (R : Ending → World → Prop) : ∀ f w, ((fun f w => F30_s14 R (f 0) w)) f w → wpE Try.prog F30_dc (resK Try.prog [.tmp 4] R) (panK R) F30_s14_c (fun f w => F30_s3 R (f 0) (f 1) (f 5) w) noX f w :=
  fun f w h => cut (cL (cT (cR (cL (cR (cR F30_b)))))) .ret (K := (resK Try.prog [.tmp 4] R)) (fun f w h => ret_ok h) f w (F30_s14_st R _ f w h)
def F30_s2 (R : Ending → World → Prop) (v0 : Value) (v1 : Value) (v5 : Value) (v12 : Value) (w : World) : Prop :=
  Bc v12
    (F30_s14 R v0 w)
    (F30_s3 R v0 v1 v5 w)
noncomputable def F30_s2_c : Code := (.seq (cR (cL (cR (cR F30_b)))) F30_s3_c)
theorem F30_s2_e (R : Ending → World → Prop) (K : Fr → World → Prop) (X : Nat → Fr → World → Prop) (f : Fr) (w : World) (h : Bc (f 12) (wpE Try.prog F30_dc (resK Try.prog [.tmp 4] R) (panK R) F30_s14_c K X f w) (wpE Try.prog F30_dc (resK Try.prog [.tmp 4] R) (panK R) .skip K X f w)) : (wpE Try.prog F30_dc (resK Try.prog [.tmp 4] R) (panK R) (cR (cL (cR (cR F30_b)))) K X f w) := Eq.mp (by kernel_rfl) h
theorem F30_s2_ok (R : Ending → World → Prop) : ∀ f w, ((fun f w => F30_s2 R (f 0) (f 1) (f 5) (f 12) w)) f w → wpE Try.prog F30_dc (resK Try.prog [.tmp 4] R) (panK R) F30_s2_c (resK Try.prog [.tmp 4] R) noX f w :=
  fun f w h => cut (cR (cL (cR (cR F30_b)))) F30_s3_c (K := (fun f w => F30_s3 R (f 0) (f 1) (f 5) w)) (F30_s3_ok R) f w (F30_s2_e R _ _ f w (Bc_imp (x' := (wpE Try.prog F30_dc (resK Try.prog [.tmp 4] R) (panK R) F30_s14_c (fun f w => F30_s3 R (f 0) (f 1) (f 5) w) noX f w)) (y' := (wpE Try.prog F30_dc (resK Try.prog [.tmp 4] R) (panK R) .skip (fun f w => F30_s3 R (f 0) (f 1) (f 5) w) noX f w)) ((F30_s14_ok R) f w) ((fun f w h => skip_ok h) f w) h))
def F30_s1_t (R : Ending → World → Prop) (K : Value → Value → Value → Value → World → Prop) (v0 : Value) (v1 : Value) (w : World) : Prop :=
  un Try.prog R (callFunc 25 #[v0, v1]) w (fun v10 w => -- slices.go:242
  uv Try.prog R (binS Go.BinOp.eql 3 (.tmp 11) (.const (Go.Value.int Go.IntKind.i64 (-1))) v10 (Go.Value.int Go.IntKind.i64 (-1))) w (fun v12 w => -- slices.go:243
  K v0 v1 v10 v12 w))
theorem F30_s1_st (R : Ending → World → Prop) (K : Value → Value → Value → Value → World → Prop) (X : Nat → Fr → World → Prop) (f : Fr) (w : World) (h : F30_s1_t R K (f 0) (f 1) w) : wpE Try.prog F30_dc (resK Try.prog [.tmp 4] R) (panK R) (.seq (cL F30_b) (.seq (cL (cR F30_b)) (cL (cL (cR (cR F30_b)))))) (fun f w => K (f 0) (f 1) (f 5) (f 12) w) X f w := Eq.mp (by kernel_rfl) h
def F30_s1 (R : Ending → World → Prop) (v0 : Value) (v1 : Value) (w : World) : Prop :=
  F30_s1_t R (F30_s2 R) v0 v1 w
noncomputable def F30_s1_c : Code := (.seq (.seq (cL F30_b) (.seq (cL (cR F30_b)) (cL (cL (cR (cR F30_b)))))) F30_s2_c)
theorem F30_s1_ok (R : Ending → World → Prop) : ∀ f w, ((fun f w => F30_s1 R (f 0) (f 1) w)) f w → wpE Try.prog F30_dc (resK Try.prog [.tmp 4] R) (panK R) F30_s1_c (resK Try.prog [.tmp 4] R) noX f w :=
  fun f w h => cut (.seq (cL F30_b) (.seq (cL (cR F30_b)) (cL (cL (cR (cR F30_b)))))) F30_s2_c (K := (fun f w => F30_s2 R (f 0) (f 1) (f 5) (f 12) w)) (F30_s2_ok R) f w (F30_s1_st R (F30_s2 R) _ f w h)
theorem F30_all_e (R : Ending → World → Prop) (K : Fr → World → Prop) (X : Nat → Fr → World → Prop) (f : Fr) (w : World) (h : wpE Try.prog F30_dc (resK Try.prog [.tmp 4] R) (panK R) F30_s1_c K X f w) : wpE Try.prog F30_dc (resK Try.prog [.tmp 4] R) (panK R) F30_b K X f w := Eq.mp (by kernel_rfl) h
theorem F30_calls (R : Ending → World → Prop) (v0 : Value) (v1 : Value) (w : World) (h : F30_s1 R v0 v1 w) : Calls Try.prog 30 #[v0, v1] w R :=
  calls_of_wpE (dc := F30_dc) (args := [v0, v1]) hmixed Try.func30 (c := F30_b) rfl (rs := [.tmp 4]) rfl (by kernel_rfl) (Nat.le_of_ble_eq_true (by kernel_rfl)) (F30_all_e R _ _ _ w ((F30_s1_ok R) (initFr [v0, v1]) w h))

/-! ### slices.Compact[[]hasp/api.Edge,hasp/api.Edge] -/
noncomputable def F42_b : Code := bodyOf Try.f42
def F42_dc : Nat → List (Nat × Bool)
  | 11 => [(0, true), (1, true), (2, true), (3, true), (4, true), (5, true), (6, true), (7, true), (8, true), (9, true)]
  | 6 => [(0, true), (1, true), (2, true), (3, true), (4, true), (5, true), (6, true), (7, true), (8, true), (9, true)]
  | _ => []
def F42_s5_t (R : Ending → World → Prop) (v0 : Value) (w : World) : Prop :=
  R (.returned v0) w
theorem F42_s5_st (R : Ending → World → Prop) (X : Nat → Fr → World → Prop) (f : Fr) (w : World) (h : F42_s5_t R (f 0) w) : wpE Try.prog F42_dc (resK Try.prog [.tmp 2] R) (panK R) (cL (cR (cR (cR F42_b)))) (resK Try.prog [.tmp 2] R) X f w := Eq.mp (by kernel_rfl) h
def F42_s5 (R : Ending → World → Prop) (v0 : Value) (w : World) : Prop :=
  F42_s5_t R v0 w
noncomputable def F42_s5_c : Code := (.seq (cL (cR (cR (cR F42_b)))) .ret)
theorem F42_s5_ok (R : Ending → World → Prop) : ∀ f w, ((fun f w => F42_s5 R (f 0) w)) f w → wpE Try.prog F42_dc (resK Try.prog [.tmp 2] R) (panK R) F42_s5_c (resK Try.prog [.tmp 2] R) noX f w :=
  fun f w h => cut (cL (cR (cR (cR F42_b)))) .ret (K := (resK Try.prog [.tmp 2] R)) (fun f w h => ret_ok h) f w (F42_s5_st R _ f w h)
def F42_s10_t (R : Ending → World → Prop) (K : Value → World → Prop) (v0 : Value) (v3 : Value) (w : World) : Prop :=
  uv Try.prog R (binS Go.BinOp.add 3 (.tmp 14) (.const (Go.Value.int Go.IntKind.i64 1)) v3 (Go.Value.int Go.IntKind.i64 1)) w (fun v15 w => -- slices.go:375
  K v15 w)
theorem F42_s10_st (R : Ending → World → Prop) (K : Value → World → Prop) (X : Nat → Fr → World → Prop) (f : Fr) (w : World) (h : F42_s10_t R K (f 0) (f 3) w) : wpE Try.prog F42_dc (resK Try.prog [.tmp 2] R) (panK R) (cR (cR (cI (cI (cR (cL (cR (cR F42_b)))))))) (fun f w => K (f 3) w) X f w := Eq.mp (by kernel_rfl) h
def F42_s10 (R : Ending → World → Prop) (rec6 : Value → World → Prop) (v0 : Value) (v3 : Value) (w : World) : Prop :=
  F42_s10_t R (rec6) v0 v3 w
noncomputable def F42_s10_c : Code := (.seq (cR (cR (cI (cI (cR (cL (cR (cR F42_b)))))))) .skip)
theorem F42_s10_ok (R : Ending → World → Prop) (rec6 : Value → World → Prop) : ∀ f w, ((fun f w => F42_s10 R rec6 (f 0) (f 3) w)) f w → wpE Try.prog F42_dc (resK Try.prog [.tmp 2] R) (panK R) F42_s10_c (fun f w => rec6 (f 3) w) (kxB 0 ((fun f w => F42_s5 R (f 0) w)) noX) f w :=
  fun f w h => cut (cR (cR (cI (cI (cR (cL (cR (cR F42_b)))))))) .skip (K := (fun f w => rec6 (f 3) w)) (fun f w h => skip_ok h) f w (F42_s10_st R (rec6) _ f w h)
def F42_s15_t (R : Ending → World → Prop) (v0 : Value) (v3 : Value) (w : World) : Prop :=
  uv Try.prog R (Instr.sliceAt 38 v0 (some v3) none none) w (fun v56 w => -- slices.go:385
  un Try.prog R (builtin Go.Builtin.clear #[38] 0 #[false] #[v56]) w (fun _ w => -- slices.go:385
  uv Try.prog R (Instr.sliceAt 38 v0 none (some v3) none) w (fun v59 w => -- slices.go:386
  R (.returned v59) w)))
theorem F42_s15_st (R : Ending → World → Prop) (X : Nat → Fr → World → Prop) (f : Fr) (w : World) (h : F42_s15_t R (f 0) (f 3) w) : wpE Try.prog F42_dc (resK Try.prog [.tmp 2] R) (panK R) (.seq (cL (cR (cR (cT (cR (cI (cL (cR (cI (cI (cR (cL (cR (cR F42_b)))))))))))))) (cL (cR (cR (cR (cT (cR (cI (cL (cR (cI (cI (cR (cL (cR (cR F42_b)))))))))))))))) (resK Try.prog [.tmp 2] R) X f w := Eq.mp (by kernel_rfl) h
def F42_s15 (R : Ending → World → Prop) (rec6 : Value → World → Prop) (v0 : Value) (v3 : Value) (w : World) : Prop :=
  F42_s15_t R v0 v3 w
noncomputable def F42_s15_c : Code := (.seq (.seq (cL (cR (cR (cT (cR (cI (cL (cR (cI (cI (cR (cL (cR (cR F42_b)))))))))))))) (cL (cR (cR (cR (cT (cR (cI (cL (cR (cI (cI (cR (cL (cR (cR F42_b)))))))))))))))) .ret)
theorem F42_s15_ok (R : Ending → World → Prop) (rec6 : Value → World → Prop) : ∀ f w, ((fun f w => F42_s15 R rec6 (f 0) (f 3) w)) f w → wpE Try.prog F42_dc (resK Try.prog [.tmp 2] R) (panK R) F42_s15_c (fun f w => F42_s10 R rec6 (f 0) (f 3) w) (kxB 1 ((fun f w => F42_s10 R rec6 (f 0) (f 3) w)) (kxB 0 ((fun f w => F42_s5 R (f 0) w)) noX)) f w :=
  fun f w h => cut (.seq (cL (cR (cR (cT (cR (cI (cL (cR (cI (cI (cR (cL (cR (cR F42_b)))))))))))))) (cL (cR (cR (cR (cT (cR (cI (cL (cR (cI (cI (cR (cL (cR (cR F42_b)))))))))))))))) .ret (K := (resK Try.prog [.tmp 2] R)) (fun f w h => ret_ok h) f w (F42_s15_st R _ f w h)
def F42_s20_t (R : Ending → World → Prop) (K : Value → Value → World → Prop) (v0 : Value) (v3 : Value) (v4 : Value) (v5 : Value) (w : World) : Prop :=
  uv Try.prog R (binS Go.BinOp.add 3 (.tmp 33) (.const (Go.Value.int Go.IntKind.i64 1)) v5 (Go.Value.int Go.IntKind.i64 1)) w (fun v34 w => -- slices.go:378
  K v3 v34 w)
theorem F42_s20_st (R : Ending → World → Prop) (K : Value → Value → World → Prop) (X : Nat → Fr → World → Prop) (f : Fr) (w : World) (h : F42_s20_t R K (f 0) (f 3) (f 4) (f 5) w) : wpE Try.prog F42_dc (resK Try.prog [.tmp 2] R) (panK R) (cR (cR (cI (cI (cR (cL (cR (cT (cR (cI (cL (cR (cI (cI (cR (cL (cR (cR F42_b)))))))))))))))))) (fun f w => K (f 3) (f 5) w) X f w := Eq.mp (by kernel_rfl) h
def F42_s20 (R : Ending → World → Prop) (rec6 : Value → World → Prop) (rec16 : Value → Value → World → Prop) (v0 : Value) (v3 : Value) (v4 : Value) (v5 : Value) (w : World) : Prop :=
  F42_s20_t R (rec16) v0 v3 v4 v5 w
noncomputable def F42_s20_c : Code := (.seq (cR (cR (cI (cI (cR (cL (cR (cT (cR (cI (cL (cR (cI (cI (cR (cL (cR (cR F42_b)))))))))))))))))) .skip)
theorem F42_s20_ok (R : Ending → World → Prop) (rec6 : Value → World → Prop) (rec16 : Value → Value → World → Prop) : ∀ f w, ((fun f w => F42_s20 R rec6 rec16 (f 0) (f 3) (f 4) (f 5) w)) f w → wpE Try.prog F42_dc (resK Try.prog [.tmp 2] R) (panK R) F42_s20_c (fun f w => rec16 (f 3) (f 5) w) (kxB 2 ((fun f w => F42_s15 R rec6 (f 0) (f 3) w)) (kxB 1 ((fun f w => F42_s10 R rec6 (f 0) (f 3) w)) (kxB 0 ((fun f w => F42_s5 R (f 0) w)) noX))) f w :=
  fun f w h => cut (cR (cR (cI (cI (cR (cL (cR (cT (cR (cI (cL (cR (cI (cI (cR (cL (cR (cR F42_b)))))))))))))))))) .skip (K := (fun f w => rec16 (f 3) (f 5) w)) (fun f w h => skip_ok h) f w (F42_s20_st R (rec16) _ f w h)
def F42_s23_t (R : Ending → World → Prop) (K : Value → Value → Value → Value → World → Prop) (v0 : Value) (v3 : Value) (v4 : Value) (v5 : Value) (w : World) : Prop :=
  uv Try.prog R (Instr.indexAt 38 v4 v5) w (fun v49 w => -- slices.go:380
  uv Try.prog R (Instr.loadAt 81 v49) w (fun v50 w => -- slices.go:380
  uv Try.prog R (Instr.indexAt 38 v0 v3) w (fun v51 w => -- slices.go:380
  uu Try.prog R (Instr.storeAt 81 v51 v50) w (fun w => -- slices.go:380
  uv Try.prog R (binS Go.BinOp.add 3 (.tmp 52) (.const (Go.Value.int Go.IntKind.i64 1)) v3 (Go.Value.int Go.IntKind.i64 1)) w (fun v53 w => -- slices.go:381
  K v0 v53 v4 v5 w)))))
theorem F42_s23_st (R : Ending → World → Prop) (K : Value → Value → Value → Value → World → Prop) (X : Nat → Fr → World → Prop) (f : Fr) (w : World) (h : F42_s23_t R K (f 0) (f 3) (f 4) (f 5) w) : wpE Try.prog F42_dc (resK Try.prog [.tmp 2] R) (panK R) (.seq (cL (cT (cR (cI (cL (cR (cI (cI (cR (cL (cR (cT (cR (cI (cL (cR (cI (cI (cR (cL (cR (cR F42_b)))))))))))))))))))))) (cR (cT (cR (cI (cL (cR (cI (cI (cR (cL (cR (cT (cR (cI (cL (cR (cI (cI (cR (cL (cR (cR F42_b))))))))))))))))))))))) (fun f w => K (f 0) (f 3) (f 4) (f 5) w) X f w := Eq.mp (by kernel_rfl) h
def F42_s23 (R : Ending → World → Prop) (rec6 : Value → World → Prop) (rec16 : Value → Value → World → Prop) (v0 : Value) (v3 : Value) (v4 : Value) (v5 : Value) (w : World) : Prop :=
  F42_s23_t R (F42_s20 R rec6 rec16) v0 v3 v4 v5 w
noncomputable def F42_s23_c : Code := (.seq (.seq (cL (cT (cR (cI (cL (cR (cI (cI (cR (cL (cR (cT (cR (cI (cL (cR (cI (cI (cR (cL (cR (cR F42_b)))))))))))))))))))))) (cR (cT (cR (cI (cL (cR (cI (cI (cR (cL (cR (cT (cR (cI (cL (cR (cI (cI (cR (cL (cR (cR F42_b))))))))))))))))))))))) .skip)
theorem F42_s23_ok (R : Ending → World → Prop) (rec6 : Value → World → Prop) (rec16 : Value → Value → World → Prop) : ∀ f w, ((fun f w => F42_s23 R rec6 rec16 (f 0) (f 3) (f 4) (f 5) w)) f w → wpE Try.prog F42_dc (resK Try.prog [.tmp 2] R) (panK R) F42_s23_c (fun f w => F42_s20 R rec6 rec16 (f 0) (f 3) (f 4) (f 5) w) (kxB 3 ((fun f w => F42_s20 R rec6 rec16 (f 0) (f 3) (f 4) (f 5) w)) (kxB 2 ((fun f w => F42_s15 R rec6 (f 0) (f 3) w)) (kxB 1 ((fun f w => F42_s10 R rec6 (f 0) (f 3) w)) (kxB 0 ((fun f w => F42_s5 R (f 0) w)) noX)))) f w :=
  fun f w h => cut (.seq (cL (cT (cR (cI (cL (cR (cI (cI (cR (cL (cR (cT (cR (cI (cL (cR (cI (cI (cR (cL (cR (cR F42_b)))))))))))))))))))))) (cR (cT (cR (cI (cL (cR (cI (cI (cR (cL (cR (cT (cR (cI (cL (cR (cI (cI (cR (cL (cR (cR F42_b))))))))))))))))))))))) .skip (K := (fun f w => F42_s20 R rec6 rec16 (f 0) (f 3) (f 4) (f 5) w)) (fun f w h => skip_ok h) f w (F42_s23_st R (F42_s20 R rec6 rec16) _ f w h)
def F42_s22 (R : Ending → World → Prop) (rec6 : Value → World → Prop) (rec16 : Value → Value → World → Prop) (v0 : Value) (v3 : Value) (v4 : Value) (v5 : Value) (v44 : Value) (w : World) : Prop :=
  Bc v44
    (F42_s23 R rec6 rec16 v0 v3 v4 v5 w)
    (F42_s20 R rec6 rec16 v0 v3 v4 v5 w)
noncomputable def F42_s22_c : Code := (.seq (cR (cI (cL (cR (cI (cI (cR (cL (cR (cT (cR (cI (cL (cR (cI (cI (cR (cL (cR (cR F42_b)))))))))))))))))))) .skip)
theorem F42_s22_e (R : Ending → World → Prop) (K : Fr → World → Prop) (X : Nat → Fr → World → Prop) (f : Fr) (w : World) (h : Bc (f 44) (wpE Try.prog F42_dc (resK Try.prog [.tmp 2] R) (panK R) F42_s23_c K X f w) (wpE Try.prog F42_dc (resK Try.prog [.tmp 2] R) (panK R) .skip K X f w)) : (wpE Try.prog F42_dc (resK Try.prog [.tmp 2] R) (panK R) (cR (cI (cL (cR (cI (cI (cR (cL (cR (cT (cR (cI (cL (cR (cI (cI (cR (cL (cR (cR F42_b)))))))))))))))))))) K X f w) := Eq.mp (by kernel_rfl) h
theorem F42_s22_ok (R : Ending → World → Prop) (rec6 : Value → World → Prop) (rec16 : Value → Value → World → Prop) : ∀ f w, ((fun f w => F42_s22 R rec6 rec16 (f 0) (f 3) (f 4) (f 5) (f 44) w)) f w → wpE Try.prog F42_dc (resK Try.prog [.tmp 2] R) (panK R) F42_s22_c (fun f w => F42_s20 R rec6 rec16 (f 0) (f 3) (f 4) (f 5) w) (kxB 3 ((fun f w => F42_s20 R rec6 rec16 (f 0) (f 3) (f 4) (f 5) w)) (kxB 2 ((fun f w => F42_s15 R rec6 (f 0) (f 3) w)) (kxB 1 ((fun f w => F42_s10 R rec6 (f 0) (f 3) w)) (kxB 0 ((fun f w => F42_s5 R (f 0) w)) noX)))) f w :=
  fun f w h => cut (cR (cI (cL (cR (cI (cI (cR (cL (cR (cT (cR (cI (cL (cR (cI (cI (cR (cL (cR (cR F42_b)))))))))))))))))))) .skip (K := (fun f w => F42_s20 R rec6 rec16 (f 0) (f 3) (f 4) (f 5) w)) (fun f w h => skip_ok h) f w (F42_s22_e R _ _ f w (Bc_imp (x' := (wpE Try.prog F42_dc (resK Try.prog [.tmp 2] R) (panK R) F42_s23_c (fun f w => F42_s20 R rec6 rec16 (f 0) (f 3) (f 4) (f 5) w) (kxB 3 ((fun f w => F42_s20 R rec6 rec16 (f 0) (f 3) (f 4) (f 5) w)) (kxB 2 ((fun f w => F42_s15 R rec6 (f 0) (f 3) w)) (kxB 1 ((fun f w => F42_s10 R rec6 (f 0) (f 3) w)) (kxB 0 ((fun f w => F42_s5 R (f 0) w)) noX)))) f w)) (y' := (wpE Try.prog F42_dc (resK Try.prog [.tmp 2] R) (panK R) .skip (fun f w => F42_s20 R rec6 rec16 (f 0) (f 3) (f 4) (f 5) w) (kxB 3 ((fun f w => F42_s20 R rec6 rec16 (f 0) (f 3) (f 4) (f 5) w)) (kxB 2 ((fun f w => F42_s15 R rec6 (f 0) (f 3) w)) (kxB 1 ((fun f w => F42_s10 R rec6 (f 0) (f 3) w)) (kxB 0 ((fun f w => F42_s5 R (f 0) w)) noX)))) f w)) ((F42_s23_ok R rec6 rec16) f w) ((fun f w h => skip_ok h) f w) h))
def F42_s21_t (R : Ending → World → Prop) (K : Value → Value → Value → Value → Value → World → Prop) (v0 : Value) (v3 : Value) (v4 : Value) (v5 : Value) (w : World) : Prop :=
  Dr (fun S w => -- slices.go:379
  HV Try.prog S (Instr.indexAt 38 v4 v5) (fun v37 => -- slices.go:379
  HV Try.prog S (Instr.loadAt 81 v37) (fun v38 => -- slices.go:379
  HV Try.prog S (binS Go.BinOp.sub 3 (.tmp 40) (.const (Go.Value.int Go.IntKind.i64 1)) v5 (Go.Value.int Go.IntKind.i64 1)) (fun v41 => -- slices.go:379
  HV Try.prog S (Instr.indexAt 38 v4 v41) (fun v42 => -- slices.go:379
  HV Try.prog S (Instr.loadAt 81 v42) (fun v43 => -- slices.go:379
  HV Try.prog S (binS Go.BinOp.neq 81 (.tmp 38) (.tmp 43) v38 v43) (fun v44 => -- slices.go:379
  K v0 v3 v4 v5 v44 w))))))) w
theorem F42_s21_st (R : Ending → World → Prop) (K : Value → Value → Value → Value → Value → World → Prop) (X : Nat → Fr → World → Prop) (f : Fr) (w : World) (h : F42_s21_t R K (f 0) (f 3) (f 4) (f 5) w) : wpE Try.prog F42_dc (resK Try.prog [.tmp 2] R) (panK R) (cL (cI (cL (cR (cI (cI (cR (cL (cR (cT (cR (cI (cL (cR (cI (cI (cR (cL (cR (cR F42_b)))))))))))))))))))) (fun f w => K (f 0) (f 3) (f 4) (f 5) (f 44) w) X f w := Eq.mp (by kernel_rfl) h
def F42_s21 (R : Ending → World → Prop) (rec6 : Value → World → Prop) (rec16 : Value → Value → World → Prop) (v0 : Value) (v3 : Value) (v4 : Value) (v5 : Value) (w : World) : Prop :=
  F42_s21_t R (F42_s22 R rec6 rec16) v0 v3 v4 v5 w
noncomputable def F42_s21_c : Code := (.seq (cL (cI (cL (cR (cI (cI (cR (cL (cR (cT (cR (cI (cL (cR (cI (cI (cR (cL (cR (cR F42_b)))))))))))))))))))) F42_s22_c)
theorem F42_s21_ok (R : Ending → World → Prop) (rec6 : Value → World → Prop) (rec16 : Value → Value → World → Prop) : ∀ f w, ((fun f w => F42_s21 R rec6 rec16 (f 0) (f 3) (f 4) (f 5) w)) f w → wpE Try.prog F42_dc (resK Try.prog [.tmp 2] R) (panK R) F42_s21_c (fun f w => F42_s20 R rec6 rec16 (f 0) (f 3) (f 4) (f 5) w) (kxB 3 ((fun f w => F42_s20 R rec6 rec16 (f 0) (f 3) (f 4) (f 5) w)) (kxB 2 ((fun f w => F42_s15 R rec6 (f 0) (f 3) w)) (kxB 1 ((fun f w => F42_s10 R rec6 (f 0) (f 3) w)) (kxB 0 ((fun f w => F42_s5 R (f 0) w)) noX)))) f w :=
  fun f w h => cut (cL (cI (cL (cR (cI (cI (cR (cL (cR (cT (cR (cI (cL (cR (cI (cI (cR (cL (cR (cR F42_b)))))))))))))))))))) F42_s22_c (K := (fun f w => F42_s22 R rec6 rec16 (f 0) (f 3) (f 4) (f 5) (f 44) w)) (F42_s22_ok R rec6 rec16) f w (F42_s21_st R (F42_s22 R rec6 rec16) _ f w h)
noncomputable def F42_s19_c : Code := (.seq (cL (cR (cI (cI (cR (cL (cR (cT (cR (cI (cL (cR (cI (cI (cR (cL (cR (cR F42_b)))))))))))))))))) F42_s20_c)
theorem F42_s19_e (R : Ending → World → Prop) (K : Fr → World → Prop) (X : Nat → Fr → World → Prop) (f : Fr) (w : World) (h : wpE Try.prog F42_dc (resK Try.prog [.tmp 2] R) (panK R) F42_s21_c K (kxB 3 K X) f w) : wpE Try.prog F42_dc (resK Try.prog [.tmp 2] R) (panK R) (cL (cR (cI (cI (cR (cL (cR (cT (cR (cI (cL (cR (cI (cI (cR (cL (cR (cR F42_b)))))))))))))))))) K X f w := Eq.mp (by kernel_rfl) h
theorem F42_s19_ok (R : Ending → World → Prop) (rec6 : Value → World → Prop) (rec16 : Value → Value → World → Prop) : ∀ f w, ((fun f w => F42_s21 R rec6 rec16 (f 0) (f 3) (f 4) (f 5) w)) f w → wpE Try.prog F42_dc (resK Try.prog [.tmp 2] R) (panK R) F42_s19_c (fun f w => rec16 (f 3) (f 5) w) (kxB 2 ((fun f w => F42_s15 R rec6 (f 0) (f 3) w)) (kxB 1 ((fun f w => F42_s10 R rec6 (f 0) (f 3) w)) (kxB 0 ((fun f w => F42_s5 R (f 0) w)) noX))) f w :=
  fun f w h => cut (cL (cR (cI (cI (cR (cL (cR (cT (cR (cI (cL (cR (cI (cI (cR (cL (cR (cR F42_b)))))))))))))))))) F42_s20_c (K := (fun f w => F42_s20 R rec6 rec16 (f 0) (f 3) (f 4) (f 5) w)) (F42_s20_ok R rec6 rec16) f w (F42_s19_e R _ _ f w ((F42_s21_ok R rec6 rec16) f w h))
def F42_s18 (R : Ending → World → Prop) (rec6 : Value → World → Prop) (rec16 : Value → Value → World → Prop) (v0 : Value) (v3 : Value) (v4 : Value) (v5 : Value) (v32 : Value) (w : World) : Prop :=
  Bc v32
    (F42_s21 R rec6 rec16 v0 v3 v4 v5 w)
    (F42_s15 R rec6 v0 v3 w)
noncomputable def F42_s18_c : Code := (.seq (cR (cL (cI (cI (cR (cL (cR (cT (cR (cI (cL (cR (cI (cI (cR (cL (cR (cR F42_b)))))))))))))))))) F42_s19_c)
theorem F42_s18_e (R : Ending → World → Prop) (K : Fr → World → Prop) (X : Nat → Fr → World → Prop) (f : Fr) (w : World) (h : Bc (f 32) (wpE Try.prog F42_dc (resK Try.prog [.tmp 2] R) (panK R) .skip K X f w) (wpE Try.prog F42_dc (resK Try.prog [.tmp 2] R) (panK R) (.exit 2) K X f w)) : (wpE Try.prog F42_dc (resK Try.prog [.tmp 2] R) (panK R) (cR (cL (cI (cI (cR (cL (cR (cT (cR (cI (cL (cR (cI (cI (cR (cL (cR (cR F42_b)))))))))))))))))) K X f w) := Eq.mp (by kernel_rfl) h
theorem F42_s18_ok (R : Ending → World → Prop) (rec6 : Value → World → Prop) (rec16 : Value → Value → World → Prop) : ∀ f w, ((fun f w => F42_s18 R rec6 rec16 (f 0) (f 3) (f 4) (f 5) (f 32) w)) f w → wpE Try.prog F42_dc (resK Try.prog [.tmp 2] R) (panK R) F42_s18_c (fun f w => rec16 (f 3) (f 5) w) (kxB 2 ((fun f w => F42_s15 R rec6 (f 0) (f 3) w)) (kxB 1 ((fun f w => F42_s10 R rec6 (f 0) (f 3) w)) (kxB 0 ((fun f w => F42_s5 R (f 0) w)) noX))) f w :=
  fun f w h => cut (cR (cL (cI (cI (cR (cL (cR (cT (cR (cI (cL (cR (cI (cI (cR (cL (cR (cR F42_b)))))))))))))))))) F42_s19_c (K := (fun f w => F42_s21 R rec6 rec16 (f 0) (f 3) (f 4) (f 5) w)) (F42_s19_ok R rec6 rec16) f w (F42_s18_e R _ _ f w (Bc_imp (x' := (wpE Try.prog F42_dc (resK Try.prog [.tmp 2] R) (panK R) .skip (fun f w => F42_s21 R rec6 rec16 (f 0) (f 3) (f 4) (f 5) w) (kxB 2 ((fun f w => F42_s15 R rec6 (f 0) (f 3) w)) (kxB 1 ((fun f w => F42_s10 R rec6 (f 0) (f 3) w)) (kxB 0 ((fun f w => F42_s5 R (f 0) w)) noX))) f w)) (y' := (wpE Try.prog F42_dc (resK Try.prog [.tmp 2] R) (panK R) (.exit 2) (fun f w => F42_s21 R rec6 rec16 (f 0) (f 3) (f 4) (f 5) w) (kxB 2 ((fun f w => F42_s15 R rec6 (f 0) (f 3) w)) (kxB 1 ((fun f w => F42_s10 R rec6 (f 0) (f 3) w)) (kxB 0 ((fun f w => F42_s5 R (f 0) w)) noX))) f w)) ((fun f w h => skip_ok h) f w) ((fun f w h => exit_hit h) f w) h))
def F42_s17_t (R : Ending → World → Prop) (K : Value → Value → Value → Value → Value → World → Prop) (v0 : Value) (v3 : Value) (v4 : Value) (v5 : Value) (w : World) : Prop :=
  un Try.prog R (builtin Go.Builtin.len #[38] 3 #[false] #[v4]) w (fun v31 w => -- slices.go:378
  uv Try.prog R (binS Go.BinOp.lss 3 (.tmp 29) (.tmp 31) v5 v31) w (fun v32 w => -- slices.go:378
  K v0 v3 v4 v5 v32 w))
theorem F42_s17_st (R : Ending → World → Prop) (K : Value → Value → Value → Value → Value → World → Prop) (X : Nat → Fr → World → Prop) (f : Fr) (w : World) (h : F42_s17_t R K (f 0) (f 3) (f 4) (f 5) w) : wpE Try.prog F42_dc (resK Try.prog [.tmp 2] R) (panK R) (cL (cL (cI (cI (cR (cL (cR (cT (cR (cI (cL (cR (cI (cI (cR (cL (cR (cR F42_b)))))))))))))))))) (fun f w => K (f 0) (f 3) (f 4) (f 5) (f 32) w) X f w := Eq.mp (by kernel_rfl) h
def F42_s17 (R : Ending → World → Prop) (rec6 : Value → World → Prop) (rec16 : Value → Value → World → Prop) (v0 : Value) (v3 : Value) (v4 : Value) (v5 : Value) (w : World) : Prop :=
  F42_s17_t R (F42_s18 R rec6 rec16) v0 v3 v4 v5 w
noncomputable def F42_s17_c : Code := (.seq (cL (cL (cI (cI (cR (cL (cR (cT (cR (cI (cL (cR (cI (cI (cR (cL (cR (cR F42_b)))))))))))))))))) F42_s18_c)
theorem F42_s17_ok (R : Ending → World → Prop) (rec6 : Value → World → Prop) (rec16 : Value → Value → World → Prop) : ∀ f w, ((fun f w => F42_s17 R rec6 rec16 (f 0) (f 3) (f 4) (f 5) w)) f w → wpE Try.prog F42_dc (resK Try.prog [.tmp 2] R) (panK R) F42_s17_c (fun f w => rec16 (f 3) (f 5) w) (kxB 2 ((fun f w => F42_s15 R rec6 (f 0) (f 3) w)) (kxB 1 ((fun f w => F42_s10 R rec6 (f 0) (f 3) w)) (kxB 0 ((fun f w => F42_s5 R (f 0) w)) noX))) f w :=
  fun f w h => cut (cL (cL (cI (cI (cR (cL (cR (cT (cR (cI (cL (cR (cI (cI (cR (cL (cR (cR F42_b)))))))))))))))))) F42_s18_c (K := (fun f w => F42_s18 R rec6 rec16 (f 0) (f 3) (f 4) (f 5) (f 32) w)) (F42_s18_ok R rec6 rec16) f w (F42_s17_st R (F42_s18 R rec6 rec16) _ f w h)
def F42_s16 (R : Ending → World → Prop) (rec6 : Value → World → Prop) (v0 : Value) (v3 : Value) (v4 : Value) (v5 : Value) (w : World) : Prop :=
  Lp2 (fun rec16 v3 v5 w => F42_s17 R rec6 rec16 v0 v3 v4 v5 w) v3 v5 w
theorem F42_s16_e (R : Ending → World → Prop) (K : Fr → World → Prop) (X : Nat → Fr → World → Prop) (f : Fr) (w : World) (h : wpE Try.prog F42_dc (resK Try.prog [.tmp 2] R) (panK R) (.loop (cI (cI (cR (cL (cR (cT (cR (cI (cL (cR (cI (cI (cR (cL (cR (cR F42_b))))))))))))))))) K X f w) : wpE Try.prog F42_dc (resK Try.prog [.tmp 2] R) (panK R) (cI (cR (cL (cR (cT (cR (cI (cL (cR (cI (cI (cR (cL (cR (cR F42_b))))))))))))))) K X f w := Eq.mp (by kernel_rfl) h
theorem F42_s16b_e (R : Ending → World → Prop) (K : Fr → World → Prop) (X : Nat → Fr → World → Prop) (f : Fr) (w : World) (h : wpE Try.prog F42_dc (resK Try.prog [.tmp 2] R) (panK R) F42_s17_c K X f w) : wpE Try.prog F42_dc (resK Try.prog [.tmp 2] R) (panK R) (cI (cI (cR (cL (cR (cT (cR (cI (cL (cR (cI (cI (cR (cL (cR (cR F42_b)))))))))))))))) K X f w := Eq.mp (by kernel_rfl) h
theorem F42_s16_ok (R : Ending → World → Prop) (rec6 : Value → World → Prop) : ∀ f w, ((fun f w => F42_s16 R rec6 (f 0) (f 3) (f 4) (f 5) w)) f w → wpE Try.prog F42_dc (resK Try.prog [.tmp 2] R) (panK R) (cI (cR (cL (cR (cT (cR (cI (cL (cR (cI (cI (cR (cL (cR (cR F42_b))))))))))))))) (fun f w => F42_s15 R rec6 (f 0) (f 3) w) (kxB 2 ((fun f w => F42_s15 R rec6 (f 0) (f 3) w)) (kxB 1 ((fun f w => F42_s10 R rec6 (f 0) (f 3) w)) (kxB 0 ((fun f w => F42_s5 R (f 0) w)) noX))) f w :=
  fun f w h => F42_s16_e R _ _ f w (loop2_ok (P := Try.prog) (dc := F42_dc) (kr := (resK Try.prog [.tmp 2] R)) (pan := panK R) (cI (cI (cR (cL (cR (cT (cR (cI (cL (cR (cI (cI (cR (cL (cR (cR F42_b)))))))))))))))) (kn := (fun f w => F42_s15 R rec6 (f 0) (f 3) w)) (kx := (kxB 2 ((fun f w => F42_s15 R rec6 (f 0) (f 3) w)) (kxB 1 ((fun f w => F42_s10 R rec6 (f 0) (f 3) w)) (kxB 0 ((fun f w => F42_s5 R (f 0) w)) noX)))) (s0 := 3) (s1 := 5) (fun rec16 v3 v5 w => F42_s17 R rec6 rec16 (f 0) v3 (f 4) v5 w) f (fun rec16 f' w' hf h' => F42_s16b_e R _ _ f' w' ((F42_s17_ok R rec6 rec16) f' w' (by simp only [hf 0 (by kernel_rfl), hf 4 (by kernel_rfl)]; exact h'))) w h)
noncomputable def F42_s14_c : Code := (.seq (cR (cL (cR (cT (cR (cI (cL (cR (cI (cI (cR (cL (cR (cR F42_b)))))))))))))) F42_s15_c)
theorem F42_s14_e (R : Ending → World → Prop) (K : Fr → World → Prop) (X : Nat → Fr → World → Prop) (f : Fr) (w : World) (h : wpE Try.prog F42_dc (resK Try.prog [.tmp 2] R) (panK R) (cI (cR (cL (cR (cT (cR (cI (cL (cR (cI (cI (cR (cL (cR (cR F42_b))))))))))))))) K (kxB 2 K X) f w) : wpE Try.prog F42_dc (resK Try.prog [.tmp 2] R) (panK R) (cR (cL (cR (cT (cR (cI (cL (cR (cI (cI (cR (cL (cR (cR F42_b)))))))))))))) K X f w := Eq.mp (by kernel_rfl) h
theorem F42_s14_ok (R : Ending → World → Prop) (rec6 : Value → World → Prop) : ∀ f w, ((fun f w => F42_s16 R rec6 (f 0) (f 3) (f 4) (f 5) w)) f w → wpE Try.prog F42_dc (resK Try.prog [.tmp 2] R) (panK R) F42_s14_c (fun f w => F42_s10 R rec6 (f 0) (f 3) w) (kxB 1 ((fun f w => F42_s10 R rec6 (f 0) (f 3) w)) (kxB 0 ((fun f w => F42_s5 R (f 0) w)) noX)) f w :=
  fun f w h => cut (cR (cL (cR (cT (cR (cI (cL (cR (cI (cI (cR (cL (cR (cR F42_b)))))))))))))) F42_s15_c (K := (fun f w => F42_s15 R rec6 (f 0) (f 3) w)) (F42_s15_ok R rec6) f w (F42_s14_e R _ _ f w ((F42_s16_ok R rec6) f w h))
def F42_s13_t (R : Ending → World → Prop) (K : Value → Value → Value → Value → World → Prop) (v0 : Value) (v3 : Value) (w : World) : Prop :=
  uv Try.prog R (Instr.sliceAt 38 v0 (some v3) none none) w (fun v28 w => -- slices.go:377
  K v0 v3 v28 (Go.Value.int Go.IntKind.i64 1) w)
theorem F42_s13_st (R : Ending → World → Prop) (K : Value → Value → Value → Value → World → Prop) (X : Nat → Fr → World → Prop) (f : Fr) (w : World) (h : F42_s13_t R K (f 0) (f 3) w) : wpE Try.prog F42_dc (resK Try.prog [.tmp 2] R) (panK R) (.seq (cL (cT (cR (cI (cL (cR (cI (cI (cR (cL (cR (cR F42_b)))))))))))) (cL (cL (cR (cT (cR (cI (cL (cR (cI (cI (cR (cL (cR (cR F42_b))))))))))))))) (fun f w => K (f 0) (f 3) (f 4) (f 5) w) X f w := Eq.mp (by kernel_rfl) h
def F42_s13 (R : Ending → World → Prop) (rec6 : Value → World → Prop) (v0 : Value) (v3 : Value) (w : World) : Prop :=
  F42_s13_t R (F42_s16 R rec6) v0 v3 w
noncomputable def F42_s13_c : Code := (.seq (.seq (cL (cT (cR (cI (cL (cR (cI (cI (cR (cL (cR (cR F42_b)))))))))))) (cL (cL (cR (cT (cR (cI (cL (cR (cI (cI (cR (cL (cR (cR F42_b))))))))))))))) F42_s14_c)
theorem F42_s13_ok (R : Ending → World → Prop) (rec6 : Value → World → Prop) : ∀ f w, ((fun f w => F42_s13 R rec6 (f 0) (f 3) w)) f w → wpE Try.prog F42_dc (resK Try.prog [.tmp 2] R) (panK R) F42_s13_c (fun f w => F42_s10 R rec6 (f 0) (f 3) w) (kxB 1 ((fun f w => F42_s10 R rec6 (f 0) (f 3) w)) (kxB 0 ((fun f w => F42_s5 R (f 0) w)) noX)) f w :=
  fun f w h => cut (.seq (cL (cT (cR (cI (cL (cR (cI (cI (cR (cL (cR (cR F42_b)))))))))))) (cL (cL (cR (cT (cR (cI (cL (cR (cI (cI (cR (cL (cR (cR F42_b))))))))))))))) F42_s14_c (K := (fun f w => F42_s16 R rec6 (f 0) (f 3) (f 4) (f 5) w)) (F42_s14_ok R rec6) f w (F42_s13_st R (F42_s16 R rec6) _ f w h)
def F42_s12 (R : Ending → World → Prop) (rec6 : Value → World → Prop) (v0 : Value) (v3 : Value) (v25 : Value) (w : World) : Prop :=
  Bc v25
    (F42_s13 R rec6 v0 v3 w)
    (F42_s10 R rec6 v0 v3 w)
noncomputable def F42_s12_c : Code := (.seq (cR (cI (cL (cR (cI (cI (cR (cL (cR (cR F42_b)))))))))) .skip)
theorem F42_s12_e (R : Ending → World → Prop) (K : Fr → World → Prop) (X : Nat → Fr → World → Prop) (f : Fr) (w : World) (h : Bc (f 25) (wpE Try.prog F42_dc (resK Try.prog [.tmp 2] R) (panK R) F42_s13_c K X f w) (wpE Try.prog F42_dc (resK Try.prog [.tmp 2] R) (panK R) .skip K X f w)) : (wpE Try.prog F42_dc (resK Try.prog [.tmp 2] R) (panK R) (cR (cI (cL (cR (cI (cI (cR (cL (cR (cR F42_b)))))))))) K X f w) := Eq.mp (by kernel_rfl) h
theorem F42_s12_ok (R : Ending → World → Prop) (rec6 : Value → World → Prop) : ∀ f w, ((fun f w => F42_s12 R rec6 (f 0) (f 3) (f 25) w)) f w → wpE Try.prog F42_dc (resK Try.prog [.tmp 2] R) (panK R) F42_s12_c (fun f w => F42_s10 R rec6 (f 0) (f 3) w) (kxB 1 ((fun f w => F42_s10 R rec6 (f 0) (f 3) w)) (kxB 0 ((fun f w => F42_s5 R (f 0) w)) noX)) f w :=
  fun f w h => cut (cR (cI (cL (cR (cI (cI (cR (cL (cR (cR F42_b)))))))))) .skip (K := (fun f w => F42_s10 R rec6 (f 0) (f 3) w)) (fun f w h => skip_ok h) f w (F42_s12_e R _ _ f w (Bc_imp (x' := (wpE Try.prog F42_dc (resK Try.prog [.tmp 2] R) (panK R) F42_s13_c (fun f w => F42_s10 R rec6 (f 0) (f 3) w) (kxB 1 ((fun f w => F42_s10 R rec6 (f 0) (f 3) w)) (kxB 0 ((fun f w => F42_s5 R (f 0) w)) noX)) f w)) (y' := (wpE Try.prog F42_dc (resK Try.prog [.tmp 2] R) (panK R) .skip (fun f w => F42_s10 R rec6 (f 0) (f 3) w) (kxB 1 ((fun f w => F42_s10 R rec6 (f 0) (f 3) w)) (kxB 0 ((fun f w => F42_s5 R (f 0) w)) noX)) f w)) ((F42_s13_ok R rec6) f w) ((fun f w h => skip_ok h) f w) h))
def F42_s11_t (R : Ending → World → Prop) (K : Value → Value → Value → World → Prop) (v0 : Value) (v3 : Value) (w : World) : Prop :=
  Dr (fun S w => -- slices.go:376
  HV Try.prog S (Instr.indexAt 38 v0 v3) (fun v18 => -- slices.go:376
  HV Try.prog S (Instr.loadAt 81 v18) (fun v19 => -- slices.go:376
  HV Try.prog S (binS Go.BinOp.sub 3 (.tmp 21) (.const (Go.Value.int Go.IntKind.i64 1)) v3 (Go.Value.int Go.IntKind.i64 1)) (fun v22 => -- slices.go:376
  HV Try.prog S (Instr.indexAt 38 v0 v22) (fun v23 => -- slices.go:376
  HV Try.prog S (Instr.loadAt 81 v23) (fun v24 => -- slices.go:376
  HV Try.prog S (binS Go.BinOp.eql 81 (.tmp 19) (.tmp 24) v19 v24) (fun v25 => -- slices.go:376
  K v0 v3 v25 w))))))) w
theorem F42_s11_st (R : Ending → World → Prop) (K : Value → Value → Value → World → Prop) (X : Nat → Fr → World → Prop) (f : Fr) (w : World) (h : F42_s11_t R K (f 0) (f 3) w) : wpE Try.prog F42_dc (resK Try.prog [.tmp 2] R) (panK R) (cL (cI (cL (cR (cI (cI (cR (cL (cR (cR F42_b)))))))))) (fun f w => K (f 0) (f 3) (f 25) w) X f w := Eq.mp (by kernel_rfl) h
def F42_s11 (R : Ending → World → Prop) (rec6 : Value → World → Prop) (v0 : Value) (v3 : Value) (w : World) : Prop :=
  F42_s11_t R (F42_s12 R rec6) v0 v3 w
noncomputable def F42_s11_c : Code := (.seq (cL (cI (cL (cR (cI (cI (cR (cL (cR (cR F42_b)))))))))) F42_s12_c)
theorem F42_s11_ok (R : Ending → World → Prop) (rec6 : Value → World → Prop) : ∀ f w, ((fun f w => F42_s11 R rec6 (f 0) (f 3) w)) f w → wpE Try.prog F42_dc (resK Try.prog [.tmp 2] R) (panK R) F42_s11_c (fun f w => F42_s10 R rec6 (f 0) (f 3) w) (kxB 1 ((fun f w => F42_s10 R rec6 (f 0) (f 3) w)) (kxB 0 ((fun f w => F42_s5 R (f 0) w)) noX)) f w :=
  fun f w h => cut (cL (cI (cL (cR (cI (cI (cR (cL (cR (cR F42_b)))))))))) F42_s12_c (K := (fun f w => F42_s12 R rec6 (f 0) (f 3) (f 25) w)) (F42_s12_ok R rec6) f w (F42_s11_st R (F42_s12 R rec6) _ f w h)
noncomputable def F42_s9_c : Code := (.seq (cL (cR (cI (cI (cR (cL (cR (cR F42_b)))))))) F42_s10_c)
theorem F42_s9_e (R : Ending → World → Prop) (K : Fr → World → Prop) (X : Nat → Fr → World → Prop) (f : Fr) (w : World) (h : wpE Try.prog F42_dc (resK Try.prog [.tmp 2] R) (panK R) F42_s11_c K (kxB 1 K X) f w) : wpE Try.prog F42_dc (resK Try.prog [.tmp 2] R) (panK R) (cL (cR (cI (cI (cR (cL (cR (cR F42_b)))))))) K X f w := Eq.mp (by kernel_rfl) h
theorem F42_s9_ok (R : Ending → World → Prop) (rec6 : Value → World → Prop) : ∀ f w, ((fun f w => F42_s11 R rec6 (f 0) (f 3) w)) f w → wpE Try.prog F42_dc (resK Try.prog [.tmp 2] R) (panK R) F42_s9_c (fun f w => rec6 (f 3) w) (kxB 0 ((fun f w => F42_s5 R (f 0) w)) noX) f w :=
  fun f w h => cut (cL (cR (cI (cI (cR (cL (cR (cR F42_b)))))))) F42_s10_c (K := (fun f w => F42_s10 R rec6 (f 0) (f 3) w)) (F42_s10_ok R rec6) f w (F42_s9_e R _ _ f w ((F42_s11_ok R rec6) f w h))
def F42_s8 (R : Ending → World → Prop) (rec6 : Value → World → Prop) (v0 : Value) (v3 : Value) (v13 : Value) (w : World) : Prop :=
  Bc v13
    (F42_s11 R rec6 v0 v3 w)
    (F42_s5 R v0 w)
noncomputable def F42_s8_c : Code := (.seq (cR (cL (cI (cI (cR (cL (cR (cR F42_b)))))))) F42_s9_c)
theorem F42_s8_e (R : Ending → World → Prop) (K : Fr → World → Prop) (X : Nat → Fr → World → Prop) (f : Fr) (w : World) (h : Bc (f 13) (wpE Try.prog F42_dc (resK Try.prog [.tmp 2] R) (panK R) .skip K X f w) (wpE Try.prog F42_dc (resK Try.prog [.tmp 2] R) (panK R) (.exit 0) K X f w)) : (wpE Try.prog F42_dc (resK Try.prog [.tmp 2] R) (panK R) (cR (cL (cI (cI (cR (cL (cR (cR F42_b)))))))) K X f w) := Eq.mp (by kernel_rfl) h
theorem F42_s8_ok (R : Ending → World → Prop) (rec6 : Value → World → Prop) : ∀ f w, ((fun f w => F42_s8 R rec6 (f 0) (f 3) (f 13) w)) f w → wpE Try.prog F42_dc (resK Try.prog [.tmp 2] R) (panK R) F42_s8_c (fun f w => rec6 (f 3) w) (kxB 0 ((fun f w => F42_s5 R (f 0) w)) noX) f w :=
  fun f w h => cut (cR (cL (cI (cI (cR (cL (cR (cR F42_b)))))))) F42_s9_c (K := (fun f w => F42_s11 R rec6 (f 0) (f 3) w)) (F42_s9_ok R rec6) f w (F42_s8_e R _ _ f w (Bc_imp (x' := (wpE Try.prog F42_dc (resK Try.prog [.tmp 2] R) (panK R) .skip (fun f w => F42_s11 R rec6 (f 0) (f 3) w) (kxB 0 ((fun f w => F42_s5 R (f 0) w)) noX) f w)) (y' := (wpE Try.prog F42_dc (resK Try.prog [.tmp 2] R) (panK R) (.exit 0) (fun f w => F42_s11 R rec6 (f 0) (f 3) w) (kxB 0 ((fun f w => F42_s5 R (f 0) w)) noX) f w)) ((fun f w h => skip_ok h) f w) ((fun f w h => exit_hit h) f w) h))
def F42_s7_t (R : Ending → World → Prop) (K : Value → Value → Value → World → Prop) (v0 : Value) (v3 : Value) (w : World) : Prop :=
  un Try.prog R (builtin Go.Builtin.len #[38] 3 #[false] #[v0]) w (fun v12 w => -- slices.go:375
  uv Try.prog R (binS Go.BinOp.lss 3 (.tmp 10) (.tmp 12) v3 v12) w (fun v13 w => -- slices.go:375
  K v0 v3 v13 w))
theorem F42_s7_st (R : Ending → World → Prop) (K : Value → Value → Value → World → Prop) (X : Nat → Fr → World → Prop) (f : Fr) (w : World) (h : F42_s7_t R K (f 0) (f 3) w) : wpE Try.prog F42_dc (resK Try.prog [.tmp 2] R) (panK R) (cL (cL (cI (cI (cR (cL (cR (cR F42_b)))))))) (fun f w => K (f 0) (f 3) (f 13) w) X f w := Eq.mp (by kernel_rfl) h
def F42_s7 (R : Ending → World → Prop) (rec6 : Value → World → Prop) (v0 : Value) (v3 : Value) (w : World) : Prop :=
  F42_s7_t R (F42_s8 R rec6) v0 v3 w
noncomputable def F42_s7_c : Code := (.seq (cL (cL (cI (cI (cR (cL (cR (cR F42_b)))))))) F42_s8_c)
theorem F42_s7_ok (R : Ending → World → Prop) (rec6 : Value → World → Prop) : ∀ f w, ((fun f w => F42_s7 R rec6 (f 0) (f 3) w)) f w → wpE Try.prog F42_dc (resK Try.prog [.tmp 2] R) (panK R) F42_s7_c (fun f w => rec6 (f 3) w) (kxB 0 ((fun f w => F42_s5 R (f 0) w)) noX) f w :=
  fun f w h => cut (cL (cL (cI (cI (cR (cL (cR (cR F42_b)))))))) F42_s8_c (K := (fun f w => F42_s8 R rec6 (f 0) (f 3) (f 13) w)) (F42_s8_ok R rec6) f w (F42_s7_st R (F42_s8 R rec6) _ f w h)
def F42_s6 (R : Ending → World → Prop) (v0 : Value) (v3 : Value) (w : World) : Prop :=
  Lp1 (fun rec6 v3 w => F42_s7 R rec6 v0 v3 w) v3 w
theorem F42_s6_e (R : Ending → World → Prop) (K : Fr → World → Prop) (X : Nat → Fr → World → Prop) (f : Fr) (w : World) (h : wpE Try.prog F42_dc (resK Try.prog [.tmp 2] R) (panK R) (.loop (cI (cI (cR (cL (cR (cR F42_b))))))) K X f w) : wpE Try.prog F42_dc (resK Try.prog [.tmp 2] R) (panK R) (cI (cR (cL (cR (cR F42_b))))) K X f w := Eq.mp (by kernel_rfl) h
theorem F42_s6b_e (R : Ending → World → Prop) (K : Fr → World → Prop) (X : Nat → Fr → World → Prop) (f : Fr) (w : World) (h : wpE Try.prog F42_dc (resK Try.prog [.tmp 2] R) (panK R) F42_s7_c K X f w) : wpE Try.prog F42_dc (resK Try.prog [.tmp 2] R) (panK R) (cI (cI (cR (cL (cR (cR F42_b)))))) K X f w := Eq.mp (by kernel_rfl) h
theorem F42_s6_ok (R : Ending → World → Prop) : ∀ f w, ((fun f w => F42_s6 R (f 0) (f 3) w)) f w → wpE Try.prog F42_dc (resK Try.prog [.tmp 2] R) (panK R) (cI (cR (cL (cR (cR F42_b))))) (fun f w => F42_s5 R (f 0) w) (kxB 0 ((fun f w => F42_s5 R (f 0) w)) noX) f w :=
  fun f w h => F42_s6_e R _ _ f w (loop1_ok (P := Try.prog) (dc := F42_dc) (kr := (resK Try.prog [.tmp 2] R)) (pan := panK R) (cI (cI (cR (cL (cR (cR F42_b)))))) (kn := (fun f w => F42_s5 R (f 0) w)) (kx := (kxB 0 ((fun f w => F42_s5 R (f 0) w)) noX)) (s0 := 3) (fun rec6 v3 w => F42_s7 R rec6 (f 0) v3 w) f (fun rec6 f' w' hf h' => F42_s6b_e R _ _ f' w' ((F42_s7_ok R rec6) f' w' (by simp only [hf 0 (by kernel_rfl)]; exact h'))) w h)
noncomputable def F42_s4_c : Code := (.seq (cR (cL (cR (cR F42_b)))) F42_s5_c)
theorem F42_s4_e (R : Ending → World → Prop) (K : Fr → World → Prop) (X : Nat → Fr → World → Prop) (f : Fr) (w : World) (h : wpE Try.prog F42_dc (resK Try.prog [.tmp 2] R) (panK R) (cI (cR (cL (cR (cR F42_b))))) K (kxB 0 K X) f w) : wpE Try.prog F42_dc (resK Try.prog [.tmp 2] R) (panK R) (cR (cL (cR (cR F42_b)))) K X f w := Eq.mp (by kernel_rfl) h
theorem F42_s4_ok (R : Ending → World → Prop) : ∀ f w, ((fun f w => F42_s6 R (f 0) (f 3) w)) f w → wpE Try.prog F42_dc (resK Try.prog [.tmp 2] R) (panK R) F42_s4_c (resK Try.prog [.tmp 2] R) noX f w :=
  fun f w h => cut (cR (cL (cR (cR F42_b)))) F42_s5_c (K := (fun f w => F42_s5 R (f 0) w)) (F42_s5_ok R) f w (F42_s4_e R _ _ f w ((F42_s6_ok R) f w h))
def F42_s3_t (R : Ending → World → Prop) (K : Value → Value → World → Prop) (v0 : Value) (w : World) : Prop :=
  K v0 (Go.Value.int Go.IntKind.i64 1) w
theorem F42_s3_st (R : Ending → World → Prop) (K : Value → Value → World → Prop) (X : Nat → Fr → World → Prop) (f : Fr) (w : World) (h : F42_s3_t R K (f 0) w) : wpE Try.prog F42_dc (resK Try.prog [.tmp 2] R) (panK R) (cL (cL (cR (cR F42_b)))) (fun f w => K (f 0) (f 3) w) X f w := Eq.mp (by kernel_rfl) h
def F42_s3 (R : Ending → World → Prop) (v0 : Value) (w : World) : Prop :=
  F42_s3_t R (F42_s6 R) v0 w
noncomputable def F42_s3_c : Code := (.seq (cL (cL (cR (cR F42_b)))) F42_s4_c)
theorem F42_s3_ok (R : Ending → World → Prop) : ∀ f w, ((fun f w => F42_s3 R (f 0) w)) f w → wpE Try.prog F42_dc (resK Try.prog [.tmp 2] R) (panK R) F42_s3_c (resK Try.prog [.tmp 2] R) noX f w :=
  fun f w h => cut (cL (cL (cR (cR F42_b)))) F42_s4_c (K := (fun f w => F42_s6 R (f 0) (f 3) w)) (F42_s4_ok R) f w (F42_s3_st R (F42_s6 R) _ f w h)
def F42_s24_t (R : Ending → World → Prop) (v0 : Value) (w : World) : Prop :=
  R (.returned v0) w
theorem F42_s24_st (R : Ending → World → Prop) (X : Nat → Fr → World → Prop) (f : Fr) (w : World) (h : F42_s24_t R (f 0) w) : wpE Try.prog F42_dc (resK Try.prog [.tmp 2] R) (panK R) (cL (cT (cR (cL (cR F42_b))))) (resK Try.prog [.tmp 2] R) X f w := Eq.mp (by kernel_rfl) h
def F42_s24 (R : Ending → World → Prop) (v0 : Value) (w : World) : Prop :=
  F42_s24_t R v0 w
noncomputable def F42_s24_c : Code := (.seq (cL (cT (cR (cL (cR F42_b))))) .ret)
theorem F42_s24_ok (R : Ending → World → Prop) : ∀ f w, ((fun f w => F42_s24 R (f 0) w)) f w → wpE Try.prog F42_dc (resK Try.prog [.tmp 2] R) (panK R) F42_s24_c (fun f w => F42_s3 R (f 0) w) noX f w :=
  fun f w h => cut (cL (cT (cR (cL (cR F42_b))))) .ret (K := (resK Try.prog [.tmp 2] R)) (fun f w h => ret_ok h) f w (F42_s24_st R _ f w h)
def F42_s2 (R : Ending → World → Prop) (v0 : Value) (v8 : Value) (w : World) : Prop :=
  Bc v8
    (F42_s24 R v0 w)
    (F42_s3 R v0 w)
noncomputable def F42_s2_c : Code := (.seq (cR (cL (cR F42_b))) F42_s3_c)
theorem F42_s2_e (R : Ending → World → Prop) (K : Fr → World → Prop) (X : Nat → Fr → World → Prop) (f : Fr) (w : World) (h : Bc (f 8) (wpE Try.prog F42_dc (resK Try.prog [.tmp 2] R) (panK R) F42_s24_c K X f w) (wpE Try.prog F42_dc (resK Try.prog [.tmp 2] R) (panK R) .skip K X f w)) : (wpE Try.prog F42_dc (resK Try.prog [.tmp 2] R) (panK R) (cR (cL (cR F42_b))) K X f w) := Eq.mp (by kernel_rfl) h
theorem F42_s2_ok (R : Ending → World → Prop) : ∀ f w, ((fun f w => F42_s2 R (f 0) (f 8) w)) f w → wpE Try.prog F42_dc (resK Try.prog [.tmp 2] R) (panK R) F42_s2_c (resK Try.prog [.tmp 2] R) noX f w :=
  fun f w h => cut (cR (cL (cR F42_b))) F42_s3_c (K := (fun f w => F42_s3 R (f 0) w)) (F42_s3_ok R) f w (F42_s2_e R _ _ f w (Bc_imp (x' := (wpE Try.prog F42_dc (resK Try.prog [.tmp 2] R) (panK R) F42_s24_c (fun f w => F42_s3 R (f 0) w) noX f w)) (y' := (wpE Try.prog F42_dc (resK Try.prog [.tmp 2] R) (panK R) .skip (fun f w => F42_s3 R (f 0) w) noX f w)) ((F42_s24_ok R) f w) ((fun f w h => skip_ok h) f w) h))
def F42_s1_t (R : Ending → World → Prop) (K : Value → Value → World → Prop) (v0 : Value) (w : World) : Prop :=
  un Try.prog R (builtin Go.Builtin.len #[38] 3 #[false] #[v0]) w (fun v7 w => -- slices.go:372
  uv Try.prog R (binS Go.BinOp.lss 3 (.tmp 7) (.const (Go.Value.int Go.IntKind.i64 2)) v7 (Go.Value.int Go.IntKind.i64 2)) w (fun v8 w => -- slices.go:372
  K v0 v8 w))
theorem F42_s1_st (R : Ending → World → Prop) (K : Value → Value → World → Prop) (X : Nat → Fr → World → Prop) (f : Fr) (w : World) (h : F42_s1_t R K (f 0) w) : wpE Try.prog F42_dc (resK Try.prog [.tmp 2] R) (panK R) (.seq (cL F42_b) (cL (cL (cR F42_b)))) (fun f w => K (f 0) (f 8) w) X f w := Eq.mp (by kernel_rfl) h
def F42_s1 (R : Ending → World → Prop) (v0 : Value) (w : World) : Prop :=
  F42_s1_t R (F42_s2 R) v0 w
noncomputable def F42_s1_c : Code := (.seq (.seq (cL F42_b) (cL (cL (cR F42_b)))) F42_s2_c)
theorem F42_s1_ok (R : Ending → World → Prop) : ∀ f w, ((fun f w => F42_s1 R (f 0) w)) f w → wpE Try.prog F42_dc (resK Try.prog [.tmp 2] R) (panK R) F42_s1_c (resK Try.prog [.tmp 2] R) noX f w :=
  fun f w h => cut (.seq (cL F42_b) (cL (cL (cR F42_b)))) F42_s2_c (K := (fun f w => F42_s2 R (f 0) (f 8) w)) (F42_s2_ok R) f w (F42_s1_st R (F42_s2 R) _ f w h)
theorem F42_all_e (R : Ending → World → Prop) (K : Fr → World → Prop) (X : Nat → Fr → World → Prop) (f : Fr) (w : World) (h : wpE Try.prog F42_dc (resK Try.prog [.tmp 2] R) (panK R) F42_s1_c K X f w) : wpE Try.prog F42_dc (resK Try.prog [.tmp 2] R) (panK R) F42_b K X f w := Eq.mp (by kernel_rfl) h
theorem F42_calls (R : Ending → World → Prop) (v0 : Value) (w : World) (h : F42_s1 R v0 w) : Calls Try.prog 42 #[v0] w R :=
  calls_of_wpE (dc := F42_dc) (args := [v0]) hmixed Try.func42 (c := F42_b) rfl (rs := [.tmp 2]) rfl (by kernel_rfl) (Nat.le_of_ble_eq_true (by kernel_rfl)) (F42_all_e R _ _ _ w ((F42_s1_ok R) (initFr [v0]) w h))

end Go.Proofs.Ytpghlemcgjogpaa
